/- The functions do what they ask for. No condition. -/
import Derived.Test.YtoajfmmomgpjcaaXfS
namespace Go.Proofs.Ytoajfmmomgpjcaa.H
open Go
set_option linter.unusedVariables false
set_option maxRecDepth 100000

set_option maxHeartbeats 4000000 in
theorem C_countermandlaw13_DraftOrder.of {B : RO} {a1 : Option Addr} {n2 : Nat} {c3 : Nat} {i4 : Int} {h : Heap} {Q : Bool → Heap → Prop} (hS : S_countermandlaw13_DraftOrder B a1 n2 c3 i4 h Q) : C_countermandlaw13_DraftOrder B a1 n2 c3 i4 h Q := by
  unfold S_countermandlaw13_DraftOrder at hS
  unfold C_countermandlaw13_DraftOrder
  refine Spec.of_run Try.func12 (N := 110) (rs := [ResultVar.cell 4 4]) rfl rfl rfl (Nat.le_of_ble_eq_true rfl) ?_
  refine Run.seq ?_
  refine Run.ops0 (idx := [0]) rfl ?_
  refine Run.go rfl rfl rfl (sem_allocN [(Value.bool false)] TF.zero_4 (fun k6 hb1 hb2 h7 hb3 => ?_))
  have hS := hS k6 hb1 hb2 h7 hb3
  refine Run.region_end ?_
  refine Run.seq ?_
  refine Run.seq ?_
  refine Run.ops0 (idx := [0, 1]) rfl ?_
  refine Run.go rfl rfl rfl (sem_callL [] (TF.goes_62) rfl rfl (Spec.mono hS fun v h8 hv => ?_))
  obtain ⟨b9, rfl, hS⟩ := hv
  obtain ⟨hT, hF⟩ := hS
  cases b9
  · have hS := hF rfl; clear hT hF
    refine Run.go rfl rfl rfl (sem_not false rfl ?_)
    refine Run.region_end ?_
    refine Run.condT rfl ?_
    refine Run.seq ?_
    refine Run.ops0 (idx := [0]) rfl ?_
    obtain ⟨h10, hst, hS⟩ := hS
    refine Run.go rfl rfl rfl (sem_store1 ⟨k6, 0, none⟩ ((Value.bool false)) h10 rfl rfl rfl TF.sz_4 hst ?_)
    refine Run.region_end ?_
    obtain ⟨b11, hl0, hS⟩ := hS
    refine Run.ret ⟨.inr rfl, ?_⟩
    exact ⟨⟨k6, 0, none⟩, (Value.bool b11), rfl, loadH1 TF.agg_4 hl0, hS.imp fun h' hq => ⟨(b11), rfl, hq⟩⟩
  · have hS := hT rfl; clear hT hF
    refine Run.go rfl rfl rfl (sem_not true rfl ?_)
    refine Run.region_end ?_
    refine Run.condF rfl ?_
    refine Run.skip ?_
    refine Run.seqJ (fun e h13 => Agree [(0, (Value.slice a1 n2 c3)), (1, (Value.int .i64 (i4))), (4, (Value.pointer (some ⟨k6, 0, none⟩)))] e ∧ S_countermandlaw13_DraftOrder_J1 B a1 n2 c3 i4 k6 h13 Q) ?_ fun j12 => ?_
    · rintro e h13 ⟨hag, hS⟩
      refine Run.env hag ?_; clear hag
      refine Run.seq ?_
      refine Run.ops0 (idx := [0, 1, 2, 3, 4, 5, 6]) rfl ?_
      refine Run.go rfl rfl rfl (sem_buildSL [] [(Value.slice none 0 0)] TF.zero_122 TF.places_122 rfl rfl ?_)
      refine Run.go rfl rfl rfl (sem_boxNN [(Value.slice none 0 0)] rfl (fun k14 hb1 hb2 h15 hb3 => ?_))
      have hS := hS k14 hb1 hb2 h15 hb3
      refine Run.go rfl rfl rfl (sem_buildSL [] [(Value.slice none 0 0)] TF.zero_122 TF.places_122 rfl rfl ?_)
      refine Run.go rfl rfl rfl (sem_boxNN [(Value.slice none 0 0)] rfl (fun k16 hb1 hb2 h17 hb3 => ?_))
      have hS := hS k16 hb1 hb2 h17 hb3
      refine Run.go rfl rfl rfl (sem_allocN [(Value.pointer none)] TF.zero_119 (fun k18 hb1 hb2 h19 hb3 => ?_))
      have hS := hS k18 hb1 hb2 h19 hb3
      refine Run.go rfl rfl rfl (sem_assign ((Value.pointer (some ⟨k14, 0, none⟩))) rfl ?_)
      obtain ⟨h20, hst, hS⟩ := hS
      refine Run.go rfl rfl rfl (sem_store1 ⟨k18, 0, none⟩ ((Value.pointer (some ⟨k16, 0, none⟩))) h20 rfl rfl rfl TF.sz_119 hst ?_)
      refine Run.region_end ?_
      refine Run.seqJ (fun e h22 => Agree [(0, (Value.slice a1 n2 c3)), (1, (Value.int .i64 (i4))), (4, (Value.pointer (some ⟨k6, 0, none⟩))), (5, (Value.pointer (some ⟨k14, 0, none⟩))), (6, (Value.pointer (some ⟨k18, 0, none⟩)))] e ∧ S_countermandlaw13_DraftOrder_J2 B a1 n2 c3 i4 k6 k14 k18 h22 Q) ?_ fun j21 => ?_
      · rintro e h22 ⟨hag, hS⟩
        refine Run.env hag ?_; clear hag
        refine Run.seq ?_
        refine Run.ops0 (idx := [0, 1, 2]) rfl ?_
        refine Run.go rfl rfl rfl (sem_move ((Value.slice a1 n2 c3)) rfl ?_)
        refine Run.go rfl rfl rfl (sem_callL [(Value.slice a1 n2 c3)] (TF.goes_63) rfl rfl (Spec.mono hS fun v h23 hv => ?_))
        obtain ⟨a24, n25, c26, rfl, hS⟩ := hv
        refine Run.go rfl rfl rfl (sem_assign ((Value.slice a24 n25 c26)) rfl ?_)
        refine Run.region_end ?_
        refine Run.seqJ (fun e h28 => Agree [(4, (Value.pointer (some ⟨k6, 0, none⟩))), (5, (Value.pointer (some ⟨k14, 0, none⟩))), (6, (Value.pointer (some ⟨k18, 0, none⟩)))] e ∧ S_countermandlaw13_DraftOrder_J3 B k6 k14 k18 h28 Q) ?_ fun j27 => ?_
        · rintro e h28 ⟨hag, hS⟩
          refine Run.env hag ?_; clear hag
          refine Run.seq ?_
          refine Run.seq ?_
          skip
          obtain ⟨p30, hl, hS⟩ := hS
          have f31 := hl
          refine Run.draw (fun h' => cellH B h' ⟨k18, 0, none⟩ = some (Value.pointer p30) ∧ True) [] [.q 0, .q 2, .x 1, .x 3, .q 4] TF.mixed (by kernel_rfl) ⟨f31, trivial⟩ ?_
          refine RunO.quiet rfl rfl rfl (fun h' hC => sem_move ((Value.pointer (some ⟨k14, 0, none⟩))) rfl ⟨rfl, rfl⟩) ?_
          refine RunO.quiet rfl rfl rfl (fun h' hC => sem_load1 ⟨k18, 0, none⟩ ((Value.pointer p30)) rfl TF.agg_119 hC.1 ⟨rfl, rfl⟩) ?_
          refine OpH.go rfl rfl rfl (sem_callL [(Value.pointer (some ⟨k14, 0, none⟩))] (TF.goes_66) rfl rfl (Spec.mono hS fun v h32 hv => ?_))
          obtain ⟨i33, rfl, hS⟩ := hv
          obtain ⟨g34, hS⟩ := hS
          refine ⟨fun _ => ⟨g34, trivial⟩, ?_⟩
          refine OpH.go rfl rfl rfl (sem_callL [(Value.pointer p30)] (TF.goes_66) rfl rfl (Spec.mono hS fun v h35 hv => ?_))
          obtain ⟨i36, rfl, hS⟩ := hv
          obtain ⟨g37, hS⟩ := hS
          refine ⟨fun _ => ⟨g37, trivial⟩, ?_⟩
          obtain ⟨hT, hF⟩ := hS
          by_cases hb38 : (i33 : Int) = i36
          · have hS := hT hb38; clear hT hF
            refine RunO.quiet rfl rfl rfl (fun h' hC => sem_binI .i64 (i33) (i36) (.bool false) rfl rfl (binI_neq_t hb38) ⟨rfl, rfl⟩) ?_
            refine Run.condF rfl ?_
            refine Run.skip ?_
            refine Run.seq ?_
            refine Run.seq ?_
            refine Run.ops0 (idx := [0, 1]) rfl ?_
            refine Run.go rfl rfl rfl (sem_move ((Value.pointer (some ⟨k14, 0, none⟩))) rfl ?_)
            refine Run.go rfl rfl rfl (sem_callL [(Value.pointer (some ⟨k14, 0, none⟩))] (TF.goes_67) rfl rfl (Spec.mono hS fun v40 h39 hv => ?_))
            obtain ⟨_, rfl, hS⟩ := hv
            refine Run.region_end ?_
            refine Run.block ?_
            obtain ⟨xs47, G43, J46, hit, hins, hG, h0, hS, hR⟩ := hS
            refine Run.of_fin (h0.imp fun h' h0 => ?_)
            refine Run.range (v40) (xs47.map (fun x : Int × Int => [(Value.int .i64 (x.1)), (Value.int .i64 (x.2))])) G43 J46 rfl hit hins hG h0 rfl (fun a ha => by obtain ⟨x, _, rfl⟩ := List.mem_map.1 ha; rfl) ?_ ?_
            · rintro q45 args h44 ha hJ
              obtain ⟨⟨i41, i42⟩, hx, rfl⟩ := Option.map_eq_some_iff.1 ((List.getElem?_map ..).symm.trans ha)
              have hS := hS q45 h44 i41 i42 hx hJ; clear hJ hx ha
              refine Run.seq ?_
              refine Run.ops0 (idx := [0]) rfl ?_
              refine Run.go rfl rfl rfl (sem_assign ((Value.int .i64 (i41))) rfl ?_)
              refine Run.region_end ?_
              refine Run.ops0 (idx := [0]) rfl ?_
              refine Run.go rfl rfl rfl (sem_assign ((Value.int .i64 (i42))) rfl ?_)
              refine Run.region_end ?_
              refine Run.begin ⟨rfl, ?_⟩
              refine Run.block ?_
              refine Run.seq ?_
              refine Run.ops0 (idx := [0, 1, 2, 3, 4, 5, 6, 7]) rfl ?_
              obtain ⟨p48, hl, hS⟩ := hS
              refine Run.go rfl rfl rfl (sem_load1 ⟨k18, 0, none⟩ ((Value.pointer p48)) rfl TF.agg_119 hl ?_)
              refine Run.go rfl rfl rfl (sem_move ((Value.int .i64 (i41))) rfl ?_)
              refine Run.go rfl rfl rfl (sem_callL [(Value.pointer p48), (Value.int .i64 (i41))] (TF.goes_68) rfl rfl (Spec.mono hS fun v h49 hv => ?_))
              obtain ⟨i50, b51, rfl, hS⟩ := hv
              refine Run.go rfl rfl rfl (sem_move ((Value.tuple #[(Value.int .i64 (i50)), (Value.bool b51)])) rfl ?_)
              refine Run.go rfl rfl rfl (sem_extract #[(Value.int .i64 (i50)), (Value.bool b51)] ((Value.int .i64 (i50))) rfl rfl ?_)
              obtain ⟨hT, hF⟩ := hS
              cases b51
              · have hS := hF rfl; clear hT hF
                refine Run.go rfl rfl rfl (sem_extract #[(Value.int .i64 (i50)), (Value.bool false)] (.bool false) rfl rfl ?_)
                refine Run.go rfl rfl rfl (sem_assign ((Value.int .i64 (i50))) rfl ?_)
                refine Run.go rfl rfl rfl (sem_assign ((Value.bool false)) rfl ?_)
                refine Run.region_end ?_
                refine Run.seq ?_
                refine Run.ops0 (idx := [0, 1, 2, 3, 4, 5, 6]) rfl ?_
                refine Run.go rfl rfl rfl (sem_move ((Value.bool false)) rfl ?_)
                refine Run.go rfl rfl rfl (sem_not false rfl ?_)
                refine Run.go rfl rfl rfl (sem_move ((Value.bool true)) rfl ?_)
                refine Run.no rfl rfl rfl ?_
                refine Run.no rfl rfl rfl ?_
                refine Run.no rfl rfl rfl ?_
                refine Run.go rfl rfl rfl (sem_pick true ((Value.bool true)) rfl rfl ?_)
                refine Run.region_end ?_
                refine Run.condT rfl ?_
                refine Run.seq ?_
                refine Run.ops0 (idx := [0]) rfl ?_
                obtain ⟨h52, hst, hS⟩ := hS
                refine Run.go rfl rfl rfl (sem_store1 ⟨k6, 0, none⟩ ((Value.bool false)) h52 rfl rfl rfl TF.sz_4 hst ?_)
                refine Run.region_end ?_
                refine Run.ret (.inr ⟨_, rfl, ?_⟩)
                obtain ⟨b53, hl0, hS⟩ := hS
                refine Run.ret ⟨.inr rfl, ?_⟩
                exact ⟨⟨k6, 0, none⟩, (Value.bool b53), rfl, loadH1 TF.agg_4 hl0, hS.imp fun h' hq => ⟨(b53), rfl, hq⟩⟩
              · have hS := hT rfl; clear hT hF
                refine Run.go rfl rfl rfl (sem_extract #[(Value.int .i64 (i50)), (Value.bool true)] (.bool true) rfl rfl ?_)
                refine Run.go rfl rfl rfl (sem_assign ((Value.int .i64 (i50))) rfl ?_)
                refine Run.go rfl rfl rfl (sem_assign ((Value.bool true)) rfl ?_)
                refine Run.region_end ?_
                refine Run.seq ?_
                refine Run.ops0 (idx := [0, 1, 2, 3, 4, 5, 6]) rfl ?_
                refine Run.go rfl rfl rfl (sem_move ((Value.bool true)) rfl ?_)
                refine Run.go rfl rfl rfl (sem_not true rfl ?_)
                refine Run.go rfl rfl rfl (sem_move ((Value.bool false)) rfl ?_)
                refine Run.go rfl rfl rfl (sem_move ((Value.int .i64 (i50))) rfl ?_)
                refine Run.go rfl rfl rfl (sem_move ((Value.int .i64 (i42))) rfl ?_)
                obtain ⟨hT, hF⟩ := hS
                by_cases hb54 : (i50 : Int) = i42
                · have hS := hT hb54; clear hT hF
                  refine Run.go rfl rfl rfl (sem_binI .i64 (i50) (i42) (.bool false) rfl rfl (binI_neq_t hb54) ?_)
                  refine Run.go rfl rfl rfl (sem_pick false ((Value.bool false)) rfl rfl ?_)
                  refine Run.region_end ?_
                  refine Run.condF rfl ?_
                  refine Run.skip ?_
                  refine Run.inBlock ?_
                  refine Run.of_fin (hS.imp fun h' hS => ?_)
                  exact Run.fall (.inl ⟨rfl, hS⟩)
                · have hS := hF hb54; clear hT hF
                  refine Run.go rfl rfl rfl (sem_binI .i64 (i50) (i42) (.bool true) rfl rfl (binI_neq_f hb54) ?_)
                  refine Run.go rfl rfl rfl (sem_pick false ((Value.bool true)) rfl rfl ?_)
                  refine Run.region_end ?_
                  refine Run.condT rfl ?_
                  refine Run.seq ?_
                  refine Run.ops0 (idx := [0]) rfl ?_
                  obtain ⟨h55, hst, hS⟩ := hS
                  refine Run.go rfl rfl rfl (sem_store1 ⟨k6, 0, none⟩ ((Value.bool false)) h55 rfl rfl rfl TF.sz_4 hst ?_)
                  refine Run.region_end ?_
                  refine Run.ret (.inr ⟨_, rfl, ?_⟩)
                  obtain ⟨b56, hl0, hS⟩ := hS
                  refine Run.ret ⟨.inr rfl, ?_⟩
                  exact ⟨⟨k6, 0, none⟩, (Value.bool b56), rfl, loadH1 TF.agg_4 hl0, hS.imp fun h' hq => ⟨(b56), rfl, hq⟩⟩
            · intro h44 hJ
              have hS := hR h44 (by simpa using hJ); clear hJ hR
              refine Run.inBlock ?_
              refine Run.seq ?_
              refine Run.ops0 (idx := [0]) rfl ?_
              obtain ⟨h57, hst, hS⟩ := hS
              refine Run.go rfl rfl rfl (sem_store1 ⟨k6, 0, none⟩ ((Value.bool true)) h57 rfl rfl rfl TF.sz_4 hst ?_)
              refine Run.region_end ?_
              obtain ⟨b58, hl0, hS⟩ := hS
              refine Run.ret ⟨.inr rfl, ?_⟩
              exact ⟨⟨k6, 0, none⟩, (Value.bool b58), rfl, loadH1 TF.agg_4 hl0, hS.imp fun h' hq => ⟨(b58), rfl, hq⟩⟩
          · have hS := hF hb38; clear hT hF
            refine RunO.quiet rfl rfl rfl (fun h' hC => sem_binI .i64 (i33) (i36) (.bool true) rfl rfl (binI_neq_f hb38) ⟨rfl, rfl⟩) ?_
            refine Run.condT rfl ?_
            refine Run.seq ?_
            refine Run.ops0 (idx := [0]) rfl ?_
            obtain ⟨h59, hst, hS⟩ := hS
            refine Run.go rfl rfl rfl (sem_store1 ⟨k6, 0, none⟩ ((Value.bool false)) h59 rfl rfl rfl TF.sz_4 hst ?_)
            refine Run.region_end ?_
            obtain ⟨b60, hl0, hS⟩ := hS
            refine Run.ret ⟨.inr rfl, ?_⟩
            exact ⟨⟨k6, 0, none⟩, (Value.bool b60), rfl, loadH1 TF.agg_4 hl0, hS.imp fun h' hq => ⟨(b60), rfl, hq⟩⟩
        refine Run.seq ?_
        refine Run.ops0 (idx := [0, 1, 2]) rfl ?_
        refine Run.go rfl rfl rfl (sem_move ((Value.slice a24 n25 c26)) rfl ?_)
        refine Run.go rfl rfl rfl (sem_lenSl a24 n25 c26 rfl TF.sl_84 ?_)
        refine Run.go rfl rfl rfl (sem_move ((Value.int .i64 (0))) rfl ?_)
        refine Run.region_end ?_
        refine Run.block ?_
        obtain ⟨J66, m64, h0, hS⟩ := hS
        refine Run.of_fin (h0.imp fun h' h0 => ?_)
        refine Run.loop (σ := Int × Nat) (fun x e h => J66 x.1 x.2 h ∧ Agree [(0, (Value.slice a1 n2 c3)), (1, (Value.int .i64 (i4))), (4, (Value.pointer (some ⟨k6, 0, none⟩))), (5, (Value.pointer (some ⟨k14, 0, none⟩))), (6, (Value.pointer (some ⟨k18, 0, none⟩))), (11, (Value.slice a24 n25 c26)), (60, (Value.int .i64 ((n25 : Nat)))), (61, (Value.int .i64 (x.1)))] e) (fun x => x.2) ((0), m64) ⟨h0, ⟨rfl, rfl, rfl, rfl, rfl, rfl, rfl, rfl, trivial⟩⟩ ?_; clear h0
        rintro ⟨i61, m63⟩ e h62 ⟨hJ, hag⟩ ih65
        have hS := hS i61 m63 h62 hJ; clear hJ
        refine Run.env hag ?_; clear hag
        refine Run.seq ?_
        refine Run.ops0 (idx := [0]) rfl ?_
        obtain ⟨hT, hF⟩ := hS
        by_cases hb67 : (i61 : Int) < ((n25 : Nat))
        · have hS := hT hb67; clear hT hF
          refine Run.go rfl rfl rfl (sem_binI .i64 (i61) ((n25 : Nat)) (.bool true) rfl rfl (binI_lss_t hb67) ?_)
          refine Run.region_end ?_
          refine Run.seq ?_
          refine Run.condT rfl ?_
          refine Run.skip ?_
          refine Run.seq ?_
          refine Run.block ?_
          refine Run.seq ?_
          refine Run.ops0 (idx := [0, 1]) rfl ?_
          refine Run.go rfl rfl rfl (sem_move ((Value.int .i64 (i61))) rfl ?_)
          refine Run.go rfl rfl rfl (sem_assign ((Value.int .i64 (i61))) rfl ?_)
          refine Run.region_end ?_
          refine Run.seq ?_
          refine Run.ops0 (idx := [0, 1, 2, 3, 4, 5, 6, 7, 8, 9, 10, 11, 12, 13]) rfl ?_
          refine Run.go rfl rfl rfl (sem_move ((Value.slice a24 n25 c26)) rfl ?_)
          refine Run.go rfl rfl rfl (sem_move ((Value.slice a24 n25 c26)) rfl ?_)
          refine Run.go rfl rfl rfl (sem_lenSl a24 n25 c26 rfl TF.sl_84 ?_)
          refine Run.go rfl rfl rfl (sem_binI .i64 ((n25 : Nat)) (1) ((Value.int .i64 (IntKind.wrap .i64 (((n25 : Nat)) - (1))))) rfl rfl rfl ?_)
          refine Run.go rfl rfl rfl (sem_move ((Value.int .i64 (i61))) rfl ?_)
          refine Run.go rfl rfl rfl (sem_binI .i64 (IntKind.wrap .i64 (((n25 : Nat)) - (1))) (i61) ((Value.int .i64 (IntKind.wrap .i64 ((IntKind.wrap .i64 (((n25 : Nat)) - (1))) - (i61))))) rfl rfl rfl ?_)
          refine Run.go rfl rfl rfl (sem_move ((Value.int .i64 (i4))) rfl ?_)
          refine Run.go rfl rfl rfl (sem_binI .i64 (IntKind.wrap .i64 ((IntKind.wrap .i64 (((n25 : Nat)) - (1))) - (i61))) (i4) ((Value.int .i64 (IntKind.wrap .i64 ((IntKind.wrap .i64 ((IntKind.wrap .i64 (((n25 : Nat)) - (1))) - (i61))) + (i4))))) rfl rfl rfl ?_)
          refine Run.go rfl rfl rfl (sem_move ((Value.slice a24 n25 c26)) rfl ?_)
          refine Run.go rfl rfl rfl (sem_lenSl a24 n25 c26 rfl TF.sl_84 ?_)
          obtain ⟨hi0, hS⟩ := hS
          refine Run.go rfl rfl rfl (sem_binI .i64 (IntKind.wrap .i64 ((IntKind.wrap .i64 ((IntKind.wrap .i64 (((n25 : Nat)) - (1))) - (i61))) + (i4))) ((n25 : Nat)) ((Value.int .i64 (Int.tmod (IntKind.wrap .i64 ((IntKind.wrap .i64 ((IntKind.wrap .i64 (((n25 : Nat)) - (1))) - (i61))) + (i4))) ((n25 : Nat))))) rfl rfl (binI_rem hi0) ?_)
          obtain ⟨A68, e69, hi0, hi1, hS⟩ := hS
          refine Run.go rfl rfl rfl (sem_indexAddrS A68 n25 c26 .i64 (Int.tmod (IntKind.wrap .i64 ((IntKind.wrap .i64 ((IntKind.wrap .i64 (((n25 : Nat)) - (1))) - (i61))) + (i4))) ((n25 : Nat))) (congrArg (fun a => Value.slice a n25 c26) e69) rfl TF.slc_84 hi0 hi1 ?_)
          obtain ⟨i70, hl, hS⟩ := hS
          refine Run.go rfl rfl rfl (sem_load1 (Addr.add A68 (Int.toNat (Int.tmod (IntKind.wrap .i64 ((IntKind.wrap .i64 ((IntKind.wrap .i64 (((n25 : Nat)) - (1))) - (i61))) + (i4))) ((n25 : Nat))) * 1)) ((Value.int .i64 (i70))) rfl TF.agg_3 hl ?_)
          refine Run.go rfl rfl rfl (sem_assign ((Value.int .i64 (i70))) rfl ?_)
          refine Run.region_end ?_
          refine Run.seq ?_
          refine Run.ops0 (idx := [0, 1, 2, 3, 4, 5, 6, 7]) rfl ?_
          refine Run.go rfl rfl rfl (sem_move ((Value.slice a1 n2 c3)) rfl ?_)
          refine Run.go rfl rfl rfl (sem_move ((Value.int .i64 (i70))) rfl ?_)
          refine Run.go rfl rfl rfl (sem_callL [(Value.slice a1 n2 c3), (Value.int .i64 (i70))] (TF.goes_64) rfl rfl (Spec.mono hS fun v h71 hv => ?_))
          obtain ⟨i72, b73, rfl, hS⟩ := hv
          refine Run.go rfl rfl rfl (sem_move ((Value.tuple #[(Value.int .i64 (i72)), (Value.bool b73)])) rfl ?_)
          refine Run.go rfl rfl rfl (sem_extract #[(Value.int .i64 (i72)), (Value.bool b73)] ((Value.int .i64 (i72))) rfl rfl ?_)
          refine Run.go rfl rfl rfl (sem_extract #[(Value.int .i64 (i72)), (Value.bool b73)] ((Value.bool b73)) rfl rfl ?_)
          refine Run.go rfl rfl rfl (sem_assign ((Value.int .i64 (i72))) rfl ?_)
          refine Run.go rfl rfl rfl (sem_assign ((Value.bool b73)) rfl ?_)
          refine Run.region_end ?_
          refine Run.ops0 (idx := [0, 1, 2, 3]) rfl ?_
          obtain ⟨p74, hl, hS⟩ := hS
          refine Run.go rfl rfl rfl (sem_load1 ⟨k18, 0, none⟩ ((Value.pointer p74)) rfl TF.agg_119 hl ?_)
          refine Run.go rfl rfl rfl (sem_move ((Value.int .i64 (i70))) rfl ?_)
          refine Run.go rfl rfl rfl (sem_move ((Value.int .i64 (i72))) rfl ?_)
          refine Run.go rfl rfl rfl (sem_callL [(Value.pointer p74), (Value.int .i64 (i70)), (Value.int .i64 (i72))] (TF.goes_65) rfl rfl (Spec.mono hS fun v h75 hv => ?_))
          obtain ⟨b76, rfl, hS⟩ := hv
          refine Run.region_end ?_
          refine Run.inBlock ?_
          refine Run.ops0 (idx := [0, 1]) rfl ?_
          refine Run.go rfl rfl rfl (sem_binI .i64 (i61) (1) ((Value.int .i64 (IntKind.wrap .i64 ((i61) + (1))))) rfl rfl rfl ?_)
          refine Run.go rfl rfl rfl (sem_move ((Value.int .i64 (IntKind.wrap .i64 ((i61) + (1))))) rfl ?_)
          refine Run.region_end ?_
          exact Run.of_fin (hS.imp fun h' ⟨m', hm, hS⟩ => ih65 ((IntKind.wrap .i64 ((i61) + (1))), m') _ _ ⟨hS, ⟨rfl, rfl, rfl, rfl, rfl, rfl, rfl, rfl, trivial⟩⟩ hm)
        · have hS := hF hb67; clear hT hF
          refine Run.go rfl rfl rfl (sem_binI .i64 (i61) ((n25 : Nat)) (.bool false) rfl rfl (binI_lss_f hb67) ?_)
          refine Run.region_end ?_
          refine Run.seq ?_
          refine Run.condF rfl ?_
          refine Run.exit rfl ?_
          exact Run.of_fin (hS.imp fun h' hS => j27 _ _ ⟨⟨rfl, rfl, rfl, trivial⟩, hS⟩)
      refine Run.seq ?_
      refine Run.ops0 (idx := [0, 1, 2, 3]) rfl ?_
      refine Run.go rfl rfl rfl (sem_move ((Value.slice a1 n2 c3)) rfl ?_)
      refine Run.go rfl rfl rfl (sem_callL [(Value.slice a1 n2 c3)] (TF.goes_63) rfl rfl (Spec.mono hS fun v h77 hv => ?_))
      obtain ⟨a78, n79, c80, rfl, hS⟩ := hv
      refine Run.go rfl rfl rfl (sem_lenSl a78 n79 c80 rfl TF.sl_84 ?_)
      refine Run.go rfl rfl rfl (sem_move ((Value.int .i64 (0))) rfl ?_)
      refine Run.region_end ?_
      refine Run.block ?_
      obtain ⟨J86, m84, h0, hS⟩ := hS
      refine Run.of_fin (h0.imp fun h' h0 => ?_)
      refine Run.loop (σ := Int × Nat) (fun x e h => J86 x.1 x.2 h ∧ Agree [(0, (Value.slice a1 n2 c3)), (1, (Value.int .i64 (i4))), (4, (Value.pointer (some ⟨k6, 0, none⟩))), (5, (Value.pointer (some ⟨k14, 0, none⟩))), (6, (Value.pointer (some ⟨k18, 0, none⟩))), (40, (Value.slice a78 n79 c80)), (41, (Value.int .i64 ((n79 : Nat)))), (42, (Value.int .i64 (x.1)))] e) (fun x => x.2) ((0), m84) ⟨h0, ⟨rfl, rfl, rfl, rfl, rfl, rfl, rfl, rfl, trivial⟩⟩ ?_; clear h0
      rintro ⟨i81, m83⟩ e h82 ⟨hJ, hag⟩ ih85
      have hS := hS i81 m83 h82 hJ; clear hJ
      refine Run.env hag ?_; clear hag
      refine Run.seq ?_
      refine Run.ops0 (idx := [0]) rfl ?_
      obtain ⟨hT, hF⟩ := hS
      by_cases hb87 : (i81 : Int) < ((n79 : Nat))
      · have hS := hT hb87; clear hT hF
        refine Run.go rfl rfl rfl (sem_binI .i64 (i81) ((n79 : Nat)) (.bool true) rfl rfl (binI_lss_t hb87) ?_)
        refine Run.region_end ?_
        refine Run.seq ?_
        refine Run.condT rfl ?_
        refine Run.skip ?_
        refine Run.seq ?_
        refine Run.block ?_
        refine Run.seq ?_
        refine Run.ops0 (idx := [0, 1, 2]) rfl ?_
        obtain ⟨A88, e89, hi0, hi1, hS⟩ := hS
        refine Run.go rfl rfl rfl (sem_indexAddrS A88 n79 c80 .i64 (i81) (congrArg (fun a => Value.slice a n79 c80) e89) rfl TF.slc_84 hi0 hi1 ?_)
        obtain ⟨i90, hl, hS⟩ := hS
        refine Run.go rfl rfl rfl (sem_load1 (Addr.add A88 (Int.toNat (i81) * 1)) ((Value.int .i64 (i90))) rfl TF.agg_3 hl ?_)
        refine Run.go rfl rfl rfl (sem_assign ((Value.int .i64 (i90))) rfl ?_)
        refine Run.region_end ?_
        refine Run.seq ?_
        refine Run.ops0 (idx := [0, 1, 2, 3, 4, 5, 6, 7]) rfl ?_
        refine Run.go rfl rfl rfl (sem_move ((Value.slice a1 n2 c3)) rfl ?_)
        refine Run.go rfl rfl rfl (sem_move ((Value.int .i64 (i90))) rfl ?_)
        refine Run.go rfl rfl rfl (sem_callL [(Value.slice a1 n2 c3), (Value.int .i64 (i90))] (TF.goes_64) rfl rfl (Spec.mono hS fun v h91 hv => ?_))
        obtain ⟨i92, b93, rfl, hS⟩ := hv
        refine Run.go rfl rfl rfl (sem_move ((Value.tuple #[(Value.int .i64 (i92)), (Value.bool b93)])) rfl ?_)
        refine Run.go rfl rfl rfl (sem_extract #[(Value.int .i64 (i92)), (Value.bool b93)] ((Value.int .i64 (i92))) rfl rfl ?_)
        refine Run.go rfl rfl rfl (sem_extract #[(Value.int .i64 (i92)), (Value.bool b93)] ((Value.bool b93)) rfl rfl ?_)
        refine Run.go rfl rfl rfl (sem_assign ((Value.int .i64 (i92))) rfl ?_)
        refine Run.go rfl rfl rfl (sem_assign ((Value.bool b93)) rfl ?_)
        refine Run.region_end ?_
        refine Run.ops0 (idx := [0, 1, 2, 3]) rfl ?_
        refine Run.go rfl rfl rfl (sem_move ((Value.pointer (some ⟨k14, 0, none⟩))) rfl ?_)
        refine Run.go rfl rfl rfl (sem_move ((Value.int .i64 (i90))) rfl ?_)
        refine Run.go rfl rfl rfl (sem_move ((Value.int .i64 (i92))) rfl ?_)
        refine Run.go rfl rfl rfl (sem_callL [(Value.pointer (some ⟨k14, 0, none⟩)), (Value.int .i64 (i90)), (Value.int .i64 (i92))] (TF.goes_65) rfl rfl (Spec.mono hS fun v h94 hv => ?_))
        obtain ⟨b95, rfl, hS⟩ := hv
        refine Run.region_end ?_
        refine Run.inBlock ?_
        refine Run.ops0 (idx := [0, 1]) rfl ?_
        refine Run.go rfl rfl rfl (sem_binI .i64 (i81) (1) ((Value.int .i64 (IntKind.wrap .i64 ((i81) + (1))))) rfl rfl rfl ?_)
        refine Run.go rfl rfl rfl (sem_move ((Value.int .i64 (IntKind.wrap .i64 ((i81) + (1))))) rfl ?_)
        refine Run.region_end ?_
        exact Run.of_fin (hS.imp fun h' ⟨m', hm, hS⟩ => ih85 ((IntKind.wrap .i64 ((i81) + (1))), m') _ _ ⟨hS, ⟨rfl, rfl, rfl, rfl, rfl, rfl, rfl, rfl, trivial⟩⟩ hm)
      · have hS := hF hb87; clear hT hF
        refine Run.go rfl rfl rfl (sem_binI .i64 (i81) ((n79 : Nat)) (.bool false) rfl rfl (binI_lss_f hb87) ?_)
        refine Run.region_end ?_
        refine Run.seq ?_
        refine Run.condF rfl ?_
        refine Run.exit rfl ?_
        exact Run.of_fin (hS.imp fun h' hS => j21 _ _ ⟨⟨rfl, rfl, rfl, rfl, rfl, trivial⟩, hS⟩)
    refine Run.seq ?_
    refine Run.ops0 (idx := [0, 1, 2, 3, 4, 5, 6, 7, 8, 9, 10, 11, 12]) rfl ?_
    refine Run.go rfl rfl rfl (sem_move ((Value.slice a1 n2 c3)) rfl ?_)
    refine Run.go rfl rfl rfl (sem_lenSl a1 n2 c3 rfl TF.sl_118 ?_)
    obtain ⟨hT, hF⟩ := hS
    by_cases hb96 : ((n2 : Nat) : Int) > (80)
    · have hS := hT hb96; clear hT hF
      refine Run.go rfl rfl rfl (sem_binI .i64 ((n2 : Nat)) (80) (.bool true) rfl rfl (binI_gtr_t hb96) ?_)
      refine Run.go rfl rfl rfl (sem_move ((Value.bool true)) rfl ?_)
      refine Run.no rfl rfl rfl ?_
      refine Run.no rfl rfl rfl ?_
      refine Run.go rfl rfl rfl (sem_pick true ((Value.bool true)) rfl rfl ?_)
      refine Run.go rfl rfl rfl (sem_move ((Value.bool true)) rfl ?_)
      refine Run.no rfl rfl rfl ?_
      refine Run.no rfl rfl rfl ?_
      refine Run.no rfl rfl rfl ?_
      refine Run.no rfl rfl rfl ?_
      refine Run.go rfl rfl rfl (sem_pick true ((Value.bool true)) rfl rfl ?_)
      refine Run.region_end ?_
      refine Run.condT rfl ?_
      refine Run.seq ?_
      refine Run.ops0 (idx := [0]) rfl ?_
      obtain ⟨h97, hst, hS⟩ := hS
      refine Run.go rfl rfl rfl (sem_store1 ⟨k6, 0, none⟩ ((Value.bool true)) h97 rfl rfl rfl TF.sz_4 hst ?_)
      refine Run.region_end ?_
      obtain ⟨b98, hl0, hS⟩ := hS
      refine Run.ret ⟨.inr rfl, ?_⟩
      exact ⟨⟨k6, 0, none⟩, (Value.bool b98), rfl, loadH1 TF.agg_4 hl0, hS.imp fun h' hq => ⟨(b98), rfl, hq⟩⟩
    · have hS := hF hb96; clear hT hF
      refine Run.go rfl rfl rfl (sem_binI .i64 ((n2 : Nat)) (80) (.bool false) rfl rfl (binI_gtr_f hb96) ?_)
      refine Run.go rfl rfl rfl (sem_move ((Value.bool false)) rfl ?_)
      refine Run.go rfl rfl rfl (sem_move ((Value.int .i64 (i4))) rfl ?_)
      obtain ⟨hT, hF⟩ := hS
      by_cases hb99 : (i4 : Int) < (0)
      · have hS := hT hb99; clear hT hF
        refine Run.go rfl rfl rfl (sem_binI .i64 (i4) (0) (.bool true) rfl rfl (binI_lss_t hb99) ?_)
        refine Run.go rfl rfl rfl (sem_pick false ((Value.bool true)) rfl rfl ?_)
        refine Run.go rfl rfl rfl (sem_move ((Value.bool true)) rfl ?_)
        refine Run.no rfl rfl rfl ?_
        refine Run.no rfl rfl rfl ?_
        refine Run.no rfl rfl rfl ?_
        refine Run.no rfl rfl rfl ?_
        refine Run.go rfl rfl rfl (sem_pick true ((Value.bool true)) rfl rfl ?_)
        refine Run.region_end ?_
        refine Run.condT rfl ?_
        refine Run.seq ?_
        refine Run.ops0 (idx := [0]) rfl ?_
        obtain ⟨h100, hst, hS⟩ := hS
        refine Run.go rfl rfl rfl (sem_store1 ⟨k6, 0, none⟩ ((Value.bool true)) h100 rfl rfl rfl TF.sz_4 hst ?_)
        refine Run.region_end ?_
        obtain ⟨b101, hl0, hS⟩ := hS
        refine Run.ret ⟨.inr rfl, ?_⟩
        exact ⟨⟨k6, 0, none⟩, (Value.bool b101), rfl, loadH1 TF.agg_4 hl0, hS.imp fun h' hq => ⟨(b101), rfl, hq⟩⟩
      · have hS := hF hb99; clear hT hF
        refine Run.go rfl rfl rfl (sem_binI .i64 (i4) (0) (.bool false) rfl rfl (binI_lss_f hb99) ?_)
        refine Run.go rfl rfl rfl (sem_pick false ((Value.bool false)) rfl rfl ?_)
        refine Run.go rfl rfl rfl (sem_move ((Value.bool false)) rfl ?_)
        refine Run.go rfl rfl rfl (sem_move ((Value.int .i64 (i4))) rfl ?_)
        refine Run.go rfl rfl rfl (sem_move ((Value.slice a1 n2 c3)) rfl ?_)
        refine Run.go rfl rfl rfl (sem_lenSl a1 n2 c3 rfl TF.sl_118 ?_)
        obtain ⟨hT, hF⟩ := hS
        by_cases hb102 : (i4 : Int) > ((n2 : Nat))
        · have hS := hT hb102; clear hT hF
          refine Run.go rfl rfl rfl (sem_binI .i64 (i4) ((n2 : Nat)) (.bool true) rfl rfl (binI_gtr_t hb102) ?_)
          refine Run.go rfl rfl rfl (sem_pick false ((Value.bool true)) rfl rfl ?_)
          refine Run.region_end ?_
          refine Run.condT rfl ?_
          refine Run.seq ?_
          refine Run.ops0 (idx := [0]) rfl ?_
          obtain ⟨h103, hst, hS⟩ := hS
          refine Run.go rfl rfl rfl (sem_store1 ⟨k6, 0, none⟩ ((Value.bool true)) h103 rfl rfl rfl TF.sz_4 hst ?_)
          refine Run.region_end ?_
          obtain ⟨b104, hl0, hS⟩ := hS
          refine Run.ret ⟨.inr rfl, ?_⟩
          exact ⟨⟨k6, 0, none⟩, (Value.bool b104), rfl, loadH1 TF.agg_4 hl0, hS.imp fun h' hq => ⟨(b104), rfl, hq⟩⟩
        · have hS := hF hb102; clear hT hF
          refine Run.go rfl rfl rfl (sem_binI .i64 (i4) ((n2 : Nat)) (.bool false) rfl rfl (binI_gtr_f hb102) ?_)
          refine Run.go rfl rfl rfl (sem_pick false ((Value.bool false)) rfl rfl ?_)
          refine Run.region_end ?_
          refine Run.condF rfl ?_
          refine Run.skip ?_
          exact Run.of_fin (hS.imp fun h' hS => j12 _ _ ⟨⟨rfl, rfl, rfl, trivial⟩, hS⟩)
set_option maxHeartbeats 4000000 in
theorem C_countermandlaw13_DraftPuts.of {B : RO} {a1 : Option Addr} {n2 : Nat} {c3 : Nat} {i4 : Int} {h : Heap} {Q : Bool → Heap → Prop} (hS : S_countermandlaw13_DraftPuts B a1 n2 c3 i4 h Q) : C_countermandlaw13_DraftPuts B a1 n2 c3 i4 h Q := by
  unfold S_countermandlaw13_DraftPuts at hS
  unfold C_countermandlaw13_DraftPuts
  refine Spec.of_run Try.func13 (N := 135) (rs := [ResultVar.cell 4 4]) rfl rfl rfl (Nat.le_of_ble_eq_true rfl) ?_
  refine Run.seq ?_
  refine Run.ops0 (idx := [0, 1]) rfl ?_
  refine Run.go rfl rfl rfl (sem_box1N ((Value.slice a1 n2 c3)) rfl rfl (fun k6 hb1 hb2 h7 hb3 => ?_))
  have hS := hS k6 hb1 hb2 h7 hb3
  refine Run.go rfl rfl rfl (sem_allocN [(Value.bool false)] TF.zero_4 (fun k8 hb1 hb2 h9 hb3 => ?_))
  have hS := hS k8 hb1 hb2 h9 hb3
  refine Run.region_end ?_
  refine Run.seq ?_
  refine Run.seq ?_
  refine Run.ops0 (idx := [0, 1]) rfl ?_
  refine Run.go rfl rfl rfl (sem_callL [] (TF.goes_62) rfl rfl (Spec.mono hS fun v h10 hv => ?_))
  obtain ⟨b11, rfl, hS⟩ := hv
  obtain ⟨hT, hF⟩ := hS
  cases b11
  · have hS := hF rfl; clear hT hF
    refine Run.go rfl rfl rfl (sem_not false rfl ?_)
    refine Run.region_end ?_
    refine Run.condT rfl ?_
    refine Run.seq ?_
    refine Run.ops0 (idx := [0]) rfl ?_
    obtain ⟨h12, hst, hS⟩ := hS
    refine Run.go rfl rfl rfl (sem_store1 ⟨k8, 0, none⟩ ((Value.bool false)) h12 rfl rfl rfl TF.sz_4 hst ?_)
    refine Run.region_end ?_
    obtain ⟨b13, hl0, hS⟩ := hS
    refine Run.ret ⟨.inr rfl, ?_⟩
    exact ⟨⟨k8, 0, none⟩, (Value.bool b13), rfl, loadH1 TF.agg_4 hl0, hS.imp fun h' hq => ⟨(b13), rfl, hq⟩⟩
  · have hS := hT rfl; clear hT hF
    refine Run.go rfl rfl rfl (sem_not true rfl ?_)
    refine Run.region_end ?_
    refine Run.condF rfl ?_
    refine Run.skip ?_
    refine Run.seq ?_
    refine Run.seq ?_
    refine Run.ops0 (idx := [0, 1, 2]) rfl ?_
    refine Run.ldSl hS fun a14 n15 c16 h17 hl hS => ?_
    refine Run.go rfl rfl rfl (sem_load1 ⟨k6, 0, none⟩ ((Value.slice a14 n15 c16)) rfl TF.agg_118 hl ?_)
    refine Run.go rfl rfl rfl (sem_lenSl a14 n15 c16 rfl TF.sl_118 ?_)
    obtain ⟨hT, hF⟩ := hS
    by_cases hb18 : ((n15 : Nat) : Int) > (80)
    · have hS := hT hb18; clear hT hF
      refine Run.go rfl rfl rfl (sem_binI .i64 ((n15 : Nat)) (80) (.bool true) rfl rfl (binI_gtr_t hb18) ?_)
      refine Run.region_end ?_
      refine Run.condT rfl ?_
      refine Run.seq ?_
      refine Run.ops0 (idx := [0]) rfl ?_
      obtain ⟨h19, hst, hS⟩ := hS
      refine Run.go rfl rfl rfl (sem_store1 ⟨k8, 0, none⟩ ((Value.bool true)) h19 rfl rfl rfl TF.sz_4 hst ?_)
      refine Run.region_end ?_
      obtain ⟨b20, hl0, hS⟩ := hS
      refine Run.ret ⟨.inr rfl, ?_⟩
      exact ⟨⟨k8, 0, none⟩, (Value.bool b20), rfl, loadH1 TF.agg_4 hl0, hS.imp fun h' hq => ⟨(b20), rfl, hq⟩⟩
    · have hS := hF hb18; clear hT hF
      refine Run.go rfl rfl rfl (sem_binI .i64 ((n15 : Nat)) (80) (.bool false) rfl rfl (binI_gtr_f hb18) ?_)
      refine Run.region_end ?_
      refine Run.condF rfl ?_
      refine Run.skip ?_
      refine Run.seq ?_
      refine Run.ops0 (idx := [0, 1, 2]) rfl ?_
      refine Run.go rfl rfl rfl (sem_buildSL [] [(Value.slice none 0 0)] TF.zero_122 TF.places_122 rfl rfl ?_)
      refine Run.go rfl rfl rfl (sem_boxNN [(Value.slice none 0 0)] rfl (fun k21 hb1 hb2 h22 hb3 => ?_))
      have hS := hS k21 hb1 hb2 h22 hb3
      refine Run.go rfl rfl rfl (sem_assign ((Value.pointer (some ⟨k21, 0, none⟩))) rfl ?_)
      refine Run.region_end ?_
      refine Run.seqJ (fun e h24 => Agree [(2, (Value.pointer (some ⟨k6, 0, none⟩))), (4, (Value.pointer (some ⟨k8, 0, none⟩))), (5, (Value.pointer (some ⟨k21, 0, none⟩)))] e ∧ S_countermandlaw13_DraftPuts_J1 B k6 k8 k21 h24 Q) ?_ fun j23 => ?_
      · rintro e h24 ⟨hag, hS⟩
        refine Run.env hag ?_; clear hag
        refine Run.seq ?_
        refine Run.ops0 (idx := [0, 1, 2, 3]) rfl ?_
        refine Run.ldSl hS fun a25 n26 c27 h28 hl hS => ?_
        refine Run.go rfl rfl rfl (sem_load1 ⟨k6, 0, none⟩ ((Value.slice a25 n26 c27)) rfl TF.agg_118 hl ?_)
        refine Run.go rfl rfl rfl (sem_callL [(Value.slice a25 n26 c27)] (TF.goes_63) rfl rfl (Spec.mono hS fun v h29 hv => ?_))
        obtain ⟨a30, n31, c32, rfl, hS⟩ := hv
        refine Run.go rfl rfl rfl (sem_allocN [(Value.slice none 0 0)] TF.zero_84 (fun k33 hb1 hb2 h34 hb3 => ?_))
        have hS := hS k33 hb1 hb2 h34 hb3
        obtain ⟨h35, hst, hS⟩ := hS
        refine Run.go rfl rfl rfl (sem_store1 ⟨k33, 0, none⟩ ((Value.slice a30 n31 c32)) h35 rfl rfl rfl TF.sz_84 hst ?_)
        refine Run.region_end ?_
        refine Run.seq ?_
        refine Run.ops0 (idx := [0, 1]) rfl ?_
        refine Run.go rfl rfl rfl (sem_allocN [(Value.int .i64 (0))] TF.zero_3 (fun k36 hb1 hb2 h37 hb3 => ?_))
        have hS := hS k36 hb1 hb2 h37 hb3
        obtain ⟨h38, hst, hS⟩ := hS
        refine Run.go rfl rfl rfl (sem_store1 ⟨k36, 0, none⟩ ((Value.int .i64 (0))) h38 rfl rfl rfl TF.sz_3 hst ?_)
        refine Run.region_end ?_
        refine Run.seqJ (fun e h40 => Agree [(4, (Value.pointer (some ⟨k8, 0, none⟩))), (5, (Value.pointer (some ⟨k21, 0, none⟩))), (12, (Value.pointer (some ⟨k33, 0, none⟩))), (13, (Value.pointer (some ⟨k36, 0, none⟩)))] e ∧ S_countermandlaw13_DraftPuts_J2 B k8 k21 k33 k36 h40 Q) ?_ fun j39 => ?_
        · rintro e h40 ⟨hag, hS⟩
          refine Run.env hag ?_; clear hag
          refine Run.seq ?_
          refine Run.ops0 (idx := [0]) rfl ?_
          refine Run.go rfl rfl rfl (sem_assign ((Value.pointer none)) rfl ?_)
          refine Run.region_end ?_
          refine Run.seqJ (fun e h42 => Agree [(4, (Value.pointer (some ⟨k8, 0, none⟩))), (5, (Value.pointer (some ⟨k21, 0, none⟩))), (12, (Value.pointer (some ⟨k33, 0, none⟩))), (13, (Value.pointer (some ⟨k36, 0, none⟩))), (18, (Value.pointer none))] e ∧ S_countermandlaw13_DraftPuts_J3 B k8 k21 k33 k36 h42 Q) ?_ fun j41 => ?_
          · rintro e h42 ⟨hag, hS⟩
            refine Run.env hag ?_; clear hag
            refine Run.seq ?_
            refine Run.ops0 (idx := [0, 1, 2, 3, 4, 5, 6]) rfl ?_
            refine Run.go rfl rfl rfl (sem_move ((Value.pointer none)) rfl ?_)
            refine Run.go rfl rfl rfl (sem_callL [(Value.pointer none), (Value.int .i64 (0))] (TF.goes_68) rfl rfl (Spec.mono hS fun v h43 hv => ?_))
            obtain ⟨i44, b45, rfl, hS⟩ := hv
            refine Run.go rfl rfl rfl (sem_move ((Value.tuple #[(Value.int .i64 (i44)), (Value.bool b45)])) rfl ?_)
            refine Run.go rfl rfl rfl (sem_extract #[(Value.int .i64 (i44)), (Value.bool b45)] ((Value.int .i64 (i44))) rfl rfl ?_)
            obtain ⟨hT, hF⟩ := hS
            cases b45
            · have hS := hF rfl; clear hT hF
              refine Run.go rfl rfl rfl (sem_extract #[(Value.int .i64 (i44)), (Value.bool false)] (.bool false) rfl rfl ?_)
              refine Run.go rfl rfl rfl (sem_assign ((Value.int .i64 (i44))) rfl ?_)
              refine Run.go rfl rfl rfl (sem_assign ((Value.bool false)) rfl ?_)
              refine Run.region_end ?_
              refine Run.seq ?_
              obtain ⟨i46, hl, hS⟩ := hS
              have f47 := hl
              obtain ⟨a48, n49, c50, hl, hS⟩ := hS
              have f51 := hl
              skip
              obtain ⟨hT, hF⟩ := hS
              by_cases hb53 : (i46 : Int) = (n49 : Nat)
              · have hS := hT hb53; clear hT hF
                skip
                skip
                skip
                obtain ⟨i57, hl, hS⟩ := hS
                have f58 := hl
                refine Run.draw (fun h' => cellH B h' ⟨k36, 0, none⟩ = some (Value.int .i64 (i46)) ∧ cellH B h' ⟨k33, 0, none⟩ = some (Value.slice a48 n49 c50) ∧ cellH B h' ⟨k36, 0, none⟩ = some (Value.int .i64 (i57)) ∧ True) [29] [.q 0, .q 1, .q 2, .q 3, .q 4, .q 5, .q 7, .x 6, .q 8, .q 9, .q 10, .q 11, .x 12, .q 13, .q 14, .q 15, .q 16, .q 17, .q 18, .q 19, .q 20, .x 21, .q 22, .q 23, .q 24, .q 25, .x 26, .q 27, .q 28, .x 29] TF.mixed (by kernel_rfl) ⟨f47, f51, f58, trivial⟩ ?_
                refine RunO.quiet rfl rfl rfl (fun h' hC => sem_load1 ⟨k36, 0, none⟩ ((Value.int .i64 (i46))) rfl TF.agg_3 hC.1 ⟨rfl, rfl⟩) ?_
                refine RunO.quiet rfl rfl rfl (fun h' hC => sem_load1 ⟨k33, 0, none⟩ ((Value.slice a48 n49 c50)) rfl TF.agg_84 hC.2.1 ⟨rfl, rfl⟩) ?_
                refine RunO.quiet rfl rfl rfl (fun h' hC => sem_lenSl a48 n49 c50 rfl TF.sl_84 ⟨rfl, rfl⟩) ?_
                refine RunO.quiet rfl rfl rfl (fun h' hC => sem_binI .i64 (i46) ((n49 : Nat)) (.bool true) rfl rfl (binI_eql_t hb53) ⟨rfl, rfl⟩) ?_
                refine RunO.quiet rfl rfl rfl (fun h' hC => sem_move ((Value.bool true)) rfl ⟨rfl, rfl⟩) ?_
                refine RunO.quiet rfl rfl rfl (fun h' hC => sem_move ((Value.pointer (some ⟨k21, 0, none⟩))) rfl ⟨rfl, rfl⟩) ?_
                refine RunO.quiet rfl rfl rfl (fun h' hC => sem_load1 ⟨k36, 0, none⟩ ((Value.int .i64 (i57))) rfl TF.agg_3 hC.2.2.1 ⟨rfl, rfl⟩) ?_
                refine OpH.go rfl rfl rfl (sem_callL [(Value.pointer (some ⟨k21, 0, none⟩))] (TF.goes_66) rfl rfl (Spec.mono hS fun v h59 hv => ?_))
                obtain ⟨i60, rfl, hS⟩ := hv
                obtain ⟨g61, g62, g63, hS⟩ := hS
                refine ⟨fun _ => ⟨g61, g62, g63, trivial⟩, ?_⟩
                obtain ⟨hT, hF⟩ := hS
                by_cases hb64 : (i60 : Int) = i57
                · have hS := hT hb64; clear hT hF
                  refine RunO.quiet rfl rfl rfl (fun h' hC => sem_binI .i64 (i60) (i57) (.bool true) rfl rfl (binI_eql_t hb64) ⟨rfl, rfl⟩) ?_
                  refine RunO.quiet rfl rfl rfl (fun h' hC => sem_pick true ((Value.bool true)) rfl rfl ⟨rfl, rfl⟩) ?_
                  refine RunO.quiet rfl rfl rfl (fun h' hC => sem_move ((Value.bool true)) rfl ⟨rfl, rfl⟩) ?_
                  refine RunO.quiet rfl rfl rfl (fun h' hC => sem_move ((Value.pointer none)) rfl ⟨rfl, rfl⟩) ?_
                  refine OpH.go rfl rfl rfl (sem_callL [(Value.pointer none), (Value.int .i64 (1)), (Value.int .i64 (1))] (TF.goes_65) rfl rfl (Spec.mono hS fun v h65 hv => ?_))
                  obtain ⟨b66, rfl, hS⟩ := hv
                  obtain ⟨hT, hF⟩ := hS
                  cases b66
                  · have hS := hF rfl; clear hT hF
                    obtain ⟨g67, g68, g69, hS⟩ := hS
                    refine ⟨fun _ => ⟨g67, g68, g69, trivial⟩, ?_⟩
                    refine RunO.quiet rfl rfl rfl (fun h' hC => sem_not false rfl ⟨rfl, rfl⟩) ?_
                    refine RunO.quiet rfl rfl rfl (fun h' hC => sem_pick true ((Value.bool true)) rfl rfl ⟨rfl, rfl⟩) ?_
                    refine RunO.quiet rfl rfl rfl (fun h' hC => sem_move ((Value.bool true)) rfl ⟨rfl, rfl⟩) ?_
                    refine RunO.quiet rfl rfl rfl (fun h' hC => sem_move ((Value.bool false)) rfl ⟨rfl, rfl⟩) ?_
                    refine RunO.quiet rfl rfl rfl (fun h' hC => sem_not false rfl ⟨rfl, rfl⟩) ?_
                    refine RunO.quiet rfl rfl rfl (fun h' hC => sem_pick true ((Value.bool true)) rfl rfl ⟨rfl, rfl⟩) ?_
                    refine RunO.quiet rfl rfl rfl (fun h' hC => sem_move ((Value.bool true)) rfl ⟨rfl, rfl⟩) ?_
                    refine RunO.quiet rfl rfl rfl (fun h' hC => sem_move ((Value.pointer none)) rfl ⟨rfl, rfl⟩) ?_
                    refine OpH.go rfl rfl rfl (sem_callL [(Value.pointer none)] (TF.goes_66) rfl rfl (Spec.mono hS fun v h70 hv => ?_))
                    obtain ⟨i71, rfl, hS⟩ := hv
                    obtain ⟨g72, g73, g74, hS⟩ := hS
                    refine ⟨fun _ => ⟨g72, g73, g74, trivial⟩, ?_⟩
                    obtain ⟨hT, hF⟩ := hS
                    by_cases hb75 : (i71 : Int) = 0
                    · have hS := hT hb75; clear hT hF
                      refine RunO.quiet rfl rfl rfl (fun h' hC => sem_binI .i64 (i71) (0) (.bool true) rfl rfl (binI_eql_t hb75) ⟨rfl, rfl⟩) ?_
                      refine RunO.quiet rfl rfl rfl (fun h' hC => sem_pick true ((Value.bool true)) rfl rfl ⟨rfl, rfl⟩) ?_
                      refine RunO.quiet rfl rfl rfl (fun h' hC => sem_move ((Value.bool true)) rfl ⟨rfl, rfl⟩) ?_
                      refine RunO.quiet rfl rfl rfl (fun h' hC => sem_move ((Value.pointer none)) rfl ⟨rfl, rfl⟩) ?_
                      refine OpH.go rfl rfl rfl (sem_callL [(Value.pointer none)] (TF.goes_69) rfl rfl (Spec.mono hS fun v h76 hv => ?_))
                      obtain ⟨p77, rfl, hS⟩ := hv
                      obtain ⟨g78, g79, g80, hS⟩ := hS
                      refine ⟨fun _ => ⟨g78, g79, g80, trivial⟩, ?_⟩
                      refine RunO.quiet rfl rfl rfl (fun h' hC => sem_ptrNilV p77 (.inl rfl) ((decide (p77 = none))) rfl rfl TF.ptr_119 (by cases p77 <;> rfl) ⟨rfl, rfl⟩) ?_
                      refine RunO.quiet rfl rfl rfl (fun h' hC => sem_pick true ((Value.bool (decide (p77 = none)))) rfl rfl ⟨rfl, rfl⟩) ?_
                      obtain ⟨h81, hst, hS⟩ := hS
                      refine OpH.go rfl rfl rfl (sem_store1 ⟨k8, 0, none⟩ ((Value.bool (decide (p77 = none)))) h81 rfl rfl rfl TF.sz_4 hst ?_)
                      refine ⟨fun hz => Bool.noConfusion hz, ?_⟩
                      obtain ⟨b82, hl0, hS⟩ := hS
                      refine Run.ret ⟨.inr rfl, ?_⟩
                      exact ⟨⟨k8, 0, none⟩, (Value.bool b82), rfl, loadH1 TF.agg_4 hl0, hS.imp fun h' hq => ⟨(b82), rfl, hq⟩⟩
                    · have hS := hF hb75; clear hT hF
                      refine RunO.quiet rfl rfl rfl (fun h' hC => sem_binI .i64 (i71) (0) (.bool false) rfl rfl (binI_eql_f hb75) ⟨rfl, rfl⟩) ?_
                      refine RunO.quiet rfl rfl rfl (fun h' hC => sem_pick true ((Value.bool false)) rfl rfl ⟨rfl, rfl⟩) ?_
                      refine RunO.quiet rfl rfl rfl (fun h' hC => sem_move ((Value.bool false)) rfl ⟨rfl, rfl⟩) ?_
                      refine RunO.skip rfl rfl rfl ?_
                      refine OpH.no rfl rfl rfl ⟨fun _ => ⟨g72, g73, g74, trivial⟩, ?_⟩
                      refine RunO.skip rfl rfl rfl ?_
                      refine RunO.quiet rfl rfl rfl (fun h' hC => sem_pick false ((Value.bool false)) rfl rfl ⟨rfl, rfl⟩) ?_
                      obtain ⟨h83, hst, hS⟩ := hS
                      refine OpH.go rfl rfl rfl (sem_store1 ⟨k8, 0, none⟩ ((Value.bool false)) h83 rfl rfl rfl TF.sz_4 hst ?_)
                      refine ⟨fun hz => Bool.noConfusion hz, ?_⟩
                      obtain ⟨b84, hl0, hS⟩ := hS
                      refine Run.ret ⟨.inr rfl, ?_⟩
                      exact ⟨⟨k8, 0, none⟩, (Value.bool b84), rfl, loadH1 TF.agg_4 hl0, hS.imp fun h' hq => ⟨(b84), rfl, hq⟩⟩
                  · have hS := hT rfl; clear hT hF
                    obtain ⟨g85, g86, g87, hS⟩ := hS
                    refine ⟨fun _ => ⟨g85, g86, g87, trivial⟩, ?_⟩
                    refine RunO.quiet rfl rfl rfl (fun h' hC => sem_not true rfl ⟨rfl, rfl⟩) ?_
                    refine RunO.quiet rfl rfl rfl (fun h' hC => sem_pick true ((Value.bool false)) rfl rfl ⟨rfl, rfl⟩) ?_
                    refine RunO.quiet rfl rfl rfl (fun h' hC => sem_move ((Value.bool false)) rfl ⟨rfl, rfl⟩) ?_
                    refine RunO.skip rfl rfl rfl ?_
                    refine RunO.skip rfl rfl rfl ?_
                    refine RunO.quiet rfl rfl rfl (fun h' hC => sem_pick false ((Value.bool false)) rfl rfl ⟨rfl, rfl⟩) ?_
                    refine RunO.quiet rfl rfl rfl (fun h' hC => sem_move ((Value.bool false)) rfl ⟨rfl, rfl⟩) ?_
                    refine RunO.skip rfl rfl rfl ?_
                    refine OpH.no rfl rfl rfl ⟨fun _ => ⟨g85, g86, g87, trivial⟩, ?_⟩
                    refine RunO.skip rfl rfl rfl ?_
                    refine RunO.quiet rfl rfl rfl (fun h' hC => sem_pick false ((Value.bool false)) rfl rfl ⟨rfl, rfl⟩) ?_
                    refine RunO.quiet rfl rfl rfl (fun h' hC => sem_move ((Value.bool false)) rfl ⟨rfl, rfl⟩) ?_
                    refine RunO.skip rfl rfl rfl ?_
                    refine OpH.no rfl rfl rfl ⟨fun _ => ⟨g85, g86, g87, trivial⟩, ?_⟩
                    refine RunO.skip rfl rfl rfl ?_
                    refine RunO.quiet rfl rfl rfl (fun h' hC => sem_pick false ((Value.bool false)) rfl rfl ⟨rfl, rfl⟩) ?_
                    obtain ⟨h88, hst, hS⟩ := hS
                    refine OpH.go rfl rfl rfl (sem_store1 ⟨k8, 0, none⟩ ((Value.bool false)) h88 rfl rfl rfl TF.sz_4 hst ?_)
                    refine ⟨fun hz => Bool.noConfusion hz, ?_⟩
                    obtain ⟨b89, hl0, hS⟩ := hS
                    refine Run.ret ⟨.inr rfl, ?_⟩
                    exact ⟨⟨k8, 0, none⟩, (Value.bool b89), rfl, loadH1 TF.agg_4 hl0, hS.imp fun h' hq => ⟨(b89), rfl, hq⟩⟩
                · have hS := hF hb64; clear hT hF
                  refine RunO.quiet rfl rfl rfl (fun h' hC => sem_binI .i64 (i60) (i57) (.bool false) rfl rfl (binI_eql_f hb64) ⟨rfl, rfl⟩) ?_
                  refine RunO.quiet rfl rfl rfl (fun h' hC => sem_pick true ((Value.bool false)) rfl rfl ⟨rfl, rfl⟩) ?_
                  refine RunO.quiet rfl rfl rfl (fun h' hC => sem_move ((Value.bool false)) rfl ⟨rfl, rfl⟩) ?_
                  refine RunO.skip rfl rfl rfl ?_
                  refine OpH.no rfl rfl rfl ⟨fun _ => ⟨g61, g62, g63, trivial⟩, ?_⟩
                  refine RunO.skip rfl rfl rfl ?_
                  refine RunO.quiet rfl rfl rfl (fun h' hC => sem_pick false ((Value.bool false)) rfl rfl ⟨rfl, rfl⟩) ?_
                  refine RunO.quiet rfl rfl rfl (fun h' hC => sem_move ((Value.bool false)) rfl ⟨rfl, rfl⟩) ?_
                  refine RunO.skip rfl rfl rfl ?_
                  refine RunO.skip rfl rfl rfl ?_
                  refine RunO.quiet rfl rfl rfl (fun h' hC => sem_pick false ((Value.bool false)) rfl rfl ⟨rfl, rfl⟩) ?_
                  refine RunO.quiet rfl rfl rfl (fun h' hC => sem_move ((Value.bool false)) rfl ⟨rfl, rfl⟩) ?_
                  refine RunO.skip rfl rfl rfl ?_
                  refine OpH.no rfl rfl rfl ⟨fun _ => ⟨g61, g62, g63, trivial⟩, ?_⟩
                  refine RunO.skip rfl rfl rfl ?_
                  refine RunO.quiet rfl rfl rfl (fun h' hC => sem_pick false ((Value.bool false)) rfl rfl ⟨rfl, rfl⟩) ?_
                  refine RunO.quiet rfl rfl rfl (fun h' hC => sem_move ((Value.bool false)) rfl ⟨rfl, rfl⟩) ?_
                  refine RunO.skip rfl rfl rfl ?_
                  refine OpH.no rfl rfl rfl ⟨fun _ => ⟨g61, g62, g63, trivial⟩, ?_⟩
                  refine RunO.skip rfl rfl rfl ?_
                  refine RunO.quiet rfl rfl rfl (fun h' hC => sem_pick false ((Value.bool false)) rfl rfl ⟨rfl, rfl⟩) ?_
                  obtain ⟨h90, hst, hS⟩ := hS
                  refine OpH.go rfl rfl rfl (sem_store1 ⟨k8, 0, none⟩ ((Value.bool false)) h90 rfl rfl rfl TF.sz_4 hst ?_)
                  refine ⟨fun hz => Bool.noConfusion hz, ?_⟩
                  obtain ⟨b91, hl0, hS⟩ := hS
                  refine Run.ret ⟨.inr rfl, ?_⟩
                  exact ⟨⟨k8, 0, none⟩, (Value.bool b91), rfl, loadH1 TF.agg_4 hl0, hS.imp fun h' hq => ⟨(b91), rfl, hq⟩⟩
              · have hS := hF hb53; clear hT hF
                skip
                skip
                refine Run.draw (fun h' => cellH B h' ⟨k36, 0, none⟩ = some (Value.int .i64 (i46)) ∧ cellH B h' ⟨k33, 0, none⟩ = some (Value.slice a48 n49 c50) ∧ True) [29] [.q 0, .q 1, .q 2, .q 3, .q 4, .q 5, .q 7, .x 6, .q 8, .q 9, .q 10, .q 11, .x 12, .q 13, .q 14, .q 15, .q 16, .q 17, .q 18, .q 19, .q 20, .x 21, .q 22, .q 23, .q 24, .q 25, .x 26, .q 27, .q 28, .x 29] TF.mixed (by kernel_rfl) ⟨f47, f51, trivial⟩ ?_
                refine RunO.quiet rfl rfl rfl (fun h' hC => sem_load1 ⟨k36, 0, none⟩ ((Value.int .i64 (i46))) rfl TF.agg_3 hC.1 ⟨rfl, rfl⟩) ?_
                refine RunO.quiet rfl rfl rfl (fun h' hC => sem_load1 ⟨k33, 0, none⟩ ((Value.slice a48 n49 c50)) rfl TF.agg_84 hC.2.1 ⟨rfl, rfl⟩) ?_
                refine RunO.quiet rfl rfl rfl (fun h' hC => sem_lenSl a48 n49 c50 rfl TF.sl_84 ⟨rfl, rfl⟩) ?_
                refine RunO.quiet rfl rfl rfl (fun h' hC => sem_binI .i64 (i46) ((n49 : Nat)) (.bool false) rfl rfl (binI_eql_f hb53) ⟨rfl, rfl⟩) ?_
                refine RunO.quiet rfl rfl rfl (fun h' hC => sem_move ((Value.bool false)) rfl ⟨rfl, rfl⟩) ?_
                refine RunO.skip rfl rfl rfl ?_
                refine RunO.skip rfl rfl rfl ?_
                refine OpH.no rfl rfl rfl ⟨fun _ => ⟨f47, f51, trivial⟩, ?_⟩
                refine RunO.skip rfl rfl rfl ?_
                refine RunO.quiet rfl rfl rfl (fun h' hC => sem_pick false ((Value.bool false)) rfl rfl ⟨rfl, rfl⟩) ?_
                refine RunO.quiet rfl rfl rfl (fun h' hC => sem_move ((Value.bool false)) rfl ⟨rfl, rfl⟩) ?_
                refine RunO.skip rfl rfl rfl ?_
                refine OpH.no rfl rfl rfl ⟨fun _ => ⟨f47, f51, trivial⟩, ?_⟩
                refine RunO.skip rfl rfl rfl ?_
                refine RunO.quiet rfl rfl rfl (fun h' hC => sem_pick false ((Value.bool false)) rfl rfl ⟨rfl, rfl⟩) ?_
                refine RunO.quiet rfl rfl rfl (fun h' hC => sem_move ((Value.bool false)) rfl ⟨rfl, rfl⟩) ?_
                refine RunO.skip rfl rfl rfl ?_
                refine RunO.skip rfl rfl rfl ?_
                refine RunO.quiet rfl rfl rfl (fun h' hC => sem_pick false ((Value.bool false)) rfl rfl ⟨rfl, rfl⟩) ?_
                refine RunO.quiet rfl rfl rfl (fun h' hC => sem_move ((Value.bool false)) rfl ⟨rfl, rfl⟩) ?_
                refine RunO.skip rfl rfl rfl ?_
                refine OpH.no rfl rfl rfl ⟨fun _ => ⟨f47, f51, trivial⟩, ?_⟩
                refine RunO.skip rfl rfl rfl ?_
                refine RunO.quiet rfl rfl rfl (fun h' hC => sem_pick false ((Value.bool false)) rfl rfl ⟨rfl, rfl⟩) ?_
                refine RunO.quiet rfl rfl rfl (fun h' hC => sem_move ((Value.bool false)) rfl ⟨rfl, rfl⟩) ?_
                refine RunO.skip rfl rfl rfl ?_
                refine OpH.no rfl rfl rfl ⟨fun _ => ⟨f47, f51, trivial⟩, ?_⟩
                refine RunO.skip rfl rfl rfl ?_
                refine RunO.quiet rfl rfl rfl (fun h' hC => sem_pick false ((Value.bool false)) rfl rfl ⟨rfl, rfl⟩) ?_
                obtain ⟨h94, hst, hS⟩ := hS
                refine OpH.go rfl rfl rfl (sem_store1 ⟨k8, 0, none⟩ ((Value.bool false)) h94 rfl rfl rfl TF.sz_4 hst ?_)
                refine ⟨fun hz => Bool.noConfusion hz, ?_⟩
                obtain ⟨b95, hl0, hS⟩ := hS
                refine Run.ret ⟨.inr rfl, ?_⟩
                exact ⟨⟨k8, 0, none⟩, (Value.bool b95), rfl, loadH1 TF.agg_4 hl0, hS.imp fun h' hq => ⟨(b95), rfl, hq⟩⟩
            · have hS := hT rfl; clear hT hF
              refine Run.go rfl rfl rfl (sem_extract #[(Value.int .i64 (i44)), (Value.bool true)] (.bool true) rfl rfl ?_)
              refine Run.go rfl rfl rfl (sem_assign ((Value.int .i64 (i44))) rfl ?_)
              refine Run.go rfl rfl rfl (sem_assign ((Value.bool true)) rfl ?_)
              refine Run.region_end ?_
              refine Run.seq ?_
              obtain ⟨i96, hl, hS⟩ := hS
              have f97 := hl
              obtain ⟨a98, n99, c100, hl, hS⟩ := hS
              have f101 := hl
              skip
              obtain ⟨hT, hF⟩ := hS
              by_cases hb103 : (i96 : Int) = (n99 : Nat)
              · have hS := hT hb103; clear hT hF
                skip
                skip
                skip
                obtain ⟨i107, hl, hS⟩ := hS
                have f108 := hl
                refine Run.draw (fun h' => cellH B h' ⟨k36, 0, none⟩ = some (Value.int .i64 (i96)) ∧ cellH B h' ⟨k33, 0, none⟩ = some (Value.slice a98 n99 c100) ∧ cellH B h' ⟨k36, 0, none⟩ = some (Value.int .i64 (i107)) ∧ True) [29] [.q 0, .q 1, .q 2, .q 3, .q 4, .q 5, .q 7, .x 6, .q 8, .q 9, .q 10, .q 11, .x 12, .q 13, .q 14, .q 15, .q 16, .q 17, .q 18, .q 19, .q 20, .x 21, .q 22, .q 23, .q 24, .q 25, .x 26, .q 27, .q 28, .x 29] TF.mixed (by kernel_rfl) ⟨f97, f101, f108, trivial⟩ ?_
                refine RunO.quiet rfl rfl rfl (fun h' hC => sem_load1 ⟨k36, 0, none⟩ ((Value.int .i64 (i96))) rfl TF.agg_3 hC.1 ⟨rfl, rfl⟩) ?_
                refine RunO.quiet rfl rfl rfl (fun h' hC => sem_load1 ⟨k33, 0, none⟩ ((Value.slice a98 n99 c100)) rfl TF.agg_84 hC.2.1 ⟨rfl, rfl⟩) ?_
                refine RunO.quiet rfl rfl rfl (fun h' hC => sem_lenSl a98 n99 c100 rfl TF.sl_84 ⟨rfl, rfl⟩) ?_
                refine RunO.quiet rfl rfl rfl (fun h' hC => sem_binI .i64 (i96) ((n99 : Nat)) (.bool true) rfl rfl (binI_eql_t hb103) ⟨rfl, rfl⟩) ?_
                refine RunO.quiet rfl rfl rfl (fun h' hC => sem_move ((Value.bool true)) rfl ⟨rfl, rfl⟩) ?_
                refine RunO.quiet rfl rfl rfl (fun h' hC => sem_move ((Value.pointer (some ⟨k21, 0, none⟩))) rfl ⟨rfl, rfl⟩) ?_
                refine RunO.quiet rfl rfl rfl (fun h' hC => sem_load1 ⟨k36, 0, none⟩ ((Value.int .i64 (i107))) rfl TF.agg_3 hC.2.2.1 ⟨rfl, rfl⟩) ?_
                refine OpH.go rfl rfl rfl (sem_callL [(Value.pointer (some ⟨k21, 0, none⟩))] (TF.goes_66) rfl rfl (Spec.mono hS fun v h109 hv => ?_))
                obtain ⟨i110, rfl, hS⟩ := hv
                obtain ⟨g111, g112, g113, hS⟩ := hS
                refine ⟨fun _ => ⟨g111, g112, g113, trivial⟩, ?_⟩
                obtain ⟨hT, hF⟩ := hS
                by_cases hb114 : (i110 : Int) = i107
                · have hS := hT hb114; clear hT hF
                  refine RunO.quiet rfl rfl rfl (fun h' hC => sem_binI .i64 (i110) (i107) (.bool true) rfl rfl (binI_eql_t hb114) ⟨rfl, rfl⟩) ?_
                  refine RunO.quiet rfl rfl rfl (fun h' hC => sem_pick true ((Value.bool true)) rfl rfl ⟨rfl, rfl⟩) ?_
                  refine RunO.quiet rfl rfl rfl (fun h' hC => sem_move ((Value.bool true)) rfl ⟨rfl, rfl⟩) ?_
                  refine RunO.quiet rfl rfl rfl (fun h' hC => sem_move ((Value.pointer none)) rfl ⟨rfl, rfl⟩) ?_
                  refine OpH.go rfl rfl rfl (sem_callL [(Value.pointer none), (Value.int .i64 (1)), (Value.int .i64 (1))] (TF.goes_65) rfl rfl (Spec.mono hS fun v h115 hv => ?_))
                  obtain ⟨b116, rfl, hS⟩ := hv
                  obtain ⟨hT, hF⟩ := hS
                  cases b116
                  · have hS := hF rfl; clear hT hF
                    obtain ⟨g117, g118, g119, hS⟩ := hS
                    refine ⟨fun _ => ⟨g117, g118, g119, trivial⟩, ?_⟩
                    refine RunO.quiet rfl rfl rfl (fun h' hC => sem_not false rfl ⟨rfl, rfl⟩) ?_
                    refine RunO.quiet rfl rfl rfl (fun h' hC => sem_pick true ((Value.bool true)) rfl rfl ⟨rfl, rfl⟩) ?_
                    refine RunO.quiet rfl rfl rfl (fun h' hC => sem_move ((Value.bool true)) rfl ⟨rfl, rfl⟩) ?_
                    refine RunO.quiet rfl rfl rfl (fun h' hC => sem_move ((Value.bool true)) rfl ⟨rfl, rfl⟩) ?_
                    refine RunO.quiet rfl rfl rfl (fun h' hC => sem_not true rfl ⟨rfl, rfl⟩) ?_
                    refine RunO.quiet rfl rfl rfl (fun h' hC => sem_pick true ((Value.bool false)) rfl rfl ⟨rfl, rfl⟩) ?_
                    refine RunO.quiet rfl rfl rfl (fun h' hC => sem_move ((Value.bool false)) rfl ⟨rfl, rfl⟩) ?_
                    refine RunO.skip rfl rfl rfl ?_
                    refine OpH.no rfl rfl rfl ⟨fun _ => ⟨g117, g118, g119, trivial⟩, ?_⟩
                    refine RunO.skip rfl rfl rfl ?_
                    refine RunO.quiet rfl rfl rfl (fun h' hC => sem_pick false ((Value.bool false)) rfl rfl ⟨rfl, rfl⟩) ?_
                    refine RunO.quiet rfl rfl rfl (fun h' hC => sem_move ((Value.bool false)) rfl ⟨rfl, rfl⟩) ?_
                    refine RunO.skip rfl rfl rfl ?_
                    refine OpH.no rfl rfl rfl ⟨fun _ => ⟨g117, g118, g119, trivial⟩, ?_⟩
                    refine RunO.skip rfl rfl rfl ?_
                    refine RunO.quiet rfl rfl rfl (fun h' hC => sem_pick false ((Value.bool false)) rfl rfl ⟨rfl, rfl⟩) ?_
                    obtain ⟨h120, hst, hS⟩ := hS
                    refine OpH.go rfl rfl rfl (sem_store1 ⟨k8, 0, none⟩ ((Value.bool false)) h120 rfl rfl rfl TF.sz_4 hst ?_)
                    refine ⟨fun hz => Bool.noConfusion hz, ?_⟩
                    obtain ⟨b121, hl0, hS⟩ := hS
                    refine Run.ret ⟨.inr rfl, ?_⟩
                    exact ⟨⟨k8, 0, none⟩, (Value.bool b121), rfl, loadH1 TF.agg_4 hl0, hS.imp fun h' hq => ⟨(b121), rfl, hq⟩⟩
                  · have hS := hT rfl; clear hT hF
                    obtain ⟨g122, g123, g124, hS⟩ := hS
                    refine ⟨fun _ => ⟨g122, g123, g124, trivial⟩, ?_⟩
                    refine RunO.quiet rfl rfl rfl (fun h' hC => sem_not true rfl ⟨rfl, rfl⟩) ?_
                    refine RunO.quiet rfl rfl rfl (fun h' hC => sem_pick true ((Value.bool false)) rfl rfl ⟨rfl, rfl⟩) ?_
                    refine RunO.quiet rfl rfl rfl (fun h' hC => sem_move ((Value.bool false)) rfl ⟨rfl, rfl⟩) ?_
                    refine RunO.skip rfl rfl rfl ?_
                    refine RunO.skip rfl rfl rfl ?_
                    refine RunO.quiet rfl rfl rfl (fun h' hC => sem_pick false ((Value.bool false)) rfl rfl ⟨rfl, rfl⟩) ?_
                    refine RunO.quiet rfl rfl rfl (fun h' hC => sem_move ((Value.bool false)) rfl ⟨rfl, rfl⟩) ?_
                    refine RunO.skip rfl rfl rfl ?_
                    refine OpH.no rfl rfl rfl ⟨fun _ => ⟨g122, g123, g124, trivial⟩, ?_⟩
                    refine RunO.skip rfl rfl rfl ?_
                    refine RunO.quiet rfl rfl rfl (fun h' hC => sem_pick false ((Value.bool false)) rfl rfl ⟨rfl, rfl⟩) ?_
                    refine RunO.quiet rfl rfl rfl (fun h' hC => sem_move ((Value.bool false)) rfl ⟨rfl, rfl⟩) ?_
                    refine RunO.skip rfl rfl rfl ?_
                    refine OpH.no rfl rfl rfl ⟨fun _ => ⟨g122, g123, g124, trivial⟩, ?_⟩
                    refine RunO.skip rfl rfl rfl ?_
                    refine RunO.quiet rfl rfl rfl (fun h' hC => sem_pick false ((Value.bool false)) rfl rfl ⟨rfl, rfl⟩) ?_
                    obtain ⟨h125, hst, hS⟩ := hS
                    refine OpH.go rfl rfl rfl (sem_store1 ⟨k8, 0, none⟩ ((Value.bool false)) h125 rfl rfl rfl TF.sz_4 hst ?_)
                    refine ⟨fun hz => Bool.noConfusion hz, ?_⟩
                    obtain ⟨b126, hl0, hS⟩ := hS
                    refine Run.ret ⟨.inr rfl, ?_⟩
                    exact ⟨⟨k8, 0, none⟩, (Value.bool b126), rfl, loadH1 TF.agg_4 hl0, hS.imp fun h' hq => ⟨(b126), rfl, hq⟩⟩
                · have hS := hF hb114; clear hT hF
                  refine RunO.quiet rfl rfl rfl (fun h' hC => sem_binI .i64 (i110) (i107) (.bool false) rfl rfl (binI_eql_f hb114) ⟨rfl, rfl⟩) ?_
                  refine RunO.quiet rfl rfl rfl (fun h' hC => sem_pick true ((Value.bool false)) rfl rfl ⟨rfl, rfl⟩) ?_
                  refine RunO.quiet rfl rfl rfl (fun h' hC => sem_move ((Value.bool false)) rfl ⟨rfl, rfl⟩) ?_
                  refine RunO.skip rfl rfl rfl ?_
                  refine OpH.no rfl rfl rfl ⟨fun _ => ⟨g111, g112, g113, trivial⟩, ?_⟩
                  refine RunO.skip rfl rfl rfl ?_
                  refine RunO.quiet rfl rfl rfl (fun h' hC => sem_pick false ((Value.bool false)) rfl rfl ⟨rfl, rfl⟩) ?_
                  refine RunO.quiet rfl rfl rfl (fun h' hC => sem_move ((Value.bool false)) rfl ⟨rfl, rfl⟩) ?_
                  refine RunO.skip rfl rfl rfl ?_
                  refine RunO.skip rfl rfl rfl ?_
                  refine RunO.quiet rfl rfl rfl (fun h' hC => sem_pick false ((Value.bool false)) rfl rfl ⟨rfl, rfl⟩) ?_
                  refine RunO.quiet rfl rfl rfl (fun h' hC => sem_move ((Value.bool false)) rfl ⟨rfl, rfl⟩) ?_
                  refine RunO.skip rfl rfl rfl ?_
                  refine OpH.no rfl rfl rfl ⟨fun _ => ⟨g111, g112, g113, trivial⟩, ?_⟩
                  refine RunO.skip rfl rfl rfl ?_
                  refine RunO.quiet rfl rfl rfl (fun h' hC => sem_pick false ((Value.bool false)) rfl rfl ⟨rfl, rfl⟩) ?_
                  refine RunO.quiet rfl rfl rfl (fun h' hC => sem_move ((Value.bool false)) rfl ⟨rfl, rfl⟩) ?_
                  refine RunO.skip rfl rfl rfl ?_
                  refine OpH.no rfl rfl rfl ⟨fun _ => ⟨g111, g112, g113, trivial⟩, ?_⟩
                  refine RunO.skip rfl rfl rfl ?_
                  refine RunO.quiet rfl rfl rfl (fun h' hC => sem_pick false ((Value.bool false)) rfl rfl ⟨rfl, rfl⟩) ?_
                  obtain ⟨h127, hst, hS⟩ := hS
                  refine OpH.go rfl rfl rfl (sem_store1 ⟨k8, 0, none⟩ ((Value.bool false)) h127 rfl rfl rfl TF.sz_4 hst ?_)
                  refine ⟨fun hz => Bool.noConfusion hz, ?_⟩
                  obtain ⟨b128, hl0, hS⟩ := hS
                  refine Run.ret ⟨.inr rfl, ?_⟩
                  exact ⟨⟨k8, 0, none⟩, (Value.bool b128), rfl, loadH1 TF.agg_4 hl0, hS.imp fun h' hq => ⟨(b128), rfl, hq⟩⟩
              · have hS := hF hb103; clear hT hF
                skip
                skip
                refine Run.draw (fun h' => cellH B h' ⟨k36, 0, none⟩ = some (Value.int .i64 (i96)) ∧ cellH B h' ⟨k33, 0, none⟩ = some (Value.slice a98 n99 c100) ∧ True) [29] [.q 0, .q 1, .q 2, .q 3, .q 4, .q 5, .q 7, .x 6, .q 8, .q 9, .q 10, .q 11, .x 12, .q 13, .q 14, .q 15, .q 16, .q 17, .q 18, .q 19, .q 20, .x 21, .q 22, .q 23, .q 24, .q 25, .x 26, .q 27, .q 28, .x 29] TF.mixed (by kernel_rfl) ⟨f97, f101, trivial⟩ ?_
                refine RunO.quiet rfl rfl rfl (fun h' hC => sem_load1 ⟨k36, 0, none⟩ ((Value.int .i64 (i96))) rfl TF.agg_3 hC.1 ⟨rfl, rfl⟩) ?_
                refine RunO.quiet rfl rfl rfl (fun h' hC => sem_load1 ⟨k33, 0, none⟩ ((Value.slice a98 n99 c100)) rfl TF.agg_84 hC.2.1 ⟨rfl, rfl⟩) ?_
                refine RunO.quiet rfl rfl rfl (fun h' hC => sem_lenSl a98 n99 c100 rfl TF.sl_84 ⟨rfl, rfl⟩) ?_
                refine RunO.quiet rfl rfl rfl (fun h' hC => sem_binI .i64 (i96) ((n99 : Nat)) (.bool false) rfl rfl (binI_eql_f hb103) ⟨rfl, rfl⟩) ?_
                refine RunO.quiet rfl rfl rfl (fun h' hC => sem_move ((Value.bool false)) rfl ⟨rfl, rfl⟩) ?_
                refine RunO.skip rfl rfl rfl ?_
                refine RunO.skip rfl rfl rfl ?_
                refine OpH.no rfl rfl rfl ⟨fun _ => ⟨f97, f101, trivial⟩, ?_⟩
                refine RunO.skip rfl rfl rfl ?_
                refine RunO.quiet rfl rfl rfl (fun h' hC => sem_pick false ((Value.bool false)) rfl rfl ⟨rfl, rfl⟩) ?_
                refine RunO.quiet rfl rfl rfl (fun h' hC => sem_move ((Value.bool false)) rfl ⟨rfl, rfl⟩) ?_
                refine RunO.skip rfl rfl rfl ?_
                refine OpH.no rfl rfl rfl ⟨fun _ => ⟨f97, f101, trivial⟩, ?_⟩
                refine RunO.skip rfl rfl rfl ?_
                refine RunO.quiet rfl rfl rfl (fun h' hC => sem_pick false ((Value.bool false)) rfl rfl ⟨rfl, rfl⟩) ?_
                refine RunO.quiet rfl rfl rfl (fun h' hC => sem_move ((Value.bool false)) rfl ⟨rfl, rfl⟩) ?_
                refine RunO.skip rfl rfl rfl ?_
                refine RunO.skip rfl rfl rfl ?_
                refine RunO.quiet rfl rfl rfl (fun h' hC => sem_pick false ((Value.bool false)) rfl rfl ⟨rfl, rfl⟩) ?_
                refine RunO.quiet rfl rfl rfl (fun h' hC => sem_move ((Value.bool false)) rfl ⟨rfl, rfl⟩) ?_
                refine RunO.skip rfl rfl rfl ?_
                refine OpH.no rfl rfl rfl ⟨fun _ => ⟨f97, f101, trivial⟩, ?_⟩
                refine RunO.skip rfl rfl rfl ?_
                refine RunO.quiet rfl rfl rfl (fun h' hC => sem_pick false ((Value.bool false)) rfl rfl ⟨rfl, rfl⟩) ?_
                refine RunO.quiet rfl rfl rfl (fun h' hC => sem_move ((Value.bool false)) rfl ⟨rfl, rfl⟩) ?_
                refine RunO.skip rfl rfl rfl ?_
                refine OpH.no rfl rfl rfl ⟨fun _ => ⟨f97, f101, trivial⟩, ?_⟩
                refine RunO.skip rfl rfl rfl ?_
                refine RunO.quiet rfl rfl rfl (fun h' hC => sem_pick false ((Value.bool false)) rfl rfl ⟨rfl, rfl⟩) ?_
                obtain ⟨h131, hst, hS⟩ := hS
                refine OpH.go rfl rfl rfl (sem_store1 ⟨k8, 0, none⟩ ((Value.bool false)) h131 rfl rfl rfl TF.sz_4 hst ?_)
                refine ⟨fun hz => Bool.noConfusion hz, ?_⟩
                obtain ⟨b132, hl0, hS⟩ := hS
                refine Run.ret ⟨.inr rfl, ?_⟩
                exact ⟨⟨k8, 0, none⟩, (Value.bool b132), rfl, loadH1 TF.agg_4 hl0, hS.imp fun h' hq => ⟨(b132), rfl, hq⟩⟩
          refine Run.seq ?_
          refine Run.ops0 (idx := [0, 1]) rfl ?_
          refine Run.go rfl rfl rfl (sem_move ((Value.pointer none)) rfl ?_)
          refine Run.go rfl rfl rfl (sem_callL [(Value.pointer none)] (TF.goes_67) rfl rfl (Spec.mono hS fun v134 h133 hv => ?_))
          obtain ⟨_, rfl, hS⟩ := hv
          refine Run.region_end ?_
          refine Run.block ?_
          obtain ⟨xs141, G137, J140, hit, hins, hG, h0, hS, hR⟩ := hS
          refine Run.of_fin (h0.imp fun h' h0 => ?_)
          refine Run.range (v134) (xs141.map (fun x : Int × Int => [(Value.int .i64 (x.1)), (Value.int .i64 (x.2))])) G137 J140 rfl hit hins hG h0 rfl (fun a ha => by obtain ⟨x, _, rfl⟩ := List.mem_map.1 ha; rfl) ?_ ?_
          · rintro q139 args h138 ha hJ
            obtain ⟨⟨i135, i136⟩, hx, rfl⟩ := Option.map_eq_some_iff.1 ((List.getElem?_map ..).symm.trans ha)
            have hS := hS q139 h138 i135 i136 hx hJ; clear hJ hx ha
            refine Run.skip ?_
            refine Run.begin ⟨rfl, ?_⟩
            refine Run.block ?_
            refine Run.seq ?_
            refine Run.ops0 (idx := [0]) rfl ?_
            obtain ⟨h142, hst, hS⟩ := hS
            refine Run.go rfl rfl rfl (sem_store1 ⟨k8, 0, none⟩ ((Value.bool false)) h142 rfl rfl rfl TF.sz_4 hst ?_)
            refine Run.region_end ?_
            refine Run.ret (.inr ⟨_, rfl, ?_⟩)
            obtain ⟨b143, hl0, hS⟩ := hS
            refine Run.ret ⟨.inr rfl, ?_⟩
            exact ⟨⟨k8, 0, none⟩, (Value.bool b143), rfl, loadH1 TF.agg_4 hl0, hS.imp fun h' hq => ⟨(b143), rfl, hq⟩⟩
          · intro h138 hJ
            have hS := hR h138 (by simpa using hJ); clear hJ hR
            refine Run.inBlock ?_
            exact Run.of_fin (hS.imp fun h' hS => j41 _ _ ⟨⟨rfl, rfl, rfl, rfl, rfl, trivial⟩, hS⟩)
        refine Run.seq ?_
        refine Run.ops0 (idx := [0, 1]) rfl ?_
        refine Run.go rfl rfl rfl (sem_move ((Value.pointer (some ⟨k21, 0, none⟩))) rfl ?_)
        refine Run.go rfl rfl rfl (sem_callL [(Value.pointer (some ⟨k21, 0, none⟩))] (TF.goes_67) rfl rfl (Spec.mono hS fun v145 h144 hv => ?_))
        obtain ⟨_, rfl, hS⟩ := hv
        refine Run.region_end ?_
        refine Run.block ?_
        obtain ⟨xs152, G148, J151, hit, hins, hG, h0, hS, hR⟩ := hS
        refine Run.of_fin (h0.imp fun h' h0 => ?_)
        refine Run.range (v145) (xs152.map (fun x : Int × Int => [(Value.int .i64 (x.1)), (Value.int .i64 (x.2))])) G148 J151 rfl hit hins hG h0 rfl (fun a ha => by obtain ⟨x, _, rfl⟩ := List.mem_map.1 ha; rfl) ?_ ?_
        · rintro q150 args h149 ha hJ
          obtain ⟨⟨i146, i147⟩, hx, rfl⟩ := Option.map_eq_some_iff.1 ((List.getElem?_map ..).symm.trans ha)
          have hS := hS q150 h149 i146 i147 hx hJ; clear hJ hx ha
          refine Run.seq ?_
          refine Run.ops0 (idx := [0]) rfl ?_
          refine Run.go rfl rfl rfl (sem_assign ((Value.int .i64 (i146))) rfl ?_)
          refine Run.region_end ?_
          refine Run.ops0 (idx := [0]) rfl ?_
          refine Run.go rfl rfl rfl (sem_assign ((Value.int .i64 (i147))) rfl ?_)
          refine Run.region_end ?_
          refine Run.begin ⟨rfl, ?_⟩
          refine Run.block ?_
          refine Run.seq ?_
          refine Run.ops0 (idx := [0, 1, 2, 3, 4, 5, 6, 7]) rfl ?_
          refine Run.ldSl hS fun a153 n154 c155 h156 hl hS => ?_
          refine Run.go rfl rfl rfl (sem_load1 ⟨k6, 0, none⟩ ((Value.slice a153 n154 c155)) rfl TF.agg_118 hl ?_)
          refine Run.go rfl rfl rfl (sem_move ((Value.int .i64 (i146))) rfl ?_)
          refine Run.go rfl rfl rfl (sem_callL [(Value.slice a153 n154 c155), (Value.int .i64 (i146))] (TF.goes_64) rfl rfl (Spec.mono hS fun v h157 hv => ?_))
          obtain ⟨i158, b159, rfl, hS⟩ := hv
          refine Run.go rfl rfl rfl (sem_move ((Value.tuple #[(Value.int .i64 (i158)), (Value.bool b159)])) rfl ?_)
          refine Run.go rfl rfl rfl (sem_extract #[(Value.int .i64 (i158)), (Value.bool b159)] ((Value.int .i64 (i158))) rfl rfl ?_)
          refine Run.go rfl rfl rfl (sem_extract #[(Value.int .i64 (i158)), (Value.bool b159)] ((Value.bool b159)) rfl rfl ?_)
          refine Run.go rfl rfl rfl (sem_assign ((Value.int .i64 (i158))) rfl ?_)
          refine Run.go rfl rfl rfl (sem_assign ((Value.bool b159)) rfl ?_)
          refine Run.region_end ?_
          refine Run.seq ?_
          refine Run.seq ?_
          refine Run.ops0 (idx := [0, 1, 2, 3, 4, 5, 6, 7, 8, 9, 10, 11, 12, 13, 14, 15, 16]) rfl ?_
          obtain ⟨i160, hl, hS⟩ := hS
          refine Run.go rfl rfl rfl (sem_load1 ⟨k36, 0, none⟩ ((Value.int .i64 (i160))) rfl TF.agg_3 hl ?_)
          refine Run.ldSl hS fun a161 n162 c163 h164 hl hS => ?_
          refine Run.go rfl rfl rfl (sem_load1 ⟨k33, 0, none⟩ ((Value.slice a161 n162 c163)) rfl TF.agg_84 hl ?_)
          refine Run.go rfl rfl rfl (sem_lenSl a161 n162 c163 rfl TF.sl_84 ?_)
          obtain ⟨hT, hF⟩ := hS
          by_cases hb165 : (i160 : Int) ≥ ((n162 : Nat))
          · have hS := hT hb165; clear hT hF
            refine Run.go rfl rfl rfl (sem_binI .i64 (i160) ((n162 : Nat)) (.bool true) rfl rfl (binI_geq_t hb165) ?_)
            refine Run.go rfl rfl rfl (sem_move ((Value.bool true)) rfl ?_)
            refine Run.no rfl rfl rfl ?_
            refine Run.no rfl rfl rfl ?_
            refine Run.no rfl rfl rfl ?_
            refine Run.no rfl rfl rfl ?_
            refine Run.no rfl rfl rfl ?_
            refine Run.no rfl rfl rfl ?_
            refine Run.go rfl rfl rfl (sem_pick true ((Value.bool true)) rfl rfl ?_)
            refine Run.go rfl rfl rfl (sem_move ((Value.bool true)) rfl ?_)
            refine Run.no rfl rfl rfl ?_
            refine Run.no rfl rfl rfl ?_
            refine Run.no rfl rfl rfl ?_
            refine Run.go rfl rfl rfl (sem_pick true ((Value.bool true)) rfl rfl ?_)
            refine Run.region_end ?_
            refine Run.condT rfl ?_
            refine Run.seq ?_
            refine Run.ops0 (idx := [0]) rfl ?_
            obtain ⟨h166, hst, hS⟩ := hS
            refine Run.go rfl rfl rfl (sem_store1 ⟨k8, 0, none⟩ ((Value.bool false)) h166 rfl rfl rfl TF.sz_4 hst ?_)
            refine Run.region_end ?_
            refine Run.ret (.inr ⟨_, rfl, ?_⟩)
            obtain ⟨b167, hl0, hS⟩ := hS
            refine Run.ret ⟨.inr rfl, ?_⟩
            exact ⟨⟨k8, 0, none⟩, (Value.bool b167), rfl, loadH1 TF.agg_4 hl0, hS.imp fun h' hq => ⟨(b167), rfl, hq⟩⟩
          · have hS := hF hb165; clear hT hF
            refine Run.go rfl rfl rfl (sem_binI .i64 (i160) ((n162 : Nat)) (.bool false) rfl rfl (binI_geq_f hb165) ?_)
            refine Run.go rfl rfl rfl (sem_move ((Value.bool false)) rfl ?_)
            refine Run.go rfl rfl rfl (sem_move ((Value.int .i64 (i146))) rfl ?_)
            refine Run.ldSl hS fun a168 n169 c170 h171 hl hS => ?_
            refine Run.go rfl rfl rfl (sem_load1 ⟨k33, 0, none⟩ ((Value.slice a168 n169 c170)) rfl TF.agg_84 hl ?_)
            obtain ⟨i172, hl, hS⟩ := hS
            refine Run.go rfl rfl rfl (sem_load1 ⟨k36, 0, none⟩ ((Value.int .i64 (i172))) rfl TF.agg_3 hl ?_)
            obtain ⟨A173, e174, hi0, hi1, hS⟩ := hS
            refine Run.go rfl rfl rfl (sem_indexAddrS A173 n169 c170 .i64 (i172) (congrArg (fun a => Value.slice a n169 c170) e174) rfl TF.slc_84 hi0 hi1 ?_)
            obtain ⟨i175, hl, hS⟩ := hS
            refine Run.go rfl rfl rfl (sem_load1 (Addr.add A173 (Int.toNat (i172) * 1)) ((Value.int .i64 (i175))) rfl TF.agg_3 hl ?_)
            obtain ⟨hT, hF⟩ := hS
            by_cases hb176 : (i146 : Int) = i175
            · have hS := hT hb176; clear hT hF
              refine Run.go rfl rfl rfl (sem_binI .i64 (i146) (i175) (.bool false) rfl rfl (binI_neq_t hb176) ?_)
              refine Run.go rfl rfl rfl (sem_pick false ((Value.bool false)) rfl rfl ?_)
              refine Run.go rfl rfl rfl (sem_move ((Value.bool false)) rfl ?_)
              refine Run.go rfl rfl rfl (sem_move ((Value.int .i64 (i147))) rfl ?_)
              refine Run.go rfl rfl rfl (sem_move ((Value.int .i64 (i158))) rfl ?_)
              obtain ⟨hT, hF⟩ := hS
              by_cases hb177 : (i147 : Int) = i158
              · have hS := hT hb177; clear hT hF
                refine Run.go rfl rfl rfl (sem_binI .i64 (i147) (i158) (.bool false) rfl rfl (binI_neq_t hb177) ?_)
                refine Run.go rfl rfl rfl (sem_pick false ((Value.bool false)) rfl rfl ?_)
                refine Run.region_end ?_
                refine Run.condF rfl ?_
                refine Run.skip ?_
                refine Run.ops0 (idx := [0, 1, 2]) rfl ?_
                obtain ⟨i178, hl, hS⟩ := hS
                refine Run.go rfl rfl rfl (sem_load1 ⟨k36, 0, none⟩ ((Value.int .i64 (i178))) rfl TF.agg_3 hl ?_)
                refine Run.go rfl rfl rfl (sem_binI .i64 (i178) (1) ((Value.int .i64 (IntKind.wrap .i64 ((i178) + (1))))) rfl rfl rfl ?_)
                obtain ⟨h179, hst, hS⟩ := hS
                refine Run.go rfl rfl rfl (sem_store1 ⟨k36, 0, none⟩ ((Value.int .i64 (IntKind.wrap .i64 ((i178) + (1))))) h179 rfl rfl rfl TF.sz_3 hst ?_)
                refine Run.region_end ?_
                refine Run.inBlock ?_
                refine Run.of_fin (hS.imp fun h' hS => ?_)
                exact Run.fall (.inl ⟨rfl, hS⟩)
              · have hS := hF hb177; clear hT hF
                refine Run.go rfl rfl rfl (sem_binI .i64 (i147) (i158) (.bool true) rfl rfl (binI_neq_f hb177) ?_)
                refine Run.go rfl rfl rfl (sem_pick false ((Value.bool true)) rfl rfl ?_)
                refine Run.region_end ?_
                refine Run.condT rfl ?_
                refine Run.seq ?_
                refine Run.ops0 (idx := [0]) rfl ?_
                obtain ⟨h180, hst, hS⟩ := hS
                refine Run.go rfl rfl rfl (sem_store1 ⟨k8, 0, none⟩ ((Value.bool false)) h180 rfl rfl rfl TF.sz_4 hst ?_)
                refine Run.region_end ?_
                refine Run.ret (.inr ⟨_, rfl, ?_⟩)
                obtain ⟨b181, hl0, hS⟩ := hS
                refine Run.ret ⟨.inr rfl, ?_⟩
                exact ⟨⟨k8, 0, none⟩, (Value.bool b181), rfl, loadH1 TF.agg_4 hl0, hS.imp fun h' hq => ⟨(b181), rfl, hq⟩⟩
            · have hS := hF hb176; clear hT hF
              refine Run.go rfl rfl rfl (sem_binI .i64 (i146) (i175) (.bool true) rfl rfl (binI_neq_f hb176) ?_)
              refine Run.go rfl rfl rfl (sem_pick false ((Value.bool true)) rfl rfl ?_)
              refine Run.go rfl rfl rfl (sem_move ((Value.bool true)) rfl ?_)
              refine Run.no rfl rfl rfl ?_
              refine Run.no rfl rfl rfl ?_
              refine Run.no rfl rfl rfl ?_
              refine Run.go rfl rfl rfl (sem_pick true ((Value.bool true)) rfl rfl ?_)
              refine Run.region_end ?_
              refine Run.condT rfl ?_
              refine Run.seq ?_
              refine Run.ops0 (idx := [0]) rfl ?_
              obtain ⟨h182, hst, hS⟩ := hS
              refine Run.go rfl rfl rfl (sem_store1 ⟨k8, 0, none⟩ ((Value.bool false)) h182 rfl rfl rfl TF.sz_4 hst ?_)
              refine Run.region_end ?_
              refine Run.ret (.inr ⟨_, rfl, ?_⟩)
              obtain ⟨b183, hl0, hS⟩ := hS
              refine Run.ret ⟨.inr rfl, ?_⟩
              exact ⟨⟨k8, 0, none⟩, (Value.bool b183), rfl, loadH1 TF.agg_4 hl0, hS.imp fun h' hq => ⟨(b183), rfl, hq⟩⟩
        · intro h149 hJ
          have hS := hR h149 (by simpa using hJ); clear hJ hR
          refine Run.inBlock ?_
          exact Run.of_fin (hS.imp fun h' hS => j39 _ _ ⟨⟨rfl, rfl, rfl, rfl, trivial⟩, hS⟩)
      refine Run.seq ?_
      refine Run.ops0 (idx := [0, 1, 2]) rfl ?_
      refine Run.ldSl hS fun a184 n185 c186 h187 hl hS => ?_
      refine Run.go rfl rfl rfl (sem_load1 ⟨k6, 0, none⟩ ((Value.slice a184 n185 c186)) rfl TF.agg_118 hl ?_)
      refine Run.go rfl rfl rfl (sem_lenSl a184 n185 c186 rfl TF.sl_118 ?_)
      refine Run.go rfl rfl rfl (sem_move ((Value.int .i64 (0))) rfl ?_)
      refine Run.region_end ?_
      refine Run.block ?_
      obtain ⟨J193, m191, h0, hS⟩ := hS
      refine Run.of_fin (h0.imp fun h' h0 => ?_)
      refine Run.loop (σ := Int × Nat) (fun x e h => J193 x.1 x.2 h ∧ Agree [(1, (Value.int .i64 (i4))), (2, (Value.pointer (some ⟨k6, 0, none⟩))), (4, (Value.pointer (some ⟨k8, 0, none⟩))), (5, (Value.pointer (some ⟨k21, 0, none⟩))), (28, (Value.slice a184 n185 c186)), (29, (Value.int .i64 ((n185 : Nat)))), (30, (Value.int .i64 (x.1)))] e) (fun x => x.2) ((0), m191) ⟨h0, ⟨rfl, rfl, rfl, rfl, rfl, rfl, rfl, trivial⟩⟩ ?_; clear h0
      rintro ⟨i188, m190⟩ e h189 ⟨hJ, hag⟩ ih192
      have hS := hS i188 m190 h189 hJ; clear hJ
      refine Run.env hag ?_; clear hag
      refine Run.seq ?_
      refine Run.ops0 (idx := [0]) rfl ?_
      obtain ⟨hT, hF⟩ := hS
      by_cases hb194 : (i188 : Int) < ((n185 : Nat))
      · have hS := hT hb194; clear hT hF
        refine Run.go rfl rfl rfl (sem_binI .i64 (i188) ((n185 : Nat)) (.bool true) rfl rfl (binI_lss_t hb194) ?_)
        refine Run.region_end ?_
        refine Run.seq ?_
        refine Run.condT rfl ?_
        refine Run.skip ?_
        refine Run.seq ?_
        refine Run.block ?_
        refine Run.seq ?_
        refine Run.ops0 (idx := [0, 1, 2, 3, 4, 5]) rfl ?_
        refine Run.go rfl rfl rfl (sem_move ((Value.int .i64 (i188))) rfl ?_)
        obtain ⟨A195, e196, hi0, hi1, hS⟩ := hS
        refine Run.go rfl rfl rfl (sem_indexAddrS A195 n185 c186 .i64 (i188) (congrArg (fun a => Value.slice a n185 c186) e196) rfl TF.slc_118 hi0 hi1 ?_)
        obtain ⟨i197, i198, hl, hS⟩ := hS
        refine Run.go rfl rfl rfl (sem_loadN (Addr.add A195 (Int.toNat (i188) * 2)) [(Value.int .i64 (i197)), (Value.int .i64 (i198))] rfl TF.agg_132 TF.sz_132 hl ?_)
        refine Run.go rfl rfl rfl (sem_allocN [(Value.int .i64 (0)), (Value.int .i64 (0))] TF.zero_132 (fun k199 hb1 hb2 h200 hb3 => ?_))
        have hS := hS k199 hb1 hb2 h200 hb3
        refine Run.go rfl rfl rfl (sem_assign ((Value.int .i64 (i188))) rfl ?_)
        obtain ⟨h201, hst, hS⟩ := hS
        refine Run.go rfl rfl rfl (sem_storeN ⟨k199, 0, none⟩ [(Value.int .i64 (i197)), (Value.int .i64 (i198))] h201 rfl rfl TF.sz_132 hst ?_)
        refine Run.region_end ?_
        refine Run.seq ?_
        refine Run.seq ?_
        refine Run.ops0 (idx := [0, 1, 2, 3, 4, 5, 6]) rfl ?_
        refine Run.go rfl rfl rfl (sem_move ((Value.pointer (some ⟨k21, 0, none⟩))) rfl ?_)
        refine Run.go rfl rfl rfl (sem_fieldAddr ⟨k199, 0, none⟩ 0 rfl TF.fld_132_0 ?_)
        obtain ⟨i202, hl, hS⟩ := hS
        refine Run.go rfl rfl rfl (sem_load1 ⟨k199, 0, none⟩ ((Value.int .i64 (i202))) rfl TF.agg_3 hl ?_)
        refine Run.go rfl rfl rfl (sem_fieldAddr ⟨k199, 0, none⟩ 1 rfl TF.fld_132_1 ?_)
        obtain ⟨i203, hl, hS⟩ := hS
        refine Run.go rfl rfl rfl (sem_load1 ⟨k199, 1, none⟩ ((Value.int .i64 (i203))) rfl TF.agg_3 hl ?_)
        refine Run.go rfl rfl rfl (sem_callL [(Value.pointer (some ⟨k21, 0, none⟩)), (Value.int .i64 (i202)), (Value.int .i64 (i203))] (TF.goes_65) rfl rfl (Spec.mono hS fun v h204 hv => ?_))
        obtain ⟨b205, rfl, hS⟩ := hv
        obtain ⟨hT, hF⟩ := hS
        cases b205
        · have hS := hF rfl; clear hT hF
          refine Run.go rfl rfl rfl (sem_not false rfl ?_)
          refine Run.region_end ?_
          refine Run.condT rfl ?_
          refine Run.seq ?_
          refine Run.ops0 (idx := [0]) rfl ?_
          obtain ⟨h206, hst, hS⟩ := hS
          refine Run.go rfl rfl rfl (sem_store1 ⟨k8, 0, none⟩ ((Value.bool false)) h206 rfl rfl rfl TF.sz_4 hst ?_)
          refine Run.region_end ?_
          obtain ⟨b207, hl0, hS⟩ := hS
          refine Run.ret ⟨.inr rfl, ?_⟩
          exact ⟨⟨k8, 0, none⟩, (Value.bool b207), rfl, loadH1 TF.agg_4 hl0, hS.imp fun h' hq => ⟨(b207), rfl, hq⟩⟩
        · have hS := hT rfl; clear hT hF
          refine Run.go rfl rfl rfl (sem_not true rfl ?_)
          refine Run.region_end ?_
          refine Run.condF rfl ?_
          refine Run.skip ?_
          refine Run.seq ?_
          refine Run.ops0 (idx := [0, 1, 2, 3, 4, 5, 6, 7]) rfl ?_
          refine Run.go rfl rfl rfl (sem_move ((Value.pointer (some ⟨k21, 0, none⟩))) rfl ?_)
          refine Run.go rfl rfl rfl (sem_move ((Value.int .i64 (i4))) rfl ?_)
          refine Run.go rfl rfl rfl (sem_callL [(Value.pointer (some ⟨k21, 0, none⟩)), (Value.int .i64 (i4))] (TF.goes_68) rfl rfl (Spec.mono hS fun v h208 hv => ?_))
          obtain ⟨i209, b210, rfl, hS⟩ := hv
          refine Run.go rfl rfl rfl (sem_move ((Value.tuple #[(Value.int .i64 (i209)), (Value.bool b210)])) rfl ?_)
          refine Run.go rfl rfl rfl (sem_extract #[(Value.int .i64 (i209)), (Value.bool b210)] ((Value.int .i64 (i209))) rfl rfl ?_)
          refine Run.go rfl rfl rfl (sem_extract #[(Value.int .i64 (i209)), (Value.bool b210)] ((Value.bool b210)) rfl rfl ?_)
          refine Run.go rfl rfl rfl (sem_assign ((Value.int .i64 (i209))) rfl ?_)
          refine Run.go rfl rfl rfl (sem_assign ((Value.bool b210)) rfl ?_)
          refine Run.region_end ?_
          refine Run.seq ?_
          refine Run.ops0 (idx := [0, 1, 2, 3, 4, 5, 6, 7, 8, 9, 10]) rfl ?_
          refine Run.ldSl hS fun a211 n212 c213 h214 hl hS => ?_
          refine Run.go rfl rfl rfl (sem_load1 ⟨k6, 0, none⟩ ((Value.slice a211 n212 c213)) rfl TF.agg_118 hl ?_)
          refine Run.go rfl rfl rfl (sem_move ((Value.int .i64 (i188))) rfl ?_)
          refine Run.go rfl rfl rfl (sem_binI .i64 (i188) (1) ((Value.int .i64 (IntKind.wrap .i64 ((i188) + (1))))) rfl rfl rfl ?_)
          obtain ⟨hi0, hi1, hi2, hS⟩ := hS
          refine Run.go rfl rfl rfl (sem_sliceSlI a211 n212 c213 (0) (IntKind.wrap .i64 ((i188) + (1))) rfl TF.slc_118 rfl ⟨_, rfl⟩ hi0 hi1 hi2 ?_)
          refine Run.go rfl rfl rfl (sem_move ((Value.int .i64 (i4))) rfl ?_)
          refine Run.go rfl rfl rfl (sem_callL [(Value.slice (if c213 = Int.toNat (0) then a211 else Option.map (·.add (Int.toNat (0) * 2)) a211) (Int.toNat (IntKind.wrap .i64 ((i188) + (1))) - Int.toNat (0)) (c213 - Int.toNat (0))), (Value.int .i64 (i4))] (TF.goes_64) rfl rfl (Spec.mono hS fun v h215 hv => ?_))
          obtain ⟨i216, b217, rfl, hS⟩ := hv
          refine Run.go rfl rfl rfl (sem_move ((Value.tuple #[(Value.int .i64 (i216)), (Value.bool b217)])) rfl ?_)
          refine Run.go rfl rfl rfl (sem_extract #[(Value.int .i64 (i216)), (Value.bool b217)] ((Value.int .i64 (i216))) rfl rfl ?_)
          refine Run.go rfl rfl rfl (sem_extract #[(Value.int .i64 (i216)), (Value.bool b217)] ((Value.bool b217)) rfl rfl ?_)
          refine Run.go rfl rfl rfl (sem_assign ((Value.int .i64 (i216))) rfl ?_)
          refine Run.go rfl rfl rfl (sem_assign ((Value.bool b217)) rfl ?_)
          refine Run.region_end ?_
          refine Run.seq ?_
          refine Run.ops0 (idx := [0, 1, 2, 3, 4, 5, 6, 7]) rfl ?_
          refine Run.go rfl rfl rfl (sem_move ((Value.int .i64 (i209))) rfl ?_)
          refine Run.go rfl rfl rfl (sem_move ((Value.int .i64 (i216))) rfl ?_)
          obtain ⟨hT, hF⟩ := hS
          by_cases hb218 : (i209 : Int) = i216
          · have hS := hT hb218; clear hT hF
            refine Run.go rfl rfl rfl (sem_binI .i64 (i209) (i216) (.bool false) rfl rfl (binI_neq_t hb218) ?_)
            refine Run.go rfl rfl rfl (sem_move ((Value.bool false)) rfl ?_)
            refine Run.go rfl rfl rfl (sem_move ((Value.bool b210)) rfl ?_)
            refine Run.go rfl rfl rfl (sem_move ((Value.bool b217)) rfl ?_)
            obtain ⟨hT, hF⟩ := hS
            by_cases hb219 : b210 = b217
            · have hS := hT hb219; clear hT hF
              refine Run.go rfl rfl rfl (sem_boolEqT b210 b217 (.inr rfl) false rfl rfl TF.bool_4 hb219 rfl ?_)
              refine Run.go rfl rfl rfl (sem_pick false ((Value.bool false)) rfl rfl ?_)
              refine Run.region_end ?_
              refine Run.condF rfl ?_
              refine Run.skip ?_
              refine Run.inBlock ?_
              refine Run.ops0 (idx := [0, 1]) rfl ?_
              refine Run.go rfl rfl rfl (sem_binI .i64 (i188) (1) ((Value.int .i64 (IntKind.wrap .i64 ((i188) + (1))))) rfl rfl rfl ?_)
              refine Run.go rfl rfl rfl (sem_move ((Value.int .i64 (IntKind.wrap .i64 ((i188) + (1))))) rfl ?_)
              refine Run.region_end ?_
              exact Run.of_fin (hS.imp fun h' ⟨m', hm, hS⟩ => ih192 ((IntKind.wrap .i64 ((i188) + (1))), m') _ _ ⟨hS, ⟨rfl, rfl, rfl, rfl, rfl, rfl, rfl, trivial⟩⟩ hm)
            · have hS := hF hb219; clear hT hF
              refine Run.go rfl rfl rfl (sem_boolEqF b210 b217 (.inr rfl) true rfl rfl TF.bool_4 hb219 rfl ?_)
              refine Run.go rfl rfl rfl (sem_pick false ((Value.bool true)) rfl rfl ?_)
              refine Run.region_end ?_
              refine Run.condT rfl ?_
              refine Run.seq ?_
              refine Run.ops0 (idx := [0]) rfl ?_
              obtain ⟨h220, hst, hS⟩ := hS
              refine Run.go rfl rfl rfl (sem_store1 ⟨k8, 0, none⟩ ((Value.bool false)) h220 rfl rfl rfl TF.sz_4 hst ?_)
              refine Run.region_end ?_
              obtain ⟨b221, hl0, hS⟩ := hS
              refine Run.ret ⟨.inr rfl, ?_⟩
              exact ⟨⟨k8, 0, none⟩, (Value.bool b221), rfl, loadH1 TF.agg_4 hl0, hS.imp fun h' hq => ⟨(b221), rfl, hq⟩⟩
          · have hS := hF hb218; clear hT hF
            refine Run.go rfl rfl rfl (sem_binI .i64 (i209) (i216) (.bool true) rfl rfl (binI_neq_f hb218) ?_)
            refine Run.go rfl rfl rfl (sem_move ((Value.bool true)) rfl ?_)
            refine Run.no rfl rfl rfl ?_
            refine Run.no rfl rfl rfl ?_
            refine Run.no rfl rfl rfl ?_
            refine Run.go rfl rfl rfl (sem_pick true ((Value.bool true)) rfl rfl ?_)
            refine Run.region_end ?_
            refine Run.condT rfl ?_
            refine Run.seq ?_
            refine Run.ops0 (idx := [0]) rfl ?_
            obtain ⟨h222, hst, hS⟩ := hS
            refine Run.go rfl rfl rfl (sem_store1 ⟨k8, 0, none⟩ ((Value.bool false)) h222 rfl rfl rfl TF.sz_4 hst ?_)
            refine Run.region_end ?_
            obtain ⟨b223, hl0, hS⟩ := hS
            refine Run.ret ⟨.inr rfl, ?_⟩
            exact ⟨⟨k8, 0, none⟩, (Value.bool b223), rfl, loadH1 TF.agg_4 hl0, hS.imp fun h' hq => ⟨(b223), rfl, hq⟩⟩
      · have hS := hF hb194; clear hT hF
        refine Run.go rfl rfl rfl (sem_binI .i64 (i188) ((n185 : Nat)) (.bool false) rfl rfl (binI_lss_f hb194) ?_)
        refine Run.region_end ?_
        refine Run.seq ?_
        refine Run.condF rfl ?_
        refine Run.exit rfl ?_
        exact Run.of_fin (hS.imp fun h' hS => j23 _ _ ⟨⟨rfl, rfl, rfl, trivial⟩, hS⟩)
set_option maxHeartbeats 4000000 in
theorem C_countermandlaw13_DraftCopies.of {B : RO} {a1 : Option Addr} {n2 : Nat} {c3 : Nat} {i4 : Int} {i5 : Int} {i6 : Int} {h : Heap} {Q : Bool → Heap → Prop} (hS : S_countermandlaw13_DraftCopies B a1 n2 c3 i4 i5 i6 h Q) : C_countermandlaw13_DraftCopies B a1 n2 c3 i4 i5 i6 h Q := by
  unfold S_countermandlaw13_DraftCopies at hS
  unfold C_countermandlaw13_DraftCopies
  refine Spec.of_run Try.func14 (N := 121) (rs := [ResultVar.cell 6 4]) rfl rfl rfl (Nat.le_of_ble_eq_true rfl) ?_
  refine Run.seq ?_
  refine Run.ops0 (idx := [0, 1, 2]) rfl ?_
  refine Run.go rfl rfl rfl (sem_boxNN [(Value.int .i64 (i4)), (Value.int .i64 (i5))] rfl (fun k8 hb1 hb2 h9 hb3 => ?_))
  have hS := hS k8 hb1 hb2 h9 hb3
  refine Run.go rfl rfl rfl (sem_box1N ((Value.int .i64 (i6))) rfl rfl (fun k10 hb1 hb2 h11 hb3 => ?_))
  have hS := hS k10 hb1 hb2 h11 hb3
  refine Run.go rfl rfl rfl (sem_allocN [(Value.bool false)] TF.zero_4 (fun k12 hb1 hb2 h13 hb3 => ?_))
  have hS := hS k12 hb1 hb2 h13 hb3
  refine Run.region_end ?_
  refine Run.seq ?_
  refine Run.seq ?_
  refine Run.ops0 (idx := [0, 1]) rfl ?_
  refine Run.go rfl rfl rfl (sem_callL [] (TF.goes_62) rfl rfl (Spec.mono hS fun v h14 hv => ?_))
  obtain ⟨b15, rfl, hS⟩ := hv
  obtain ⟨hT, hF⟩ := hS
  cases b15
  · have hS := hF rfl; clear hT hF
    refine Run.go rfl rfl rfl (sem_not false rfl ?_)
    refine Run.region_end ?_
    refine Run.condT rfl ?_
    refine Run.seq ?_
    refine Run.ops0 (idx := [0]) rfl ?_
    obtain ⟨h16, hst, hS⟩ := hS
    refine Run.go rfl rfl rfl (sem_store1 ⟨k12, 0, none⟩ ((Value.bool false)) h16 rfl rfl rfl TF.sz_4 hst ?_)
    refine Run.region_end ?_
    obtain ⟨b17, hl0, hS⟩ := hS
    refine Run.ret ⟨.inr rfl, ?_⟩
    exact ⟨⟨k12, 0, none⟩, (Value.bool b17), rfl, loadH1 TF.agg_4 hl0, hS.imp fun h' hq => ⟨(b17), rfl, hq⟩⟩
  · have hS := hT rfl; clear hT hF
    refine Run.go rfl rfl rfl (sem_not true rfl ?_)
    refine Run.region_end ?_
    refine Run.condF rfl ?_
    refine Run.skip ?_
    refine Run.seq ?_
    refine Run.seq ?_
    refine Run.ops0 (idx := [0, 1, 2]) rfl ?_
    refine Run.go rfl rfl rfl (sem_move ((Value.slice a1 n2 c3)) rfl ?_)
    refine Run.go rfl rfl rfl (sem_lenSl a1 n2 c3 rfl TF.sl_118 ?_)
    obtain ⟨hT, hF⟩ := hS
    by_cases hb18 : ((n2 : Nat) : Int) > (80)
    · have hS := hT hb18; clear hT hF
      refine Run.go rfl rfl rfl (sem_binI .i64 ((n2 : Nat)) (80) (.bool true) rfl rfl (binI_gtr_t hb18) ?_)
      refine Run.region_end ?_
      refine Run.condT rfl ?_
      refine Run.seq ?_
      refine Run.ops0 (idx := [0]) rfl ?_
      obtain ⟨h19, hst, hS⟩ := hS
      refine Run.go rfl rfl rfl (sem_store1 ⟨k12, 0, none⟩ ((Value.bool true)) h19 rfl rfl rfl TF.sz_4 hst ?_)
      refine Run.region_end ?_
      obtain ⟨b20, hl0, hS⟩ := hS
      refine Run.ret ⟨.inr rfl, ?_⟩
      exact ⟨⟨k12, 0, none⟩, (Value.bool b20), rfl, loadH1 TF.agg_4 hl0, hS.imp fun h' hq => ⟨(b20), rfl, hq⟩⟩
    · have hS := hF hb18; clear hT hF
      refine Run.go rfl rfl rfl (sem_binI .i64 ((n2 : Nat)) (80) (.bool false) rfl rfl (binI_gtr_f hb18) ?_)
      refine Run.region_end ?_
      refine Run.condF rfl ?_
      refine Run.skip ?_
      refine Run.seq ?_
      refine Run.ops0 (idx := [0, 1, 2, 3]) rfl ?_
      refine Run.go rfl rfl rfl (sem_buildSL [] [(Value.slice none 0 0)] TF.zero_122 TF.places_122 rfl rfl ?_)
      refine Run.go rfl rfl rfl (sem_boxNN [(Value.slice none 0 0)] rfl (fun k21 hb1 hb2 h22 hb3 => ?_))
      have hS := hS k21 hb1 hb2 h22 hb3
      refine Run.go rfl rfl rfl (sem_allocN [(Value.pointer none)] TF.zero_119 (fun k23 hb1 hb2 h24 hb3 => ?_))
      have hS := hS k23 hb1 hb2 h24 hb3
      obtain ⟨h25, hst, hS⟩ := hS
      refine Run.go rfl rfl rfl (sem_store1 ⟨k23, 0, none⟩ ((Value.pointer (some ⟨k21, 0, none⟩))) h25 rfl rfl rfl TF.sz_119 hst ?_)
      refine Run.region_end ?_
      refine Run.seqJ (fun e h27 => Agree [(0, (Value.slice a1 n2 c3)), (4, (Value.pointer (some ⟨k8, 0, none⟩))), (5, (Value.pointer (some ⟨k10, 0, none⟩))), (6, (Value.pointer (some ⟨k12, 0, none⟩))), (7, (Value.pointer (some ⟨k23, 0, none⟩)))] e ∧ S_countermandlaw13_DraftCopies_J1 B a1 n2 c3 k8 k10 k12 k23 h27 Q) ?_ fun j26 => ?_
      · rintro e h27 ⟨hag, hS⟩
        refine Run.env hag ?_; clear hag
        refine Run.seq ?_
        refine Run.ops0 (idx := [0, 1, 2]) rfl ?_
        obtain ⟨p28, hl, hS⟩ := hS
        refine Run.go rfl rfl rfl (sem_load1 ⟨k23, 0, none⟩ ((Value.pointer p28)) rfl TF.agg_119 hl ?_)
        refine Run.go rfl rfl rfl (sem_callL [(Value.pointer p28)] (TF.goes_69) rfl rfl (Spec.mono hS fun v h29 hv => ?_))
        obtain ⟨p30, rfl, hS⟩ := hv
        refine Run.go rfl rfl rfl (sem_assign ((Value.pointer p30)) rfl ?_)
        refine Run.region_end ?_
        refine Run.seq ?_
        refine Run.ops0 (idx := [0, 1, 2, 3, 4, 5]) rfl ?_
        refine Run.go rfl rfl rfl (sem_move ((Value.pointer p30)) rfl ?_)
        refine Run.go rfl rfl rfl (sem_fieldAddr ⟨k8, 0, none⟩ 0 rfl TF.fld_132_0 ?_)
        obtain ⟨i31, hl, hS⟩ := hS
        refine Run.go rfl rfl rfl (sem_load1 ⟨k8, 0, none⟩ ((Value.int .i64 (i31))) rfl TF.agg_3 hl ?_)
        refine Run.go rfl rfl rfl (sem_fieldAddr ⟨k8, 0, none⟩ 1 rfl TF.fld_132_1 ?_)
        obtain ⟨i32, hl, hS⟩ := hS
        refine Run.go rfl rfl rfl (sem_load1 ⟨k8, 1, none⟩ ((Value.int .i64 (i32))) rfl TF.agg_3 hl ?_)
        refine Run.go rfl rfl rfl (sem_callL [(Value.pointer p30), (Value.int .i64 (i31)), (Value.int .i64 (i32))] (TF.goes_65) rfl rfl (Spec.mono hS fun v h33 hv => ?_))
        obtain ⟨b34, rfl, hS⟩ := hv
        refine Run.region_end ?_
        refine Run.seq ?_
        refine Run.ops0 (idx := [0, 1, 2, 3, 4, 5, 6, 7, 8]) rfl ?_
        obtain ⟨p35, hl, hS⟩ := hS
        refine Run.go rfl rfl rfl (sem_load1 ⟨k23, 0, none⟩ ((Value.pointer p35)) rfl TF.agg_119 hl ?_)
        refine Run.go rfl rfl rfl (sem_fieldAddr ⟨k8, 0, none⟩ 0 rfl TF.fld_132_0 ?_)
        obtain ⟨i36, hl, hS⟩ := hS
        refine Run.go rfl rfl rfl (sem_load1 ⟨k8, 0, none⟩ ((Value.int .i64 (i36))) rfl TF.agg_3 hl ?_)
        refine Run.go rfl rfl rfl (sem_callL [(Value.pointer p35), (Value.int .i64 (i36))] (TF.goes_68) rfl rfl (Spec.mono hS fun v h37 hv => ?_))
        obtain ⟨i38, b39, rfl, hS⟩ := hv
        refine Run.go rfl rfl rfl (sem_move ((Value.tuple #[(Value.int .i64 (i38)), (Value.bool b39)])) rfl ?_)
        refine Run.go rfl rfl rfl (sem_extract #[(Value.int .i64 (i38)), (Value.bool b39)] ((Value.int .i64 (i38))) rfl rfl ?_)
        refine Run.go rfl rfl rfl (sem_extract #[(Value.int .i64 (i38)), (Value.bool b39)] ((Value.bool b39)) rfl rfl ?_)
        refine Run.go rfl rfl rfl (sem_assign ((Value.int .i64 (i38))) rfl ?_)
        refine Run.go rfl rfl rfl (sem_assign ((Value.bool b39)) rfl ?_)
        refine Run.region_end ?_
        refine Run.seq ?_
        refine Run.ops0 (idx := [0, 1, 2, 3, 4, 5, 6, 7, 8]) rfl ?_
        refine Run.go rfl rfl rfl (sem_move ((Value.slice a1 n2 c3)) rfl ?_)
        refine Run.go rfl rfl rfl (sem_fieldAddr ⟨k8, 0, none⟩ 0 rfl TF.fld_132_0 ?_)
        obtain ⟨i40, hl, hS⟩ := hS
        refine Run.go rfl rfl rfl (sem_load1 ⟨k8, 0, none⟩ ((Value.int .i64 (i40))) rfl TF.agg_3 hl ?_)
        refine Run.go rfl rfl rfl (sem_callL [(Value.slice a1 n2 c3), (Value.int .i64 (i40))] (TF.goes_64) rfl rfl (Spec.mono hS fun v h41 hv => ?_))
        obtain ⟨i42, b43, rfl, hS⟩ := hv
        refine Run.go rfl rfl rfl (sem_move ((Value.tuple #[(Value.int .i64 (i42)), (Value.bool b43)])) rfl ?_)
        refine Run.go rfl rfl rfl (sem_extract #[(Value.int .i64 (i42)), (Value.bool b43)] ((Value.int .i64 (i42))) rfl rfl ?_)
        refine Run.go rfl rfl rfl (sem_extract #[(Value.int .i64 (i42)), (Value.bool b43)] ((Value.bool b43)) rfl rfl ?_)
        refine Run.go rfl rfl rfl (sem_assign ((Value.int .i64 (i42))) rfl ?_)
        refine Run.go rfl rfl rfl (sem_assign ((Value.bool b43)) rfl ?_)
        refine Run.region_end ?_
        refine Run.seq ?_
        refine Run.ops0 (idx := [0, 1, 2, 3, 4, 5, 6, 7, 8]) rfl ?_
        refine Run.go rfl rfl rfl (sem_move ((Value.pointer p30)) rfl ?_)
        refine Run.go rfl rfl rfl (sem_fieldAddr ⟨k8, 0, none⟩ 0 rfl TF.fld_132_0 ?_)
        obtain ⟨i44, hl, hS⟩ := hS
        refine Run.go rfl rfl rfl (sem_load1 ⟨k8, 0, none⟩ ((Value.int .i64 (i44))) rfl TF.agg_3 hl ?_)
        refine Run.go rfl rfl rfl (sem_callL [(Value.pointer p30), (Value.int .i64 (i44))] (TF.goes_68) rfl rfl (Spec.mono hS fun v h45 hv => ?_))
        obtain ⟨i46, b47, rfl, hS⟩ := hv
        refine Run.go rfl rfl rfl (sem_move ((Value.tuple #[(Value.int .i64 (i46)), (Value.bool b47)])) rfl ?_)
        refine Run.go rfl rfl rfl (sem_extract #[(Value.int .i64 (i46)), (Value.bool b47)] ((Value.int .i64 (i46))) rfl rfl ?_)
        refine Run.go rfl rfl rfl (sem_extract #[(Value.int .i64 (i46)), (Value.bool b47)] ((Value.bool b47)) rfl rfl ?_)
        refine Run.go rfl rfl rfl (sem_assign ((Value.int .i64 (i46))) rfl ?_)
        refine Run.go rfl rfl rfl (sem_assign ((Value.bool b47)) rfl ?_)
        refine Run.region_end ?_
        refine Run.seqJ (fun e h49 => Agree [(5, (Value.pointer (some ⟨k10, 0, none⟩))), (6, (Value.pointer (some ⟨k12, 0, none⟩))), (7, (Value.pointer (some ⟨k23, 0, none⟩)))] e ∧ S_countermandlaw13_DraftCopies_J2 B k10 k12 k23 h49 Q) ?_ fun j48 => ?_
        · rintro e h49 ⟨hag, hS⟩
          refine Run.env hag ?_; clear hag
          refine Run.seq ?_
          refine Run.ops0 (idx := [0, 1]) rfl ?_
          refine Run.go rfl rfl rfl (sem_allocN [(Value.int .i64 (0))] TF.zero_3 (fun k50 hb1 hb2 h51 hb3 => ?_))
          have hS := hS k50 hb1 hb2 h51 hb3
          obtain ⟨h52, hst, hS⟩ := hS
          refine Run.go rfl rfl rfl (sem_store1 ⟨k50, 0, none⟩ ((Value.int .i64 (0))) h52 rfl rfl rfl TF.sz_3 hst ?_)
          refine Run.region_end ?_
          refine Run.seqJ (fun e h54 => Agree [(5, (Value.pointer (some ⟨k10, 0, none⟩))), (6, (Value.pointer (some ⟨k12, 0, none⟩))), (7, (Value.pointer (some ⟨k23, 0, none⟩))), (17, (Value.pointer (some ⟨k50, 0, none⟩)))] e ∧ S_countermandlaw13_DraftCopies_J3 B k10 k12 k23 k50 h54 Q) ?_ fun j53 => ?_
          · rintro e h54 ⟨hag, hS⟩
            refine Run.env hag ?_; clear hag
            refine Run.seq ?_
            obtain ⟨i55, hl, hS⟩ := hS
            have f56 := hl
            obtain ⟨i57, hl, hS⟩ := hS
            have f58 := hl
            obtain ⟨hT, hF⟩ := hS
            by_cases hb59 : (i55 : Int) = i57
            · have hS := hT hb59; clear hT hF
              skip
              skip
              refine Run.draw (fun h' => cellH B h' ⟨k50, 0, none⟩ = some (Value.int .i64 (i55)) ∧ cellH B h' ⟨k10, 0, none⟩ = some (Value.int .i64 (i57)) ∧ True) [9] [.q 0, .q 1, .q 2, .q 3, .q 4, .q 5, .x 6, .q 7, .q 8, .x 9] TF.mixed (by kernel_rfl) ⟨f56, f58, trivial⟩ ?_
              refine RunO.quiet rfl rfl rfl (fun h' hC => sem_load1 ⟨k50, 0, none⟩ ((Value.int .i64 (i55))) rfl TF.agg_3 hC.1 ⟨rfl, rfl⟩) ?_
              refine RunO.quiet rfl rfl rfl (fun h' hC => sem_load1 ⟨k10, 0, none⟩ ((Value.int .i64 (i57))) rfl TF.agg_3 hC.2.1 ⟨rfl, rfl⟩) ?_
              refine RunO.quiet rfl rfl rfl (fun h' hC => sem_binI .i64 (i55) (i57) (.bool true) rfl rfl (binI_eql_t hb59) ⟨rfl, rfl⟩) ?_
              refine RunO.quiet rfl rfl rfl (fun h' hC => sem_move ((Value.bool true)) rfl ⟨rfl, rfl⟩) ?_
              refine RunO.skip rfl rfl rfl ?_
              refine RunO.skip rfl rfl rfl ?_
              refine OpH.no rfl rfl rfl ⟨fun _ => ⟨f56, f58, trivial⟩, ?_⟩
              refine RunO.skip rfl rfl rfl ?_
              refine RunO.quiet rfl rfl rfl (fun h' hC => sem_pick true ((Value.bool true)) rfl rfl ⟨rfl, rfl⟩) ?_
              obtain ⟨h62, hst, hS⟩ := hS
              refine OpH.go rfl rfl rfl (sem_store1 ⟨k12, 0, none⟩ ((Value.bool true)) h62 rfl rfl rfl TF.sz_4 hst ?_)
              refine ⟨fun hz => Bool.noConfusion hz, ?_⟩
              obtain ⟨b63, hl0, hS⟩ := hS
              refine Run.ret ⟨.inr rfl, ?_⟩
              exact ⟨⟨k12, 0, none⟩, (Value.bool b63), rfl, loadH1 TF.agg_4 hl0, hS.imp fun h' hq => ⟨(b63), rfl, hq⟩⟩
            · have hS := hF hb59; clear hT hF
              skip
              skip
              obtain ⟨i66, hl, hS⟩ := hS
              have f67 := hl
              obtain ⟨p68, hl, hS⟩ := hS
              have f69 := hl
              refine Run.draw (fun h' => cellH B h' ⟨k50, 0, none⟩ = some (Value.int .i64 (i55)) ∧ cellH B h' ⟨k10, 0, none⟩ = some (Value.int .i64 (i57)) ∧ cellH B h' ⟨k50, 0, none⟩ = some (Value.int .i64 (i66)) ∧ cellH B h' ⟨k23, 0, none⟩ = some (Value.pointer p68) ∧ True) [9] [.q 0, .q 1, .q 2, .q 3, .q 4, .q 5, .x 6, .q 7, .q 8, .x 9] TF.mixed (by kernel_rfl) ⟨f56, f58, f67, f69, trivial⟩ ?_
              refine RunO.quiet rfl rfl rfl (fun h' hC => sem_load1 ⟨k50, 0, none⟩ ((Value.int .i64 (i55))) rfl TF.agg_3 hC.1 ⟨rfl, rfl⟩) ?_
              refine RunO.quiet rfl rfl rfl (fun h' hC => sem_load1 ⟨k10, 0, none⟩ ((Value.int .i64 (i57))) rfl TF.agg_3 hC.2.1 ⟨rfl, rfl⟩) ?_
              refine RunO.quiet rfl rfl rfl (fun h' hC => sem_binI .i64 (i55) (i57) (.bool false) rfl rfl (binI_eql_f hb59) ⟨rfl, rfl⟩) ?_
              refine RunO.quiet rfl rfl rfl (fun h' hC => sem_move ((Value.bool false)) rfl ⟨rfl, rfl⟩) ?_
              refine RunO.quiet rfl rfl rfl (fun h' hC => sem_load1 ⟨k50, 0, none⟩ ((Value.int .i64 (i66))) rfl TF.agg_3 hC.2.2.1 ⟨rfl, rfl⟩) ?_
              refine RunO.quiet rfl rfl rfl (fun h' hC => sem_load1 ⟨k23, 0, none⟩ ((Value.pointer p68)) rfl TF.agg_119 hC.2.2.2.1 ⟨rfl, rfl⟩) ?_
              refine OpH.go rfl rfl rfl (sem_callL [(Value.pointer p68)] (TF.goes_66) rfl rfl (Spec.mono hS fun v h70 hv => ?_))
              obtain ⟨i71, rfl, hS⟩ := hv
              obtain ⟨g72, g73, g74, g75, hS⟩ := hS
              refine ⟨fun _ => ⟨g72, g73, g74, g75, trivial⟩, ?_⟩
              refine RunO.quiet rfl rfl rfl (fun h' hC => sem_binI .i64 (i66) (i71) ((Value.bool ((i66 : Int) == (i71)))) rfl rfl rfl ⟨rfl, rfl⟩) ?_
              refine RunO.quiet rfl rfl rfl (fun h' hC => sem_pick false ((Value.bool ((i66 : Int) == (i71)))) rfl rfl ⟨rfl, rfl⟩) ?_
              obtain ⟨h76, hst, hS⟩ := hS
              refine OpH.go rfl rfl rfl (sem_store1 ⟨k12, 0, none⟩ ((Value.bool ((i66 : Int) == (i71)))) h76 rfl rfl rfl TF.sz_4 hst ?_)
              refine ⟨fun hz => Bool.noConfusion hz, ?_⟩
              obtain ⟨b77, hl0, hS⟩ := hS
              refine Run.ret ⟨.inr rfl, ?_⟩
              exact ⟨⟨k12, 0, none⟩, (Value.bool b77), rfl, loadH1 TF.agg_4 hl0, hS.imp fun h' hq => ⟨(b77), rfl, hq⟩⟩
          refine Run.seq ?_
          refine Run.ops0 (idx := [0, 1, 2]) rfl ?_
          obtain ⟨p78, hl, hS⟩ := hS
          refine Run.go rfl rfl rfl (sem_load1 ⟨k23, 0, none⟩ ((Value.pointer p78)) rfl TF.agg_119 hl ?_)
          refine Run.go rfl rfl rfl (sem_callL [(Value.pointer p78)] (TF.goes_69) rfl rfl (Spec.mono hS fun v h79 hv => ?_))
          obtain ⟨p80, rfl, hS⟩ := hv
          refine Run.go rfl rfl rfl (sem_callL [(Value.pointer p80)] (TF.goes_67) rfl rfl (Spec.mono hS fun v82 h81 hv => ?_))
          obtain ⟨_, rfl, hS⟩ := hv
          refine Run.region_end ?_
          refine Run.block ?_
          obtain ⟨xs89, G85, J88, hit, hins, hG, h0, hS, hR⟩ := hS
          refine Run.of_fin (h0.imp fun h' h0 => ?_)
          refine Run.range (v82) (xs89.map (fun x : Int × Int => [(Value.int .i64 (x.1)), (Value.int .i64 (x.2))])) G85 J88 rfl hit hins hG h0 rfl (fun a ha => by obtain ⟨x, _, rfl⟩ := List.mem_map.1 ha; rfl) ?_ ?_
          · rintro q87 args h86 ha hJ
            obtain ⟨⟨i83, i84⟩, hx, rfl⟩ := Option.map_eq_some_iff.1 ((List.getElem?_map ..).symm.trans ha)
            have hS := hS q87 h86 i83 i84 hx hJ; clear hJ hx ha
            refine Run.seq ?_
            refine Run.ops0 (idx := [0]) rfl ?_
            refine Run.go rfl rfl rfl (sem_assign ((Value.int .i64 (i83))) rfl ?_)
            refine Run.region_end ?_
            refine Run.ops0 (idx := [0]) rfl ?_
            refine Run.go rfl rfl rfl (sem_assign ((Value.int .i64 (i84))) rfl ?_)
            refine Run.region_end ?_
            refine Run.begin ⟨rfl, ?_⟩
            refine Run.block ?_
            refine Run.seq ?_
            refine Run.ops0 (idx := [0, 1, 2, 3, 4, 5, 6, 7]) rfl ?_
            obtain ⟨p90, hl, hS⟩ := hS
            refine Run.go rfl rfl rfl (sem_load1 ⟨k23, 0, none⟩ ((Value.pointer p90)) rfl TF.agg_119 hl ?_)
            refine Run.go rfl rfl rfl (sem_move ((Value.int .i64 (i83))) rfl ?_)
            refine Run.go rfl rfl rfl (sem_callL [(Value.pointer p90), (Value.int .i64 (i83))] (TF.goes_68) rfl rfl (Spec.mono hS fun v h91 hv => ?_))
            obtain ⟨i92, b93, rfl, hS⟩ := hv
            refine Run.go rfl rfl rfl (sem_move ((Value.tuple #[(Value.int .i64 (i92)), (Value.bool b93)])) rfl ?_)
            refine Run.go rfl rfl rfl (sem_extract #[(Value.int .i64 (i92)), (Value.bool b93)] ((Value.int .i64 (i92))) rfl rfl ?_)
            refine Run.go rfl rfl rfl (sem_extract #[(Value.int .i64 (i92)), (Value.bool b93)] ((Value.bool b93)) rfl rfl ?_)
            refine Run.go rfl rfl rfl (sem_assign ((Value.int .i64 (i92))) rfl ?_)
            refine Run.go rfl rfl rfl (sem_assign ((Value.bool b93)) rfl ?_)
            refine Run.region_end ?_
            refine Run.seq ?_
            refine Run.seq ?_
            refine Run.ops0 (idx := [0, 1, 2]) rfl ?_
            refine Run.go rfl rfl rfl (sem_move ((Value.int .i64 (i84))) rfl ?_)
            refine Run.go rfl rfl rfl (sem_move ((Value.int .i64 (i92))) rfl ?_)
            obtain ⟨hT, hF⟩ := hS
            by_cases hb94 : (i84 : Int) = i92
            · have hS := hT hb94; clear hT hF
              refine Run.go rfl rfl rfl (sem_binI .i64 (i84) (i92) (.bool false) rfl rfl (binI_neq_t hb94) ?_)
              refine Run.region_end ?_
              refine Run.condF rfl ?_
              refine Run.skip ?_
              refine Run.seq ?_
              refine Run.ops0 (idx := [0, 1, 2]) rfl ?_
              obtain ⟨i95, hl, hS⟩ := hS
              refine Run.go rfl rfl rfl (sem_load1 ⟨k50, 0, none⟩ ((Value.int .i64 (i95))) rfl TF.agg_3 hl ?_)
              refine Run.go rfl rfl rfl (sem_binI .i64 (i95) (1) ((Value.int .i64 (IntKind.wrap .i64 ((i95) + (1))))) rfl rfl rfl ?_)
              obtain ⟨h96, hst, hS⟩ := hS
              refine Run.go rfl rfl rfl (sem_store1 ⟨k50, 0, none⟩ ((Value.int .i64 (IntKind.wrap .i64 ((i95) + (1))))) h96 rfl rfl rfl TF.sz_3 hst ?_)
              refine Run.region_end ?_
              refine Run.seq ?_
              refine Run.ops0 (idx := [0, 1, 2]) rfl ?_
              obtain ⟨i97, hl, hS⟩ := hS
              refine Run.go rfl rfl rfl (sem_load1 ⟨k50, 0, none⟩ ((Value.int .i64 (i97))) rfl TF.agg_3 hl ?_)
              obtain ⟨i98, hl, hS⟩ := hS
              refine Run.go rfl rfl rfl (sem_load1 ⟨k10, 0, none⟩ ((Value.int .i64 (i98))) rfl TF.agg_3 hl ?_)
              obtain ⟨hT, hF⟩ := hS
              by_cases hb99 : (i97 : Int) = i98
              · have hS := hT hb99; clear hT hF
                refine Run.go rfl rfl rfl (sem_binI .i64 (i97) (i98) (.bool true) rfl rfl (binI_eql_t hb99) ?_)
                refine Run.region_end ?_
                refine Run.condT rfl ?_
                refine Run.out rfl (.inr ⟨_, rfl, ?_⟩)
                refine Run.exit rfl ?_
                exact Run.of_fin (hS.imp fun h' hS => j53 _ _ ⟨⟨rfl, rfl, rfl, rfl, trivial⟩, hS⟩)
              · have hS := hF hb99; clear hT hF
                refine Run.go rfl rfl rfl (sem_binI .i64 (i97) (i98) (.bool false) rfl rfl (binI_eql_f hb99) ?_)
                refine Run.region_end ?_
                refine Run.condF rfl ?_
                refine Run.skip ?_
                refine Run.inBlock ?_
                refine Run.of_fin (hS.imp fun h' hS => ?_)
                exact Run.fall (.inl ⟨rfl, hS⟩)
            · have hS := hF hb94; clear hT hF
              refine Run.go rfl rfl rfl (sem_binI .i64 (i84) (i92) (.bool true) rfl rfl (binI_neq_f hb94) ?_)
              refine Run.region_end ?_
              refine Run.condT rfl ?_
              refine Run.seq ?_
              refine Run.ops0 (idx := [0]) rfl ?_
              obtain ⟨h100, hst, hS⟩ := hS
              refine Run.go rfl rfl rfl (sem_store1 ⟨k12, 0, none⟩ ((Value.bool false)) h100 rfl rfl rfl TF.sz_4 hst ?_)
              refine Run.region_end ?_
              refine Run.ret (.inr ⟨_, rfl, ?_⟩)
              obtain ⟨b101, hl0, hS⟩ := hS
              refine Run.ret ⟨.inr rfl, ?_⟩
              exact ⟨⟨k12, 0, none⟩, (Value.bool b101), rfl, loadH1 TF.agg_4 hl0, hS.imp fun h' hq => ⟨(b101), rfl, hq⟩⟩
          · intro h86 hJ
            have hS := hR h86 (by simpa using hJ); clear hJ hR
            refine Run.inBlock ?_
            exact Run.of_fin (hS.imp fun h' hS => j53 _ _ ⟨⟨rfl, rfl, rfl, rfl, trivial⟩, hS⟩)
        refine Run.seq ?_
        refine Run.ops0 (idx := [0, 1, 2, 3, 4, 5, 6, 7, 8, 9, 10, 11, 12, 13, 14, 15, 16, 17, 18, 19, 20, 21]) rfl ?_
        refine Run.go rfl rfl rfl (sem_move ((Value.int .i64 (i38))) rfl ?_)
        refine Run.go rfl rfl rfl (sem_move ((Value.int .i64 (i42))) rfl ?_)
        obtain ⟨hT, hF⟩ := hS
        by_cases hb102 : (i38 : Int) = i42
        · have hS := hT hb102; clear hT hF
          refine Run.go rfl rfl rfl (sem_binI .i64 (i38) (i42) (.bool false) rfl rfl (binI_neq_t hb102) ?_)
          refine Run.go rfl rfl rfl (sem_move ((Value.bool false)) rfl ?_)
          refine Run.go rfl rfl rfl (sem_move ((Value.bool b39)) rfl ?_)
          refine Run.go rfl rfl rfl (sem_move ((Value.bool b43)) rfl ?_)
          obtain ⟨hT, hF⟩ := hS
          by_cases hb103 : b39 = b43
          · have hS := hT hb103; clear hT hF
            refine Run.go rfl rfl rfl (sem_boolEqT b39 b43 (.inr rfl) false rfl rfl TF.bool_4 hb103 rfl ?_)
            refine Run.go rfl rfl rfl (sem_pick false ((Value.bool false)) rfl rfl ?_)
            refine Run.go rfl rfl rfl (sem_move ((Value.bool false)) rfl ?_)
            refine Run.go rfl rfl rfl (sem_move ((Value.int .i64 (i46))) rfl ?_)
            refine Run.go rfl rfl rfl (sem_fieldAddr ⟨k8, 0, none⟩ 1 rfl TF.fld_132_1 ?_)
            obtain ⟨i104, hl, hS⟩ := hS
            refine Run.go rfl rfl rfl (sem_load1 ⟨k8, 1, none⟩ ((Value.int .i64 (i104))) rfl TF.agg_3 hl ?_)
            obtain ⟨hT, hF⟩ := hS
            by_cases hb105 : (i46 : Int) = i104
            · have hS := hT hb105; clear hT hF
              refine Run.go rfl rfl rfl (sem_binI .i64 (i46) (i104) (.bool false) rfl rfl (binI_neq_t hb105) ?_)
              refine Run.go rfl rfl rfl (sem_pick false ((Value.bool false)) rfl rfl ?_)
              refine Run.go rfl rfl rfl (sem_move ((Value.bool false)) rfl ?_)
              obtain ⟨p106, hl, hS⟩ := hS
              refine Run.go rfl rfl rfl (sem_load1 ⟨k23, 0, none⟩ ((Value.pointer p106)) rfl TF.agg_119 hl ?_)
              refine Run.go rfl rfl rfl (sem_callL [(Value.pointer p106)] (TF.goes_66) rfl rfl (Spec.mono hS fun v h107 hv => ?_))
              obtain ⟨i108, rfl, hS⟩ := hv
              refine Run.go rfl rfl rfl (sem_move ((Value.slice a1 n2 c3)) rfl ?_)
              refine Run.go rfl rfl rfl (sem_callL [(Value.slice a1 n2 c3)] (TF.goes_63) rfl rfl (Spec.mono hS fun v h109 hv => ?_))
              obtain ⟨a110, n111, c112, rfl, hS⟩ := hv
              refine Run.go rfl rfl rfl (sem_lenSl a110 n111 c112 rfl TF.sl_84 ?_)
              obtain ⟨hT, hF⟩ := hS
              by_cases hb113 : (i108 : Int) = (n111 : Nat)
              · have hS := hT hb113; clear hT hF
                refine Run.go rfl rfl rfl (sem_binI .i64 (i108) ((n111 : Nat)) (.bool false) rfl rfl (binI_neq_t hb113) ?_)
                refine Run.go rfl rfl rfl (sem_pick false ((Value.bool false)) rfl rfl ?_)
                refine Run.region_end ?_
                refine Run.condF rfl ?_
                refine Run.skip ?_
                exact Run.of_fin (hS.imp fun h' hS => j48 _ _ ⟨⟨rfl, rfl, rfl, trivial⟩, hS⟩)
              · have hS := hF hb113; clear hT hF
                refine Run.go rfl rfl rfl (sem_binI .i64 (i108) ((n111 : Nat)) (.bool true) rfl rfl (binI_neq_f hb113) ?_)
                refine Run.go rfl rfl rfl (sem_pick false ((Value.bool true)) rfl rfl ?_)
                refine Run.region_end ?_
                refine Run.condT rfl ?_
                refine Run.seq ?_
                refine Run.ops0 (idx := [0]) rfl ?_
                obtain ⟨h114, hst, hS⟩ := hS
                refine Run.go rfl rfl rfl (sem_store1 ⟨k12, 0, none⟩ ((Value.bool false)) h114 rfl rfl rfl TF.sz_4 hst ?_)
                refine Run.region_end ?_
                obtain ⟨b115, hl0, hS⟩ := hS
                refine Run.ret ⟨.inr rfl, ?_⟩
                exact ⟨⟨k12, 0, none⟩, (Value.bool b115), rfl, loadH1 TF.agg_4 hl0, hS.imp fun h' hq => ⟨(b115), rfl, hq⟩⟩
            · have hS := hF hb105; clear hT hF
              refine Run.go rfl rfl rfl (sem_binI .i64 (i46) (i104) (.bool true) rfl rfl (binI_neq_f hb105) ?_)
              refine Run.go rfl rfl rfl (sem_pick false ((Value.bool true)) rfl rfl ?_)
              refine Run.go rfl rfl rfl (sem_move ((Value.bool true)) rfl ?_)
              refine Run.no rfl rfl rfl ?_
              refine Run.no rfl rfl rfl ?_
              refine Run.no rfl rfl rfl ?_
              refine Run.no rfl rfl rfl ?_
              refine Run.no rfl rfl rfl ?_
              refine Run.no rfl rfl rfl ?_
              refine Run.go rfl rfl rfl (sem_pick true ((Value.bool true)) rfl rfl ?_)
              refine Run.region_end ?_
              refine Run.condT rfl ?_
              refine Run.seq ?_
              refine Run.ops0 (idx := [0]) rfl ?_
              obtain ⟨h116, hst, hS⟩ := hS
              refine Run.go rfl rfl rfl (sem_store1 ⟨k12, 0, none⟩ ((Value.bool false)) h116 rfl rfl rfl TF.sz_4 hst ?_)
              refine Run.region_end ?_
              obtain ⟨b117, hl0, hS⟩ := hS
              refine Run.ret ⟨.inr rfl, ?_⟩
              exact ⟨⟨k12, 0, none⟩, (Value.bool b117), rfl, loadH1 TF.agg_4 hl0, hS.imp fun h' hq => ⟨(b117), rfl, hq⟩⟩
          · have hS := hF hb103; clear hT hF
            refine Run.go rfl rfl rfl (sem_boolEqF b39 b43 (.inr rfl) true rfl rfl TF.bool_4 hb103 rfl ?_)
            refine Run.go rfl rfl rfl (sem_pick false ((Value.bool true)) rfl rfl ?_)
            refine Run.go rfl rfl rfl (sem_move ((Value.bool true)) rfl ?_)
            refine Run.no rfl rfl rfl ?_
            refine Run.no rfl rfl rfl ?_
            refine Run.no rfl rfl rfl ?_
            refine Run.no rfl rfl rfl ?_
            refine Run.go rfl rfl rfl (sem_pick true ((Value.bool true)) rfl rfl ?_)
            refine Run.go rfl rfl rfl (sem_move ((Value.bool true)) rfl ?_)
            refine Run.no rfl rfl rfl ?_
            refine Run.no rfl rfl rfl ?_
            refine Run.no rfl rfl rfl ?_
            refine Run.no rfl rfl rfl ?_
            refine Run.no rfl rfl rfl ?_
            refine Run.no rfl rfl rfl ?_
            refine Run.go rfl rfl rfl (sem_pick true ((Value.bool true)) rfl rfl ?_)
            refine Run.region_end ?_
            refine Run.condT rfl ?_
            refine Run.seq ?_
            refine Run.ops0 (idx := [0]) rfl ?_
            obtain ⟨h118, hst, hS⟩ := hS
            refine Run.go rfl rfl rfl (sem_store1 ⟨k12, 0, none⟩ ((Value.bool false)) h118 rfl rfl rfl TF.sz_4 hst ?_)
            refine Run.region_end ?_
            obtain ⟨b119, hl0, hS⟩ := hS
            refine Run.ret ⟨.inr rfl, ?_⟩
            exact ⟨⟨k12, 0, none⟩, (Value.bool b119), rfl, loadH1 TF.agg_4 hl0, hS.imp fun h' hq => ⟨(b119), rfl, hq⟩⟩
        · have hS := hF hb102; clear hT hF
          refine Run.go rfl rfl rfl (sem_binI .i64 (i38) (i42) (.bool true) rfl rfl (binI_neq_f hb102) ?_)
          refine Run.go rfl rfl rfl (sem_move ((Value.bool true)) rfl ?_)
          refine Run.no rfl rfl rfl ?_
          refine Run.no rfl rfl rfl ?_
          refine Run.no rfl rfl rfl ?_
          refine Run.go rfl rfl rfl (sem_pick true ((Value.bool true)) rfl rfl ?_)
          refine Run.go rfl rfl rfl (sem_move ((Value.bool true)) rfl ?_)
          refine Run.no rfl rfl rfl ?_
          refine Run.no rfl rfl rfl ?_
          refine Run.no rfl rfl rfl ?_
          refine Run.no rfl rfl rfl ?_
          refine Run.go rfl rfl rfl (sem_pick true ((Value.bool true)) rfl rfl ?_)
          refine Run.go rfl rfl rfl (sem_move ((Value.bool true)) rfl ?_)
          refine Run.no rfl rfl rfl ?_
          refine Run.no rfl rfl rfl ?_
          refine Run.no rfl rfl rfl ?_
          refine Run.no rfl rfl rfl ?_
          refine Run.no rfl rfl rfl ?_
          refine Run.no rfl rfl rfl ?_
          refine Run.go rfl rfl rfl (sem_pick true ((Value.bool true)) rfl rfl ?_)
          refine Run.region_end ?_
          refine Run.condT rfl ?_
          refine Run.seq ?_
          refine Run.ops0 (idx := [0]) rfl ?_
          obtain ⟨h120, hst, hS⟩ := hS
          refine Run.go rfl rfl rfl (sem_store1 ⟨k12, 0, none⟩ ((Value.bool false)) h120 rfl rfl rfl TF.sz_4 hst ?_)
          refine Run.region_end ?_
          obtain ⟨b121, hl0, hS⟩ := hS
          refine Run.ret ⟨.inr rfl, ?_⟩
          exact ⟨⟨k12, 0, none⟩, (Value.bool b121), rfl, loadH1 TF.agg_4 hl0, hS.imp fun h' hq => ⟨(b121), rfl, hq⟩⟩
      refine Run.seq ?_
      refine Run.ops0 (idx := [0, 1, 2]) rfl ?_
      refine Run.go rfl rfl rfl (sem_move ((Value.slice a1 n2 c3)) rfl ?_)
      refine Run.go rfl rfl rfl (sem_lenSl a1 n2 c3 rfl TF.sl_118 ?_)
      refine Run.go rfl rfl rfl (sem_move ((Value.int .i64 (0))) rfl ?_)
      refine Run.region_end ?_
      refine Run.block ?_
      obtain ⟨J127, m125, h0, hS⟩ := hS
      refine Run.of_fin (h0.imp fun h' h0 => ?_)
      refine Run.loop (σ := Int × Nat) (fun x e h => J127 x.1 x.2 h ∧ Agree [(0, (Value.slice a1 n2 c3)), (4, (Value.pointer (some ⟨k8, 0, none⟩))), (5, (Value.pointer (some ⟨k10, 0, none⟩))), (6, (Value.pointer (some ⟨k12, 0, none⟩))), (7, (Value.pointer (some ⟨k23, 0, none⟩))), (29, (Value.slice a1 n2 c3)), (30, (Value.int .i64 ((n2 : Nat)))), (31, (Value.int .i64 (x.1)))] e) (fun x => x.2) ((0), m125) ⟨h0, ⟨rfl, rfl, rfl, rfl, rfl, rfl, rfl, rfl, trivial⟩⟩ ?_; clear h0
      rintro ⟨i122, m124⟩ e h123 ⟨hJ, hag⟩ ih126
      have hS := hS i122 m124 h123 hJ; clear hJ
      refine Run.env hag ?_; clear hag
      refine Run.seq ?_
      refine Run.ops0 (idx := [0]) rfl ?_
      obtain ⟨hT, hF⟩ := hS
      by_cases hb128 : (i122 : Int) < ((n2 : Nat))
      · have hS := hT hb128; clear hT hF
        refine Run.go rfl rfl rfl (sem_binI .i64 (i122) ((n2 : Nat)) (.bool true) rfl rfl (binI_lss_t hb128) ?_)
        refine Run.region_end ?_
        refine Run.seq ?_
        refine Run.condT rfl ?_
        refine Run.skip ?_
        refine Run.seq ?_
        refine Run.block ?_
        refine Run.seq ?_
        refine Run.ops0 (idx := [0, 1, 2, 3]) rfl ?_
        obtain ⟨A129, e130, hi0, hi1, hS⟩ := hS
        refine Run.go rfl rfl rfl (sem_indexAddrS A129 n2 c3 .i64 (i122) (congrArg (fun a => Value.slice a n2 c3) e130) rfl TF.slc_118 hi0 hi1 ?_)
        obtain ⟨i131, i132, hl, hS⟩ := hS
        refine Run.go rfl rfl rfl (sem_loadN (Addr.add A129 (Int.toNat (i122) * 2)) [(Value.int .i64 (i131)), (Value.int .i64 (i132))] rfl TF.agg_132 TF.sz_132 hl ?_)
        refine Run.go rfl rfl rfl (sem_allocN [(Value.int .i64 (0)), (Value.int .i64 (0))] TF.zero_132 (fun k133 hb1 hb2 h134 hb3 => ?_))
        have hS := hS k133 hb1 hb2 h134 hb3
        obtain ⟨h135, hst, hS⟩ := hS
        refine Run.go rfl rfl rfl (sem_storeN ⟨k133, 0, none⟩ [(Value.int .i64 (i131)), (Value.int .i64 (i132))] h135 rfl rfl TF.sz_132 hst ?_)
        refine Run.region_end ?_
        refine Run.ops0 (idx := [0, 1, 2, 3, 4, 5]) rfl ?_
        obtain ⟨p136, hl, hS⟩ := hS
        refine Run.go rfl rfl rfl (sem_load1 ⟨k23, 0, none⟩ ((Value.pointer p136)) rfl TF.agg_119 hl ?_)
        refine Run.go rfl rfl rfl (sem_fieldAddr ⟨k133, 0, none⟩ 0 rfl TF.fld_132_0 ?_)
        obtain ⟨i137, hl, hS⟩ := hS
        refine Run.go rfl rfl rfl (sem_load1 ⟨k133, 0, none⟩ ((Value.int .i64 (i137))) rfl TF.agg_3 hl ?_)
        refine Run.go rfl rfl rfl (sem_fieldAddr ⟨k133, 0, none⟩ 1 rfl TF.fld_132_1 ?_)
        obtain ⟨i138, hl, hS⟩ := hS
        refine Run.go rfl rfl rfl (sem_load1 ⟨k133, 1, none⟩ ((Value.int .i64 (i138))) rfl TF.agg_3 hl ?_)
        refine Run.go rfl rfl rfl (sem_callL [(Value.pointer p136), (Value.int .i64 (i137)), (Value.int .i64 (i138))] (TF.goes_65) rfl rfl (Spec.mono hS fun v h139 hv => ?_))
        obtain ⟨b140, rfl, hS⟩ := hv
        refine Run.region_end ?_
        refine Run.inBlock ?_
        refine Run.ops0 (idx := [0, 1]) rfl ?_
        refine Run.go rfl rfl rfl (sem_binI .i64 (i122) (1) ((Value.int .i64 (IntKind.wrap .i64 ((i122) + (1))))) rfl rfl rfl ?_)
        refine Run.go rfl rfl rfl (sem_move ((Value.int .i64 (IntKind.wrap .i64 ((i122) + (1))))) rfl ?_)
        refine Run.region_end ?_
        exact Run.of_fin (hS.imp fun h' ⟨m', hm, hS⟩ => ih126 ((IntKind.wrap .i64 ((i122) + (1))), m') _ _ ⟨hS, ⟨rfl, rfl, rfl, rfl, rfl, rfl, rfl, rfl, trivial⟩⟩ hm)
      · have hS := hF hb128; clear hT hF
        refine Run.go rfl rfl rfl (sem_binI .i64 (i122) ((n2 : Nat)) (.bool false) rfl rfl (binI_lss_f hb128) ?_)
        refine Run.region_end ?_
        refine Run.seq ?_
        refine Run.condF rfl ?_
        refine Run.exit rfl ?_
        exact Run.of_fin (hS.imp fun h' hS => j26 _ _ ⟨⟨rfl, rfl, rfl, rfl, rfl, trivial⟩, hS⟩)
set_option maxHeartbeats 4000000 in
theorem C_countermandlaw13_alive.of {B : RO} {h : Heap} {Q : Bool → Heap → Prop} (hS : S_countermandlaw13_alive B h Q) : C_countermandlaw13_alive B h Q := by
  unfold S_countermandlaw13_alive at hS
  unfold C_countermandlaw13_alive
  refine Spec.of_run Try.func62 (N := 30) (rs := [ResultVar.tmp 0]) rfl rfl rfl (Nat.le_of_ble_eq_true rfl) ?_
  refine Run.seq ?_
  refine Run.ops0 (idx := [0]) rfl ?_
  refine Run.go rfl rfl rfl (sem_assign ((Value.bool false)) rfl ?_)
  refine Run.region_end ?_
  refine Run.seq ?_
  refine Run.ops0 (idx := [0, 1, 2]) rfl ?_
  refine Run.go rfl rfl rfl (sem_buildSL [] [(Value.slice none 0 0)] TF.zero_158 TF.places_158 rfl rfl ?_)
  refine Run.go rfl rfl rfl (sem_boxNN [(Value.slice none 0 0)] rfl (fun k2 hb1 hb2 h3 hb3 => ?_))
  have hS := hS k2 hb1 hb2 h3 hb3
  refine Run.go rfl rfl rfl (sem_assign ((Value.pointer (some ⟨k2, 0, none⟩))) rfl ?_)
  refine Run.region_end ?_
  refine Run.seq ?_
  refine Run.ops0 (idx := [0, 1, 2, 3, 4, 5, 6]) rfl ?_
  refine Run.go rfl rfl rfl (sem_move ((Value.pointer (some ⟨k2, 0, none⟩))) rfl ?_)
  refine Run.go rfl rfl rfl (sem_callL [(Value.pointer (some ⟨k2, 0, none⟩)), (Value.int .i64 (3))] (TF.goes_90) rfl rfl (Spec.mono hS fun v h4 hv => ?_))
  obtain ⟨s5, b6, rfl, hS⟩ := hv
  refine Run.go rfl rfl rfl (sem_move ((Value.tuple #[(Value.string s5), (Value.bool b6)])) rfl ?_)
  refine Run.go rfl rfl rfl (sem_extract #[(Value.string s5), (Value.bool b6)] ((Value.string s5)) rfl rfl ?_)
  refine Run.go rfl rfl rfl (sem_extract #[(Value.string s5), (Value.bool b6)] ((Value.bool b6)) rfl rfl ?_)
  refine Run.go rfl rfl rfl (sem_assign ((Value.string s5)) rfl ?_)
  refine Run.go rfl rfl rfl (sem_assign ((Value.bool b6)) rfl ?_)
  refine Run.region_end ?_
  refine Run.seq ?_
  refine Run.ops0 (idx := [0, 1, 2, 3, 4, 5, 6, 7, 8, 9, 10, 11, 12, 13, 14, 15, 16, 17, 18, 19]) rfl ?_
  refine Run.go rfl rfl rfl (sem_move ((Value.pointer (some ⟨k2, 0, none⟩))) rfl ?_)
  refine Run.go rfl rfl rfl (sem_callL [(Value.pointer (some ⟨k2, 0, none⟩)), (Value.int .i64 (3)), (Value.string (ByteArray.mk #[120]))] (TF.goes_91) rfl rfl (Spec.mono hS fun v h7 hv => ?_))
  obtain ⟨b8, rfl, hS⟩ := hv
  obtain ⟨hT, hF⟩ := hS
  cases b8
  · have hS := hF rfl; clear hT hF
    refine Run.go rfl rfl rfl (sem_move ((Value.bool false)) rfl ?_)
    refine Run.no rfl rfl rfl ?_
    refine Run.no rfl rfl rfl ?_
    refine Run.go rfl rfl rfl (sem_pick false ((Value.bool false)) rfl rfl ?_)
    refine Run.go rfl rfl rfl (sem_move ((Value.bool false)) rfl ?_)
    refine Run.no rfl rfl rfl ?_
    refine Run.no rfl rfl rfl ?_
    refine Run.no rfl rfl rfl ?_
    refine Run.go rfl rfl rfl (sem_pick false ((Value.bool false)) rfl rfl ?_)
    refine Run.go rfl rfl rfl (sem_move ((Value.bool false)) rfl ?_)
    refine Run.no rfl rfl rfl ?_
    refine Run.no rfl rfl rfl ?_
    refine Run.go rfl rfl rfl (sem_pick false ((Value.bool false)) rfl rfl ?_)
    refine Run.go rfl rfl rfl (sem_move ((Value.bool false)) rfl ?_)
    refine Run.no rfl rfl rfl ?_
    refine Run.no rfl rfl rfl ?_
    refine Run.go rfl rfl rfl (sem_pick false ((Value.bool false)) rfl rfl ?_)
    refine Run.go rfl rfl rfl (sem_assign ((Value.bool false)) rfl ?_)
    refine Run.region_end ?_
    refine Run.ret ⟨.inr rfl, ?_⟩
    exact hS.imp fun h' hq => ⟨(false), rfl, hq⟩
  · have hS := hT rfl; clear hT hF
    refine Run.go rfl rfl rfl (sem_move ((Value.bool true)) rfl ?_)
    refine Run.go rfl rfl rfl (sem_move ((Value.pointer (some ⟨k2, 0, none⟩))) rfl ?_)
    refine Run.go rfl rfl rfl (sem_callL [(Value.pointer (some ⟨k2, 0, none⟩)), (Value.int .i64 (1)), (Value.string (ByteArray.mk #[121]))] (TF.goes_91) rfl rfl (Spec.mono hS fun v h9 hv => ?_))
    obtain ⟨b10, rfl, hS⟩ := hv
    obtain ⟨hT, hF⟩ := hS
    cases b10
    · have hS := hF rfl; clear hT hF
      refine Run.go rfl rfl rfl (sem_pick true ((Value.bool false)) rfl rfl ?_)
      refine Run.go rfl rfl rfl (sem_move ((Value.bool false)) rfl ?_)
      refine Run.no rfl rfl rfl ?_
      refine Run.no rfl rfl rfl ?_
      refine Run.no rfl rfl rfl ?_
      refine Run.go rfl rfl rfl (sem_pick false ((Value.bool false)) rfl rfl ?_)
      refine Run.go rfl rfl rfl (sem_move ((Value.bool false)) rfl ?_)
      refine Run.no rfl rfl rfl ?_
      refine Run.no rfl rfl rfl ?_
      refine Run.go rfl rfl rfl (sem_pick false ((Value.bool false)) rfl rfl ?_)
      refine Run.go rfl rfl rfl (sem_move ((Value.bool false)) rfl ?_)
      refine Run.no rfl rfl rfl ?_
      refine Run.no rfl rfl rfl ?_
      refine Run.go rfl rfl rfl (sem_pick false ((Value.bool false)) rfl rfl ?_)
      refine Run.go rfl rfl rfl (sem_assign ((Value.bool false)) rfl ?_)
      refine Run.region_end ?_
      refine Run.ret ⟨.inr rfl, ?_⟩
      exact hS.imp fun h' hq => ⟨(false), rfl, hq⟩
    · have hS := hT rfl; clear hT hF
      refine Run.go rfl rfl rfl (sem_pick true ((Value.bool true)) rfl rfl ?_)
      refine Run.go rfl rfl rfl (sem_move ((Value.bool true)) rfl ?_)
      refine Run.go rfl rfl rfl (sem_move ((Value.pointer (some ⟨k2, 0, none⟩))) rfl ?_)
      refine Run.go rfl rfl rfl (sem_callL [(Value.pointer (some ⟨k2, 0, none⟩))] (TF.goes_92) rfl rfl (Spec.mono hS fun v h11 hv => ?_))
      obtain ⟨i12, rfl, hS⟩ := hv
      obtain ⟨hT, hF⟩ := hS
      by_cases hb13 : (i12 : Int) = 2
      · have hS := hT hb13; clear hT hF
        refine Run.go rfl rfl rfl (sem_binI .i64 (i12) (2) (.bool true) rfl rfl (binI_eql_t hb13) ?_)
        refine Run.go rfl rfl rfl (sem_pick true ((Value.bool true)) rfl rfl ?_)
        refine Run.go rfl rfl rfl (sem_move ((Value.bool true)) rfl ?_)
        refine Run.go rfl rfl rfl (sem_move ((Value.string s5)) rfl ?_)
        obtain ⟨hT, hF⟩ := hS
        by_cases hb14 : s5 = (ByteArray.mk #[])
        · have hS := hT hb14; clear hT hF
          refine Run.go rfl rfl rfl (sem_strEqT s5 (ByteArray.mk #[]) rfl rfl hb14 ?_)
          refine Run.go rfl rfl rfl (sem_pick true ((Value.bool true)) rfl rfl ?_)
          refine Run.go rfl rfl rfl (sem_move ((Value.bool true)) rfl ?_)
          refine Run.go rfl rfl rfl (sem_move ((Value.bool b6)) rfl ?_)
          refine Run.go rfl rfl rfl (sem_not b6 rfl ?_)
          refine Run.go rfl rfl rfl (sem_pick true ((Value.bool (!b6))) rfl rfl ?_)
          refine Run.go rfl rfl rfl (sem_assign ((Value.bool (!b6))) rfl ?_)
          refine Run.region_end ?_
          refine Run.ret ⟨.inr rfl, ?_⟩
          exact hS.imp fun h' hq => ⟨((!b6)), rfl, hq⟩
        · have hS := hF hb14; clear hT hF
          refine Run.go rfl rfl rfl (sem_strEqF s5 (ByteArray.mk #[]) rfl rfl hb14 ?_)
          refine Run.go rfl rfl rfl (sem_pick true ((Value.bool false)) rfl rfl ?_)
          refine Run.go rfl rfl rfl (sem_move ((Value.bool false)) rfl ?_)
          refine Run.no rfl rfl rfl ?_
          refine Run.no rfl rfl rfl ?_
          refine Run.go rfl rfl rfl (sem_pick false ((Value.bool false)) rfl rfl ?_)
          refine Run.go rfl rfl rfl (sem_assign ((Value.bool false)) rfl ?_)
          refine Run.region_end ?_
          refine Run.ret ⟨.inr rfl, ?_⟩
          exact hS.imp fun h' hq => ⟨(false), rfl, hq⟩
      · have hS := hF hb13; clear hT hF
        refine Run.go rfl rfl rfl (sem_binI .i64 (i12) (2) (.bool false) rfl rfl (binI_eql_f hb13) ?_)
        refine Run.go rfl rfl rfl (sem_pick true ((Value.bool false)) rfl rfl ?_)
        refine Run.go rfl rfl rfl (sem_move ((Value.bool false)) rfl ?_)
        refine Run.no rfl rfl rfl ?_
        refine Run.no rfl rfl rfl ?_
        refine Run.go rfl rfl rfl (sem_pick false ((Value.bool false)) rfl rfl ?_)
        refine Run.go rfl rfl rfl (sem_move ((Value.bool false)) rfl ?_)
        refine Run.no rfl rfl rfl ?_
        refine Run.no rfl rfl rfl ?_
        refine Run.go rfl rfl rfl (sem_pick false ((Value.bool false)) rfl rfl ?_)
        refine Run.go rfl rfl rfl (sem_assign ((Value.bool false)) rfl ?_)
        refine Run.region_end ?_
        refine Run.ret ⟨.inr rfl, ?_⟩
        exact hS.imp fun h' hq => ⟨(false), rfl, hq⟩
set_option maxHeartbeats 4000000 in
theorem C_countermandref13_Numbers.of {B : RO} {a1 : Option Addr} {n2 : Nat} {c3 : Nat} {h : Heap} {Q : Option Addr → Nat → Nat → Heap → Prop} (hS : S_countermandref13_Numbers B a1 n2 c3 h Q) : C_countermandref13_Numbers B a1 n2 c3 h Q := by
  unfold S_countermandref13_Numbers at hS
  unfold C_countermandref13_Numbers
  refine Spec.of_run Try.func63 (N := 56) (rs := [ResultVar.tmp 2]) rfl rfl rfl (Nat.le_of_ble_eq_true rfl) ?_
  refine Run.seq ?_
  refine Run.ops0 (idx := [0]) rfl ?_
  refine Run.go rfl rfl rfl (sem_assign ((Value.slice none 0 0)) rfl ?_)
  refine Run.region_end ?_
  refine Run.seq ?_
  refine Run.ops0 (idx := [0]) rfl ?_
  refine Run.go rfl rfl rfl (sem_assign ((Value.slice none 0 0)) rfl ?_)
  refine Run.region_end ?_
  refine Run.seq ?_
  refine Run.seq ?_
  refine Run.ops0 (idx := [0, 1, 2]) rfl ?_
  refine Run.go rfl rfl rfl (sem_move ((Value.slice a1 n2 c3)) rfl ?_)
  refine Run.go rfl rfl rfl (sem_lenSl a1 n2 c3 rfl TF.sl_118 ?_)
  refine Run.go rfl rfl rfl (sem_move ((Value.int .i64 (0))) rfl ?_)
  refine Run.region_end ?_
  refine Run.block ?_
  obtain ⟨J15, m13, h0, hS⟩ := hS
  refine Run.of_fin (h0.imp fun h' h0 => ?_)
  refine Run.loop (σ := (Option Addr) × Nat × Nat × Int × Nat) (fun x e h => J15 x.1 x.2.1 x.2.2.1 x.2.2.2.1 x.2.2.2.2 h ∧ Agree [(3, (Value.slice x.1 x.2.1 x.2.2.1)), (7, (Value.slice a1 n2 c3)), (8, (Value.int .i64 ((n2 : Nat)))), (9, (Value.int .i64 (x.2.2.2.1)))] e) (fun x => x.2.2.2.2) (none, 0, 0, (0), m13) ⟨h0, ⟨rfl, rfl, rfl, rfl, trivial⟩⟩ ?_; clear h0
  rintro ⟨a7, n8, c9, i10, m12⟩ e h11 ⟨hJ, hag⟩ ih14
  have hS := hS a7 n8 c9 i10 m12 h11 hJ; clear hJ
  refine Run.env hag ?_; clear hag
  refine Run.seq ?_
  refine Run.ops0 (idx := [0]) rfl ?_
  obtain ⟨hT, hF⟩ := hS
  by_cases hb16 : (i10 : Int) < ((n2 : Nat))
  · have hS := hT hb16; clear hT hF
    refine Run.go rfl rfl rfl (sem_binI .i64 (i10) ((n2 : Nat)) (.bool true) rfl rfl (binI_lss_t hb16) ?_)
    refine Run.region_end ?_
    refine Run.seq ?_
    refine Run.condT rfl ?_
    refine Run.skip ?_
    refine Run.seq ?_
    refine Run.block ?_
    refine Run.seq ?_
    refine Run.ops0 (idx := [0, 1, 2, 3]) rfl ?_
    obtain ⟨A17, e18, hi0, hi1, hS⟩ := hS
    refine Run.go rfl rfl rfl (sem_indexAddrS A17 n2 c3 .i64 (i10) (congrArg (fun a => Value.slice a n2 c3) e18) rfl TF.slc_118 hi0 hi1 ?_)
    obtain ⟨i19, i20, hl, hS⟩ := hS
    refine Run.go rfl rfl rfl (sem_loadN (Addr.add A17 (Int.toNat (i10) * 2)) [(Value.int .i64 (i19)), (Value.int .i64 (i20))] rfl TF.agg_132 TF.sz_132 hl ?_)
    refine Run.go rfl rfl rfl (sem_allocN [(Value.int .i64 (0)), (Value.int .i64 (0))] TF.zero_132 (fun k21 hb1 hb2 h22 hb3 => ?_))
    have hS := hS k21 hb1 hb2 h22 hb3
    obtain ⟨h23, hst, hS⟩ := hS
    refine Run.go rfl rfl rfl (sem_storeN ⟨k21, 0, none⟩ [(Value.int .i64 (i19)), (Value.int .i64 (i20))] h23 rfl rfl TF.sz_132 hst ?_)
    refine Run.region_end ?_
    refine Run.seq ?_
    refine Run.ops0 (idx := [0]) rfl ?_
    refine Run.go rfl rfl rfl (sem_assign ((Value.int .i64 (0))) rfl ?_)
    refine Run.region_end ?_
    refine Run.seqJ (fun e h26 => ∃ i25 : Int, Agree [(3, (Value.slice a7 n8 c9)), (5, (Value.pointer (some ⟨k21, 0, none⟩))), (6, (Value.int .i64 (i25))), (7, (Value.slice a1 n2 c3)), (8, (Value.int .i64 ((n2 : Nat)))), (9, (Value.int .i64 (i10)))] e ∧ S_countermandref13_Numbers_J1 B a1 n2 c3 a7 n8 c9 i10 m12 J15 k21 i25 h26 Q) ?_ fun j24 => ?_
    · rintro e h26 ⟨i25, hag, hS⟩
      refine Run.env hag ?_; clear hag
      refine Run.seqJ (fun e h29 => ∃ b28 : Bool, Agree [(3, (Value.slice a7 n8 c9)), (5, (Value.pointer (some ⟨k21, 0, none⟩))), (6, (Value.int .i64 (i25))), (7, (Value.slice a1 n2 c3)), (8, (Value.int .i64 ((n2 : Nat)))), (9, (Value.int .i64 (i10))), (40, (Value.bool b28))] e ∧ S_countermandref13_Numbers_J2 B a1 n2 c3 a7 n8 c9 i10 m12 J15 k21 i25 b28 h29 Q) ?_ fun j27 => ?_
      · rintro e h29 ⟨b28, hag, hS⟩
        refine Run.env hag ?_; clear hag
        obtain ⟨hT, hF⟩ := hS
        cases b28
        · have hS := hF rfl; clear hT hF
          refine Run.condF rfl ?_
          refine Run.skip ?_
          refine Run.inBlock ?_
          refine Run.ops0 (idx := [0, 1]) rfl ?_
          refine Run.go rfl rfl rfl (sem_binI .i64 (i10) (1) ((Value.int .i64 (IntKind.wrap .i64 ((i10) + (1))))) rfl rfl rfl ?_)
          refine Run.go rfl rfl rfl (sem_move ((Value.int .i64 (IntKind.wrap .i64 ((i10) + (1))))) rfl ?_)
          refine Run.region_end ?_
          exact Run.of_fin (hS.imp fun h' ⟨m', hm, hS⟩ => ih14 (a7, n8, c9, (IntKind.wrap .i64 ((i10) + (1))), m') _ _ ⟨hS, ⟨rfl, rfl, rfl, rfl, trivial⟩⟩ hm)
        · have hS := hT rfl; clear hT hF
          refine Run.condT rfl ?_
          skip
          skip
          obtain ⟨hi0, hi1, hi2, hS⟩ := hS
          have f33 := hi0; have f34 := hi1; have f35 := hi2
          skip
          obtain ⟨i37, hl, hS⟩ := hS
          have f38 := hl
          skip
          skip
          obtain ⟨hi0, hi1, hi2, hS⟩ := hS
          have f42 := hi0; have f43 := hi1; have f44 := hi2
          refine Run.drawT (fun h' => cellH B h' ⟨k21, 0, none⟩ = some (Value.int .i64 (i37)) ∧ True) [] (.q 1 (.q 2 (.q 3 (.q 5 (.q 6 (.q 9 (.q 10 (.q 11 (.x 0 (.x 4 (.x 7 (.x 8 (.x 12 (.q 13 .nil) .no) .no) .no) (.x 7 (.x 4 (.x 8 (.x 12 (.q 13 .nil) .no) .no) .no) .no)) (.x 7 (.x 0 (.x 4 (.x 8 (.x 12 (.q 13 .nil) .no) .no) .no) .no) .no)))))))))) TF.mixed (by kernel_rfl) ⟨f38, trivial⟩ ?_
          refine RunT.quiet rfl rfl rfl (fun h' hC => sem_move ((Value.slice a7 n8 c9)) rfl ⟨rfl, rfl⟩) ?_
          refine RunT.quiet rfl rfl rfl (fun h' hC => sem_move ((Value.int .i64 (i25))) rfl ⟨rfl, rfl⟩) ?_
          refine RunT.quiet rfl rfl rfl (fun h' hC => sem_sliceSlI a7 n8 c9 (0) (i25) rfl TF.slc_84 rfl ⟨_, rfl⟩ f33 f34 f35 ⟨rfl, rfl⟩) ?_
          refine RunT.quiet rfl rfl rfl (fun h' hC => sem_fieldAddr ⟨k21, 0, none⟩ 0 rfl TF.fld_132_0 ⟨rfl, rfl⟩) ?_
          refine RunT.quiet rfl rfl rfl (fun h' hC => sem_load1 ⟨k21, 0, none⟩ ((Value.int .i64 (i37))) rfl TF.agg_3 hC.1 ⟨rfl, rfl⟩) ?_
          refine RunT.quiet rfl rfl rfl (fun h' hC => sem_move ((Value.slice a7 n8 c9)) rfl ⟨rfl, rfl⟩) ?_
          refine RunT.quiet rfl rfl rfl (fun h' hC => sem_move ((Value.int .i64 (i25))) rfl ⟨rfl, rfl⟩) ?_
          refine RunT.quiet rfl rfl rfl (fun h' hC => sem_sliceSlI a7 n8 c9 (i25) ((n8 : Nat)) rfl TF.slc_84 ⟨_, rfl⟩ rfl f42 f43 f44 ⟨rfl, rfl⟩) ?_
          refine ⟨?_, ?_, trivial⟩
          · have hS := hS.1
            refine OpH.go rfl rfl rfl (sem_buildSlice0N TF.slc_84 (fun k45 hb1 hb2 h46 hb3 => ?_))
            have hS := hS k45 hb1 hb2 h46 hb3
            obtain ⟨g47, hS⟩ := hS
            refine ⟨fun _ => ⟨g47, trivial⟩, ?_⟩
            refine ⟨?_, ?_, trivial⟩
            · have hS := hS.1
              refine OpH.go rfl rfl rfl (sem_appendL [(Value.slice (some ⟨k45, 0, none⟩) 0 0), (Value.slice (if c9 = Int.toNat (0) then a7 else Option.map (·.add (Int.toNat (0) * 1)) a7) (Int.toNat (i25) - Int.toNat (0)) (c9 - Int.toNat (0)))] rfl (semH_mono (fun v h48 hv => ?_) hS))
              obtain ⟨a49, n50, c51, rfl, hS⟩ := hv
              obtain ⟨g52, hS⟩ := hS
              refine ⟨fun _ => ⟨g52, trivial⟩, ?_⟩
              refine ⟨?_, trivial⟩
              refine OpH.go rfl rfl rfl (sem_buildSliceL [(0, (Value.int .i64 (i37)))] [(Value.int .i64 (i37))] TF.slc_84 TF.zero_3 rfl (by decide) (by decide) rfl rfl (fun k53 hb1 hb2 h54 hb3 => ?_))
              have hS := hS k53 hb1 hb2 h54 hb3
              obtain ⟨g55, hS⟩ := hS
              refine ⟨fun _ => ⟨g55, trivial⟩, ?_⟩
              refine ⟨?_, trivial⟩
              refine OpH.go rfl rfl rfl (sem_appendL [(Value.slice a49 n50 c51), (Value.slice (some ⟨k53, 0, none⟩) 1 1)] rfl (semH_mono (fun v h56 hv => ?_) hS))
              obtain ⟨a57, n58, c59, rfl, hS⟩ := hv
              obtain ⟨g60, hS⟩ := hS
              refine ⟨fun _ => ⟨g60, trivial⟩, ?_⟩
              refine ⟨?_, trivial⟩
              refine OpH.go rfl rfl rfl (sem_appendL [(Value.slice a57 n58 c59), (Value.slice (if c9 = Int.toNat (i25) then a7 else Option.map (·.add (Int.toNat (i25) * 1)) a7) (Int.toNat ((n8 : Nat)) - Int.toNat (i25)) (c9 - Int.toNat (i25)))] rfl (semH_mono (fun v h61 hv => ?_) hS))
              obtain ⟨a62, n63, c64, rfl, hS⟩ := hv
              obtain ⟨g65, hS⟩ := hS
              refine ⟨fun _ => ⟨g65, trivial⟩, ?_⟩
              refine RunT.quiet rfl rfl rfl (fun h' hC => sem_assign ((Value.slice a62 n63 c64)) rfl ⟨rfl, rfl⟩) ?_
              refine Run.inBlock ?_
              refine Run.ops0 (idx := [0, 1]) rfl ?_
              refine Run.go rfl rfl rfl (sem_binI .i64 (i10) (1) ((Value.int .i64 (IntKind.wrap .i64 ((i10) + (1))))) rfl rfl rfl ?_)
              refine Run.go rfl rfl rfl (sem_move ((Value.int .i64 (IntKind.wrap .i64 ((i10) + (1))))) rfl ?_)
              refine Run.region_end ?_
              exact Run.of_fin (hS.imp fun h' ⟨m', hm, hS⟩ => ih14 (a62, n63, c64, (IntKind.wrap .i64 ((i10) + (1))), m') _ _ ⟨hS, ⟨rfl, rfl, rfl, rfl, trivial⟩⟩ hm)
            · have hS := hS.2
              refine OpH.go rfl rfl rfl (sem_buildSliceL [(0, (Value.int .i64 (i37)))] [(Value.int .i64 (i37))] TF.slc_84 TF.zero_3 rfl (by decide) (by decide) rfl rfl (fun k66 hb1 hb2 h67 hb3 => ?_))
              have hS := hS k66 hb1 hb2 h67 hb3
              obtain ⟨g68, hS⟩ := hS
              refine ⟨fun _ => ⟨g68, trivial⟩, ?_⟩
              refine ⟨?_, trivial⟩
              refine OpH.go rfl rfl rfl (sem_appendL [(Value.slice (some ⟨k45, 0, none⟩) 0 0), (Value.slice (if c9 = Int.toNat (0) then a7 else Option.map (·.add (Int.toNat (0) * 1)) a7) (Int.toNat (i25) - Int.toNat (0)) (c9 - Int.toNat (0)))] rfl (semH_mono (fun v h69 hv => ?_) hS))
              obtain ⟨a70, n71, c72, rfl, hS⟩ := hv
              obtain ⟨g73, hS⟩ := hS
              refine ⟨fun _ => ⟨g73, trivial⟩, ?_⟩
              refine ⟨?_, trivial⟩
              refine OpH.go rfl rfl rfl (sem_appendL [(Value.slice a70 n71 c72), (Value.slice (some ⟨k66, 0, none⟩) 1 1)] rfl (semH_mono (fun v h74 hv => ?_) hS))
              obtain ⟨a75, n76, c77, rfl, hS⟩ := hv
              obtain ⟨g78, hS⟩ := hS
              refine ⟨fun _ => ⟨g78, trivial⟩, ?_⟩
              refine ⟨?_, trivial⟩
              refine OpH.go rfl rfl rfl (sem_appendL [(Value.slice a75 n76 c77), (Value.slice (if c9 = Int.toNat (i25) then a7 else Option.map (·.add (Int.toNat (i25) * 1)) a7) (Int.toNat ((n8 : Nat)) - Int.toNat (i25)) (c9 - Int.toNat (i25)))] rfl (semH_mono (fun v h79 hv => ?_) hS))
              obtain ⟨a80, n81, c82, rfl, hS⟩ := hv
              obtain ⟨g83, hS⟩ := hS
              refine ⟨fun _ => ⟨g83, trivial⟩, ?_⟩
              refine RunT.quiet rfl rfl rfl (fun h' hC => sem_assign ((Value.slice a80 n81 c82)) rfl ⟨rfl, rfl⟩) ?_
              refine Run.inBlock ?_
              refine Run.ops0 (idx := [0, 1]) rfl ?_
              refine Run.go rfl rfl rfl (sem_binI .i64 (i10) (1) ((Value.int .i64 (IntKind.wrap .i64 ((i10) + (1))))) rfl rfl rfl ?_)
              refine Run.go rfl rfl rfl (sem_move ((Value.int .i64 (IntKind.wrap .i64 ((i10) + (1))))) rfl ?_)
              refine Run.region_end ?_
              exact Run.of_fin (hS.imp fun h' ⟨m', hm, hS⟩ => ih14 (a80, n81, c82, (IntKind.wrap .i64 ((i10) + (1))), m') _ _ ⟨hS, ⟨rfl, rfl, rfl, rfl, trivial⟩⟩ hm)
          · have hS := hS.2
            refine OpH.go rfl rfl rfl (sem_buildSliceL [(0, (Value.int .i64 (i37)))] [(Value.int .i64 (i37))] TF.slc_84 TF.zero_3 rfl (by decide) (by decide) rfl rfl (fun k84 hb1 hb2 h85 hb3 => ?_))
            have hS := hS k84 hb1 hb2 h85 hb3
            obtain ⟨g86, hS⟩ := hS
            refine ⟨fun _ => ⟨g86, trivial⟩, ?_⟩
            refine ⟨?_, trivial⟩
            refine OpH.go rfl rfl rfl (sem_buildSlice0N TF.slc_84 (fun k87 hb1 hb2 h88 hb3 => ?_))
            have hS := hS k87 hb1 hb2 h88 hb3
            obtain ⟨g89, hS⟩ := hS
            refine ⟨fun _ => ⟨g89, trivial⟩, ?_⟩
            refine ⟨?_, trivial⟩
            refine OpH.go rfl rfl rfl (sem_appendL [(Value.slice (some ⟨k87, 0, none⟩) 0 0), (Value.slice (if c9 = Int.toNat (0) then a7 else Option.map (·.add (Int.toNat (0) * 1)) a7) (Int.toNat (i25) - Int.toNat (0)) (c9 - Int.toNat (0)))] rfl (semH_mono (fun v h90 hv => ?_) hS))
            obtain ⟨a91, n92, c93, rfl, hS⟩ := hv
            obtain ⟨g94, hS⟩ := hS
            refine ⟨fun _ => ⟨g94, trivial⟩, ?_⟩
            refine ⟨?_, trivial⟩
            refine OpH.go rfl rfl rfl (sem_appendL [(Value.slice a91 n92 c93), (Value.slice (some ⟨k84, 0, none⟩) 1 1)] rfl (semH_mono (fun v h95 hv => ?_) hS))
            obtain ⟨a96, n97, c98, rfl, hS⟩ := hv
            obtain ⟨g99, hS⟩ := hS
            refine ⟨fun _ => ⟨g99, trivial⟩, ?_⟩
            refine ⟨?_, trivial⟩
            refine OpH.go rfl rfl rfl (sem_appendL [(Value.slice a96 n97 c98), (Value.slice (if c9 = Int.toNat (i25) then a7 else Option.map (·.add (Int.toNat (i25) * 1)) a7) (Int.toNat ((n8 : Nat)) - Int.toNat (i25)) (c9 - Int.toNat (i25)))] rfl (semH_mono (fun v h100 hv => ?_) hS))
            obtain ⟨a101, n102, c103, rfl, hS⟩ := hv
            obtain ⟨g104, hS⟩ := hS
            refine ⟨fun _ => ⟨g104, trivial⟩, ?_⟩
            refine RunT.quiet rfl rfl rfl (fun h' hC => sem_assign ((Value.slice a101 n102 c103)) rfl ⟨rfl, rfl⟩) ?_
            refine Run.inBlock ?_
            refine Run.ops0 (idx := [0, 1]) rfl ?_
            refine Run.go rfl rfl rfl (sem_binI .i64 (i10) (1) ((Value.int .i64 (IntKind.wrap .i64 ((i10) + (1))))) rfl rfl rfl ?_)
            refine Run.go rfl rfl rfl (sem_move ((Value.int .i64 (IntKind.wrap .i64 ((i10) + (1))))) rfl ?_)
            refine Run.region_end ?_
            exact Run.of_fin (hS.imp fun h' ⟨m', hm, hS⟩ => ih14 (a101, n102, c103, (IntKind.wrap .i64 ((i10) + (1))), m') _ _ ⟨hS, ⟨rfl, rfl, rfl, rfl, trivial⟩⟩ hm)
      refine Run.draw (fun h' => h' = h26) [] [.q 0, .q 1, .q 2, .q 3, .q 4, .q 5, .q 6, .q 7, .q 8, .q 9, .q 10, .q 11, .q 12] TF.mixed (by kernel_rfl) rfl ?_
      refine RunO.quiet rfl rfl rfl (quiet_eq (sem_move ((Value.int .i64 (i25))) rfl ⟨rfl, rfl⟩)) ?_
      refine RunO.quiet rfl rfl rfl (quiet_eq (sem_move ((Value.slice a7 n8 c9)) rfl ⟨rfl, rfl⟩)) ?_
      refine RunO.quiet rfl rfl rfl (quiet_eq (sem_lenSl a7 n8 c9 rfl TF.sl_84 ⟨rfl, rfl⟩)) ?_
      obtain ⟨hT, hF⟩ := hS
      by_cases hb105 : (i25 : Int) = (n8 : Nat)
      · have hS := hT hb105; clear hT hF
        refine RunO.quiet rfl rfl rfl (quiet_eq (sem_binI .i64 (i25) ((n8 : Nat)) (.bool true) rfl rfl (binI_eql_t hb105) ⟨rfl, rfl⟩)) ?_
        refine RunO.quiet rfl rfl rfl (quiet_eq (sem_move ((Value.bool true)) rfl ⟨rfl, rfl⟩)) ?_
        refine RunO.skip rfl rfl rfl ?_
        refine RunO.skip rfl rfl rfl ?_
        refine RunO.skip rfl rfl rfl ?_
        refine RunO.skip rfl rfl rfl ?_
        refine RunO.skip rfl rfl rfl ?_
        refine RunO.skip rfl rfl rfl ?_
        refine RunO.skip rfl rfl rfl ?_
        refine RunO.quiet rfl rfl rfl (quiet_eq (sem_pick true ((Value.bool true)) rfl rfl ⟨rfl, rfl⟩)) ?_
        exact Run.of_fin (hS.imp fun h' hS => j27 _ _ ⟨(true), ⟨rfl, rfl, rfl, rfl, rfl, rfl, rfl, trivial⟩, hS⟩)
      · have hS := hF hb105; clear hT hF
        refine RunO.quiet rfl rfl rfl (quiet_eq (sem_binI .i64 (i25) ((n8 : Nat)) (.bool false) rfl rfl (binI_eql_f hb105) ⟨rfl, rfl⟩)) ?_
        refine RunO.quiet rfl rfl rfl (quiet_eq (sem_move ((Value.bool false)) rfl ⟨rfl, rfl⟩)) ?_
        refine RunO.quiet rfl rfl rfl (quiet_eq (sem_move ((Value.slice a7 n8 c9)) rfl ⟨rfl, rfl⟩)) ?_
        refine RunO.quiet rfl rfl rfl (quiet_eq (sem_move ((Value.int .i64 (i25))) rfl ⟨rfl, rfl⟩)) ?_
        obtain ⟨A106, e107, hi0, hi1, hS⟩ := hS
        refine RunO.quiet rfl rfl rfl (quiet_eq (sem_indexAddrS A106 n8 c9 .i64 (i25) (congrArg (fun a => Value.slice a n8 c9) e107) rfl TF.slc_84 hi0 hi1 ⟨rfl, rfl⟩)) ?_
        obtain ⟨i108, hl, hS⟩ := hS
        refine RunO.quiet rfl rfl rfl (quiet_eq (sem_load1 (Addr.add A106 (Int.toNat (i25) * 1)) ((Value.int .i64 (i108))) rfl TF.agg_3 hl ⟨rfl, rfl⟩)) ?_
        refine RunO.quiet rfl rfl rfl (quiet_eq (sem_fieldAddr ⟨k21, 0, none⟩ 0 rfl TF.fld_132_0 ⟨rfl, rfl⟩)) ?_
        obtain ⟨i109, hl, hS⟩ := hS
        refine RunO.quiet rfl rfl rfl (quiet_eq (sem_load1 ⟨k21, 0, none⟩ ((Value.int .i64 (i109))) rfl TF.agg_3 hl ⟨rfl, rfl⟩)) ?_
        obtain ⟨hT, hF⟩ := hS
        by_cases hb110 : (i108 : Int) = i109
        · have hS := hT hb110; clear hT hF
          refine RunO.quiet rfl rfl rfl (quiet_eq (sem_binI .i64 (i108) (i109) (.bool false) rfl rfl (binI_neq_t hb110) ⟨rfl, rfl⟩)) ?_
          refine RunO.quiet rfl rfl rfl (quiet_eq (sem_pick false ((Value.bool false)) rfl rfl ⟨rfl, rfl⟩)) ?_
          exact Run.of_fin (hS.imp fun h' hS => j27 _ _ ⟨(false), ⟨rfl, rfl, rfl, rfl, rfl, rfl, rfl, trivial⟩, hS⟩)
        · have hS := hF hb110; clear hT hF
          refine RunO.quiet rfl rfl rfl (quiet_eq (sem_binI .i64 (i108) (i109) (.bool true) rfl rfl (binI_neq_f hb110) ⟨rfl, rfl⟩)) ?_
          refine RunO.quiet rfl rfl rfl (quiet_eq (sem_pick false ((Value.bool true)) rfl rfl ⟨rfl, rfl⟩)) ?_
          exact Run.of_fin (hS.imp fun h' hS => j27 _ _ ⟨(true), ⟨rfl, rfl, rfl, rfl, rfl, rfl, rfl, trivial⟩, hS⟩)
    refine Run.block ?_
    obtain ⟨J116, m114, h0, hS⟩ := hS
    refine Run.of_fin (h0.imp fun h' h0 => ?_)
    refine Run.loop (σ := Int × Nat) (fun x e h => J116 x.1 x.2 h ∧ Agree [(3, (Value.slice a7 n8 c9)), (5, (Value.pointer (some ⟨k21, 0, none⟩))), (6, (Value.int .i64 (x.1))), (7, (Value.slice a1 n2 c3)), (8, (Value.int .i64 ((n2 : Nat)))), (9, (Value.int .i64 (i10)))] e) (fun x => x.2) ((0), m114) ⟨h0, ⟨rfl, rfl, rfl, rfl, rfl, rfl, trivial⟩⟩ ?_; clear h0
    rintro ⟨i111, m113⟩ e h112 ⟨hJ, hag⟩ ih115
    have hS := hS i111 m113 h112 hJ; clear hJ
    refine Run.env hag ?_; clear hag
    refine Run.seq ?_
    refine Run.seq ?_
    refine Run.draw (fun h' => h' = h112) [] [.q 0, .q 1, .q 2, .q 3, .q 4, .q 5, .q 6, .q 7, .q 8, .q 9, .q 10, .q 11, .q 12] TF.mixed (by kernel_rfl) rfl ?_
    refine RunO.quiet rfl rfl rfl (quiet_eq (sem_move ((Value.int .i64 (i111))) rfl ⟨rfl, rfl⟩)) ?_
    refine RunO.quiet rfl rfl rfl (quiet_eq (sem_move ((Value.slice a7 n8 c9)) rfl ⟨rfl, rfl⟩)) ?_
    refine RunO.quiet rfl rfl rfl (quiet_eq (sem_lenSl a7 n8 c9 rfl TF.sl_84 ⟨rfl, rfl⟩)) ?_
    obtain ⟨hT, hF⟩ := hS
    by_cases hb117 : (i111 : Int) < ((n8 : Nat))
    · have hS := hT hb117; clear hT hF
      refine RunO.quiet rfl rfl rfl (quiet_eq (sem_binI .i64 (i111) ((n8 : Nat)) (.bool true) rfl rfl (binI_lss_t hb117) ⟨rfl, rfl⟩)) ?_
      refine RunO.quiet rfl rfl rfl (quiet_eq (sem_move ((Value.bool true)) rfl ⟨rfl, rfl⟩)) ?_
      refine RunO.quiet rfl rfl rfl (quiet_eq (sem_move ((Value.slice a7 n8 c9)) rfl ⟨rfl, rfl⟩)) ?_
      refine RunO.quiet rfl rfl rfl (quiet_eq (sem_move ((Value.int .i64 (i111))) rfl ⟨rfl, rfl⟩)) ?_
      obtain ⟨A118, e119, hi0, hi1, hS⟩ := hS
      refine RunO.quiet rfl rfl rfl (quiet_eq (sem_indexAddrS A118 n8 c9 .i64 (i111) (congrArg (fun a => Value.slice a n8 c9) e119) rfl TF.slc_84 hi0 hi1 ⟨rfl, rfl⟩)) ?_
      obtain ⟨i120, hl, hS⟩ := hS
      refine RunO.quiet rfl rfl rfl (quiet_eq (sem_load1 (Addr.add A118 (Int.toNat (i111) * 1)) ((Value.int .i64 (i120))) rfl TF.agg_3 hl ⟨rfl, rfl⟩)) ?_
      refine RunO.quiet rfl rfl rfl (quiet_eq (sem_fieldAddr ⟨k21, 0, none⟩ 0 rfl TF.fld_132_0 ⟨rfl, rfl⟩)) ?_
      obtain ⟨i121, hl, hS⟩ := hS
      refine RunO.quiet rfl rfl rfl (quiet_eq (sem_load1 ⟨k21, 0, none⟩ ((Value.int .i64 (i121))) rfl TF.agg_3 hl ⟨rfl, rfl⟩)) ?_
      obtain ⟨hT, hF⟩ := hS
      by_cases hb122 : (i120 : Int) < (i121)
      · have hS := hT hb122; clear hT hF
        refine RunO.quiet rfl rfl rfl (quiet_eq (sem_binI .i64 (i120) (i121) (.bool true) rfl rfl (binI_lss_t hb122) ⟨rfl, rfl⟩)) ?_
        refine RunO.quiet rfl rfl rfl (quiet_eq (sem_pick true ((Value.bool true)) rfl rfl ⟨rfl, rfl⟩)) ?_
        refine Run.condT rfl ?_
        refine Run.skip ?_
        refine Run.block ?_
        refine Run.ops0 (idx := [0, 1, 2]) rfl ?_
        refine Run.go rfl rfl rfl (sem_move ((Value.int .i64 (i111))) rfl ?_)
        refine Run.go rfl rfl rfl (sem_binI .i64 (i111) (1) ((Value.int .i64 (IntKind.wrap .i64 ((i111) + (1))))) rfl rfl rfl ?_)
        refine Run.go rfl rfl rfl (sem_assign ((Value.int .i64 (IntKind.wrap .i64 ((i111) + (1))))) rfl ?_)
        refine Run.region_end ?_
        refine Run.inBlock ?_
        exact Run.of_fin (hS.imp fun h' ⟨m', hm, hS⟩ => ih115 ((IntKind.wrap .i64 ((i111) + (1))), m') _ _ ⟨hS, ⟨rfl, rfl, rfl, rfl, rfl, rfl, trivial⟩⟩ hm)
      · have hS := hF hb122; clear hT hF
        refine RunO.quiet rfl rfl rfl (quiet_eq (sem_binI .i64 (i120) (i121) (.bool false) rfl rfl (binI_lss_f hb122) ⟨rfl, rfl⟩)) ?_
        refine RunO.quiet rfl rfl rfl (quiet_eq (sem_pick true ((Value.bool false)) rfl rfl ⟨rfl, rfl⟩)) ?_
        refine Run.condF rfl ?_
        refine Run.exit rfl ?_
        exact Run.of_fin (hS.imp fun h' hS => j24 _ _ ⟨(i111), ⟨rfl, rfl, rfl, rfl, rfl, rfl, trivial⟩, hS⟩)
    · have hS := hF hb117; clear hT hF
      refine RunO.quiet rfl rfl rfl (quiet_eq (sem_binI .i64 (i111) ((n8 : Nat)) (.bool false) rfl rfl (binI_lss_f hb117) ⟨rfl, rfl⟩)) ?_
      refine RunO.quiet rfl rfl rfl (quiet_eq (sem_move ((Value.bool false)) rfl ⟨rfl, rfl⟩)) ?_
      refine RunO.skip rfl rfl rfl ?_
      refine RunO.skip rfl rfl rfl ?_
      refine RunO.skip rfl rfl rfl ?_
      refine RunO.skip rfl rfl rfl ?_
      refine RunO.skip rfl rfl rfl ?_
      refine RunO.skip rfl rfl rfl ?_
      refine RunO.skip rfl rfl rfl ?_
      refine RunO.quiet rfl rfl rfl (quiet_eq (sem_pick false ((Value.bool false)) rfl rfl ⟨rfl, rfl⟩)) ?_
      refine Run.condF rfl ?_
      refine Run.exit rfl ?_
      exact Run.of_fin (hS.imp fun h' hS => j24 _ _ ⟨(i111), ⟨rfl, rfl, rfl, rfl, rfl, rfl, trivial⟩, hS⟩)
  · have hS := hF hb16; clear hT hF
    refine Run.go rfl rfl rfl (sem_binI .i64 (i10) ((n2 : Nat)) (.bool false) rfl rfl (binI_lss_f hb16) ?_)
    refine Run.region_end ?_
    refine Run.seq ?_
    refine Run.condF rfl ?_
    refine Run.exit rfl ?_
    refine Run.seq ?_
    refine Run.ops0 (idx := [0, 1]) rfl ?_
    refine Run.go rfl rfl rfl (sem_move ((Value.slice a7 n8 c9)) rfl ?_)
    refine Run.go rfl rfl rfl (sem_assign ((Value.slice a7 n8 c9)) rfl ?_)
    refine Run.region_end ?_
    refine Run.ret ⟨.inr rfl, ?_⟩
    exact hS.imp fun h' hq => ⟨a7, n8, c9, rfl, hq⟩
set_option maxHeartbeats 4000000 in
theorem C_countermandref13_Get.of {B : RO} {a1 : Option Addr} {n2 : Nat} {c3 : Nat} {i4 : Int} {h : Heap} {Q : Int → Bool → Heap → Prop} (hS : S_countermandref13_Get B a1 n2 c3 i4 h Q) : C_countermandref13_Get B a1 n2 c3 i4 h Q := by
  unfold S_countermandref13_Get at hS
  unfold C_countermandref13_Get
  refine Spec.of_run Try.func64 (N := 26) (rs := [ResultVar.tmp 4, ResultVar.tmp 5]) rfl rfl rfl (Nat.le_of_ble_eq_true rfl) ?_
  refine Run.seq ?_
  refine Run.ops0 (idx := [0, 1]) rfl ?_
  refine Run.go rfl rfl rfl (sem_assign ((Value.int .i64 (0))) rfl ?_)
  refine Run.go rfl rfl rfl (sem_assign ((Value.bool false)) rfl ?_)
  refine Run.region_end ?_
  refine Run.seq ?_
  refine Run.seq ?_
  refine Run.ops0 (idx := [0, 1, 2, 3]) rfl ?_
  refine Run.go rfl rfl rfl (sem_move ((Value.slice a1 n2 c3)) rfl ?_)
  refine Run.go rfl rfl rfl (sem_lenSl a1 n2 c3 rfl TF.sl_118 ?_)
  refine Run.go rfl rfl rfl (sem_binI .i64 ((n2 : Nat)) (1) ((Value.int .i64 (IntKind.wrap .i64 (((n2 : Nat)) - (1))))) rfl rfl rfl ?_)
  refine Run.go rfl rfl rfl (sem_assign ((Value.int .i64 (IntKind.wrap .i64 (((n2 : Nat)) - (1))))) rfl ?_)
  refine Run.region_end ?_
  refine Run.block ?_
  obtain ⟨J12, m10, h0, hS⟩ := hS
  refine Run.of_fin (h0.imp fun h' h0 => ?_)
  refine Run.loop (σ := Int × Nat) (fun x e h => J12 x.1 x.2 h ∧ Agree [(0, (Value.slice a1 n2 c3)), (1, (Value.int .i64 (i4))), (6, (Value.int .i64 (x.1)))] e) (fun x => x.2) ((IntKind.wrap .i64 (((n2 : Nat)) - (1))), m10) ⟨h0, ⟨rfl, rfl, rfl, trivial⟩⟩ ?_; clear h0
  rintro ⟨i7, m9⟩ e h8 ⟨hJ, hag⟩ ih11
  have hS := hS i7 m9 h8 hJ; clear hJ
  refine Run.env hag ?_; clear hag
  refine Run.seq ?_
  refine Run.seq ?_
  refine Run.ops0 (idx := [0, 1]) rfl ?_
  refine Run.go rfl rfl rfl (sem_move ((Value.int .i64 (i7))) rfl ?_)
  obtain ⟨hT, hF⟩ := hS
  by_cases hb13 : (i7 : Int) ≥ (0)
  · have hS := hT hb13; clear hT hF
    refine Run.go rfl rfl rfl (sem_binI .i64 (i7) (0) (.bool true) rfl rfl (binI_geq_t hb13) ?_)
    refine Run.region_end ?_
    refine Run.condT rfl ?_
    refine Run.skip ?_
    refine Run.seq ?_
    refine Run.block ?_
    refine Run.seq ?_
    refine Run.ops0 (idx := [0, 1, 2, 3, 4, 5, 6]) rfl ?_
    refine Run.go rfl rfl rfl (sem_move ((Value.slice a1 n2 c3)) rfl ?_)
    refine Run.go rfl rfl rfl (sem_move ((Value.int .i64 (i7))) rfl ?_)
    obtain ⟨A14, e15, hi0, hi1, hS⟩ := hS
    refine Run.go rfl rfl rfl (sem_indexAddrS A14 n2 c3 .i64 (i7) (congrArg (fun a => Value.slice a n2 c3) e15) rfl TF.slc_118 hi0 hi1 ?_)
    refine Run.go rfl rfl rfl (sem_fieldAddr (Addr.add A14 (Int.toNat (i7) * 2)) 0 rfl TF.fld_132_0 ?_)
    obtain ⟨i16, hl, hS⟩ := hS
    refine Run.go rfl rfl rfl (sem_load1 (Addr.add A14 (Int.toNat (i7) * 2)) ((Value.int .i64 (i16))) rfl TF.agg_3 hl ?_)
    refine Run.go rfl rfl rfl (sem_move ((Value.int .i64 (i4))) rfl ?_)
    obtain ⟨hT, hF⟩ := hS
    by_cases hb17 : (i16 : Int) = i4
    · have hS := hT hb17; clear hT hF
      refine Run.go rfl rfl rfl (sem_binI .i64 (i16) (i4) (.bool true) rfl rfl (binI_eql_t hb17) ?_)
      refine Run.region_end ?_
      refine Run.condT rfl ?_
      refine Run.seq ?_
      refine Run.ops0 (idx := [0, 1, 2, 3, 4, 5, 6]) rfl ?_
      refine Run.go rfl rfl rfl (sem_move ((Value.slice a1 n2 c3)) rfl ?_)
      refine Run.go rfl rfl rfl (sem_move ((Value.int .i64 (i7))) rfl ?_)
      obtain ⟨A18, e19, hi0, hi1, hS⟩ := hS
      refine Run.go rfl rfl rfl (sem_indexAddrS A18 n2 c3 .i64 (i7) (congrArg (fun a => Value.slice a n2 c3) e19) rfl TF.slc_118 hi0 hi1 ?_)
      refine Run.go rfl rfl rfl (sem_fieldAddr (Addr.add A18 (Int.toNat (i7) * 2)) 1 rfl TF.fld_132_1 ?_)
      obtain ⟨i20, hl, hS⟩ := hS
      refine Run.go rfl rfl rfl (sem_load1 (Addr.add (Addr.add A18 (Int.toNat (i7) * 2)) 1) ((Value.int .i64 (i20))) rfl TF.agg_3 hl ?_)
      refine Run.go rfl rfl rfl (sem_assign ((Value.int .i64 (i20))) rfl ?_)
      refine Run.go rfl rfl rfl (sem_assign ((Value.bool true)) rfl ?_)
      refine Run.region_end ?_
      refine Run.ret ⟨.inr rfl, ?_⟩
      exact hS.imp fun h' hq => ⟨(i20), (true), rfl, hq⟩
    · have hS := hF hb17; clear hT hF
      refine Run.go rfl rfl rfl (sem_binI .i64 (i16) (i4) (.bool false) rfl rfl (binI_eql_f hb17) ?_)
      refine Run.region_end ?_
      refine Run.condF rfl ?_
      refine Run.skip ?_
      refine Run.inBlock ?_
      refine Run.ops0 (idx := [0, 1, 2]) rfl ?_
      refine Run.go rfl rfl rfl (sem_move ((Value.int .i64 (i7))) rfl ?_)
      refine Run.go rfl rfl rfl (sem_binI .i64 (i7) (1) ((Value.int .i64 (IntKind.wrap .i64 ((i7) - (1))))) rfl rfl rfl ?_)
      refine Run.go rfl rfl rfl (sem_assign ((Value.int .i64 (IntKind.wrap .i64 ((i7) - (1))))) rfl ?_)
      refine Run.region_end ?_
      exact Run.of_fin (hS.imp fun h' ⟨m', hm, hS⟩ => ih11 ((IntKind.wrap .i64 ((i7) - (1))), m') _ _ ⟨hS, ⟨rfl, rfl, rfl, trivial⟩⟩ hm)
  · have hS := hF hb13; clear hT hF
    refine Run.go rfl rfl rfl (sem_binI .i64 (i7) (0) (.bool false) rfl rfl (binI_geq_f hb13) ?_)
    refine Run.region_end ?_
    refine Run.condF rfl ?_
    refine Run.exit rfl ?_
    refine Run.seq ?_
    refine Run.ops0 (idx := [0, 1]) rfl ?_
    refine Run.go rfl rfl rfl (sem_assign ((Value.int .i64 (0))) rfl ?_)
    refine Run.go rfl rfl rfl (sem_assign ((Value.bool false)) rfl ?_)
    refine Run.region_end ?_
    refine Run.ret ⟨.inr rfl, ?_⟩
    exact hS.imp fun h' hq => ⟨(0), (false), rfl, hq⟩
set_option maxHeartbeats 4000000 in
theorem C_draft_Draft_int_Put.of {B : RO} {p1 : Option Addr} {i2 : Int} {i3 : Int} {h : Heap} {Q : Bool → Heap → Prop} (hS : S_draft_Draft_int_Put B p1 i2 i3 h Q) : C_draft_Draft_int_Put B p1 i2 i3 h Q := by
  unfold S_draft_Draft_int_Put at hS
  unfold C_draft_Draft_int_Put
  refine Spec.of_run Try.func65 (N := 39) (rs := [ResultVar.tmp 6]) rfl rfl rfl (Nat.le_of_ble_eq_true rfl) ?_
  refine Run.seq ?_
  refine Run.ops0 (idx := [0]) rfl ?_
  refine Run.go rfl rfl rfl (sem_assign ((Value.bool false)) rfl ?_)
  refine Run.region_end ?_
  refine Run.seq ?_
  refine Run.seq ?_
  refine Run.ops0 (idx := [0, 1]) rfl ?_
  refine Run.go rfl rfl rfl (sem_move ((Value.pointer p1)) rfl ?_)
  obtain ⟨hT, hF⟩ := hS
  by_cases hb5 : p1 = none
  · have hS := hT hb5; clear hT hF
    refine Run.go rfl rfl rfl (sem_ptrNilT p1 (.inl rfl) true rfl rfl TF.ptr_119 hb5 rfl ?_)
    refine Run.region_end ?_
    refine Run.condT rfl ?_
    refine Run.seq ?_
    refine Run.ops0 (idx := [0]) rfl ?_
    refine Run.go rfl rfl rfl (sem_assign ((Value.bool false)) rfl ?_)
    refine Run.region_end ?_
    refine Run.ret ⟨.inr rfl, ?_⟩
    exact hS.imp fun h' hq => ⟨(false), rfl, hq⟩
  · have hS := hF hb5; clear hT hF
    refine Run.go rfl rfl rfl (sem_ptrNilF p1 (.inl rfl) false rfl rfl TF.ptr_119 hb5 rfl ?_)
    refine Run.region_end ?_
    refine Run.condF rfl ?_
    refine Run.skip ?_
    refine Run.seq ?_
    refine Run.ops0 (idx := [0, 1, 2, 3, 4, 5, 6, 7]) rfl ?_
    refine Run.go rfl rfl rfl (sem_move ((Value.pointer p1)) rfl ?_)
    refine Run.go rfl rfl rfl (sem_move ((Value.int .i64 (i2))) rfl ?_)
    refine Run.go rfl rfl rfl (sem_callL [(Value.pointer p1), (Value.int .i64 (i2))] (TF.goes_93) rfl rfl (Spec.mono hS fun v h6 hv => ?_))
    obtain ⟨i7, b8, rfl, hS⟩ := hv
    refine Run.go rfl rfl rfl (sem_move ((Value.tuple #[(Value.int .i64 (i7)), (Value.bool b8)])) rfl ?_)
    refine Run.go rfl rfl rfl (sem_extract #[(Value.int .i64 (i7)), (Value.bool b8)] ((Value.int .i64 (i7))) rfl rfl ?_)
    obtain ⟨hT, hF⟩ := hS
    cases b8
    · have hS := hF rfl; clear hT hF
      refine Run.go rfl rfl rfl (sem_extract #[(Value.int .i64 (i7)), (Value.bool false)] (.bool false) rfl rfl ?_)
      refine Run.go rfl rfl rfl (sem_assign ((Value.int .i64 (i7))) rfl ?_)
      refine Run.go rfl rfl rfl (sem_assign ((Value.bool false)) rfl ?_)
      refine Run.region_end ?_
      refine Run.seq ?_
      refine Run.seq ?_
      refine Run.ops0 (idx := [0]) rfl ?_
      refine Run.go rfl rfl rfl (sem_move ((Value.bool false)) rfl ?_)
      refine Run.region_end ?_
      refine Run.condF rfl ?_
      refine Run.ops0 (idx := [0, 1, 2, 3, 4, 5, 6, 7, 8, 9, 10, 11, 12, 13]) rfl ?_
      refine Run.go rfl rfl rfl (sem_move ((Value.pointer p1)) rfl ?_)
      refine Run.go rfl rfl rfl (sem_move ((Value.pointer p1)) rfl ?_)
      obtain ⟨A9, e10, hS⟩ := hS
      refine Run.go rfl rfl rfl (sem_nilCheck A9 (congrArg Value.pointer e10) ?_)
      refine Run.go rfl rfl rfl (sem_fieldAddr A9 0 rfl TF.fld_122_0 ?_)
      refine Run.ldSl hS fun a11 n12 c13 h14 hl hS => ?_
      refine Run.go rfl rfl rfl (sem_load1 A9 ((Value.slice a11 n12 c13)) rfl TF.agg_120 hl ?_)
      refine Run.go rfl rfl rfl (sem_move ((Value.int .i64 (i7))) rfl ?_)
      refine Run.go rfl rfl rfl (sem_move ((Value.int .i64 (i2))) rfl ?_)
      refine Run.go rfl rfl rfl (sem_move ((Value.int .i64 (i3))) rfl ?_)
      refine Run.go rfl rfl rfl (sem_buildSL [(0, (Value.int .i64 (i2))), (1, (Value.int .i64 (i3)))] [(Value.int .i64 (i2)), (Value.int .i64 (i3))] TF.zero_163 TF.places_163 rfl rfl ?_)
      refine Run.go rfl rfl rfl (sem_buildSliceL [(0, (Value.agg #[(Value.int .i64 (i2)), (Value.int .i64 (i3))]))] [(Value.int .i64 (i2)), (Value.int .i64 (i3))] TF.slc_120 TF.zero_163 rfl (by decide) (by decide) rfl rfl (fun k15 hb1 hb2 h16 hb3 => ?_))
      have hS := hS k15 hb1 hb2 h16 hb3
      refine Run.go rfl rfl rfl (sem_callL [(Value.slice a11 n12 c13), (Value.int .i64 (i7)), (Value.slice (some ⟨k15, 0, none⟩) 1 1)] (TF.goes_94) rfl rfl (Spec.mono hS fun v h17 hv => ?_))
      obtain ⟨a18, n19, c20, rfl, hS⟩ := hv
      obtain ⟨A21, e22, hS⟩ := hS
      refine Run.go rfl rfl rfl (sem_nilCheck A21 (congrArg Value.pointer e22) ?_)
      refine Run.go rfl rfl rfl (sem_fieldAddr A21 0 rfl TF.fld_122_0 ?_)
      obtain ⟨h23, hst, hS⟩ := hS
      refine Run.go rfl rfl rfl (sem_store1 A21 ((Value.slice a18 n19 c20)) h23 rfl rfl rfl TF.sz_120 hst ?_)
      refine Run.region_end ?_
      refine Run.seq ?_
      refine Run.ops0 (idx := [0]) rfl ?_
      refine Run.go rfl rfl rfl (sem_assign ((Value.bool true)) rfl ?_)
      refine Run.region_end ?_
      refine Run.ret ⟨.inr rfl, ?_⟩
      exact hS.imp fun h' hq => ⟨(true), rfl, hq⟩
    · have hS := hT rfl; clear hT hF
      refine Run.go rfl rfl rfl (sem_extract #[(Value.int .i64 (i7)), (Value.bool true)] (.bool true) rfl rfl ?_)
      refine Run.go rfl rfl rfl (sem_assign ((Value.int .i64 (i7))) rfl ?_)
      refine Run.go rfl rfl rfl (sem_assign ((Value.bool true)) rfl ?_)
      refine Run.region_end ?_
      refine Run.seq ?_
      refine Run.seq ?_
      refine Run.ops0 (idx := [0]) rfl ?_
      refine Run.go rfl rfl rfl (sem_move ((Value.bool true)) rfl ?_)
      refine Run.region_end ?_
      refine Run.condT rfl ?_
      refine Run.ops0 (idx := [0, 1, 2, 3, 4, 5, 6, 7, 8]) rfl ?_
      refine Run.go rfl rfl rfl (sem_move ((Value.pointer p1)) rfl ?_)
      obtain ⟨A24, e25, hS⟩ := hS
      refine Run.go rfl rfl rfl (sem_nilCheck A24 (congrArg Value.pointer e25) ?_)
      refine Run.go rfl rfl rfl (sem_fieldAddr A24 0 rfl TF.fld_122_0 ?_)
      refine Run.ldSl hS fun a26 n27 c28 h29 hl hS => ?_
      refine Run.go rfl rfl rfl (sem_load1 A24 ((Value.slice a26 n27 c28)) rfl TF.agg_120 hl ?_)
      refine Run.go rfl rfl rfl (sem_move ((Value.int .i64 (i7))) rfl ?_)
      refine Run.go rfl rfl rfl (sem_move ((Value.int .i64 (i3))) rfl ?_)
      obtain ⟨A30, e31, hi0, hi1, hS⟩ := hS
      refine Run.go rfl rfl rfl (sem_indexAddrS A30 n27 c28 .i64 (i7) (congrArg (fun a => Value.slice a n27 c28) e31) rfl TF.slc_120 hi0 hi1 ?_)
      refine Run.go rfl rfl rfl (sem_fieldAddr (Addr.add A30 (Int.toNat (i7) * 2)) 1 rfl TF.fld_163_1 ?_)
      obtain ⟨h32, hst, hS⟩ := hS
      refine Run.go rfl rfl rfl (sem_store1 (Addr.add (Addr.add A30 (Int.toNat (i7) * 2)) 1) ((Value.int .i64 (i3))) h32 rfl rfl rfl TF.sz_3 hst ?_)
      refine Run.region_end ?_
      refine Run.seq ?_
      refine Run.ops0 (idx := [0]) rfl ?_
      refine Run.go rfl rfl rfl (sem_assign ((Value.bool true)) rfl ?_)
      refine Run.region_end ?_
      refine Run.ret ⟨.inr rfl, ?_⟩
      exact hS.imp fun h' hq => ⟨(true), rfl, hq⟩
set_option maxHeartbeats 4000000 in
theorem C_draft_Draft_int_Len.of {B : RO} {p1 : Option Addr} {h : Heap} {Q : Int → Heap → Prop} (hS : S_draft_Draft_int_Len B p1 h Q) : C_draft_Draft_int_Len B p1 h Q := by
  unfold S_draft_Draft_int_Len at hS
  unfold C_draft_Draft_int_Len
  refine Spec.of_run Try.func66 (N := 10) (rs := [ResultVar.tmp 2]) rfl rfl rfl (Nat.le_of_ble_eq_true rfl) ?_
  refine Run.seq ?_
  refine Run.ops0 (idx := [0]) rfl ?_
  refine Run.go rfl rfl rfl (sem_assign ((Value.int .i64 (0))) rfl ?_)
  refine Run.region_end ?_
  refine Run.seq ?_
  refine Run.seq ?_
  refine Run.ops0 (idx := [0, 1]) rfl ?_
  refine Run.go rfl rfl rfl (sem_move ((Value.pointer p1)) rfl ?_)
  obtain ⟨hT, hF⟩ := hS
  by_cases hb3 : p1 = none
  · have hS := hT hb3; clear hT hF
    refine Run.go rfl rfl rfl (sem_ptrNilT p1 (.inl rfl) true rfl rfl TF.ptr_119 hb3 rfl ?_)
    refine Run.region_end ?_
    refine Run.condT rfl ?_
    refine Run.seq ?_
    refine Run.ops0 (idx := [0]) rfl ?_
    refine Run.go rfl rfl rfl (sem_assign ((Value.int .i64 (0))) rfl ?_)
    refine Run.region_end ?_
    refine Run.ret ⟨.inr rfl, ?_⟩
    exact hS.imp fun h' hq => ⟨(0), rfl, hq⟩
  · have hS := hF hb3; clear hT hF
    refine Run.go rfl rfl rfl (sem_ptrNilF p1 (.inl rfl) false rfl rfl TF.ptr_119 hb3 rfl ?_)
    refine Run.region_end ?_
    refine Run.condF rfl ?_
    refine Run.skip ?_
    refine Run.seq ?_
    refine Run.ops0 (idx := [0, 1, 2, 3, 4, 5]) rfl ?_
    refine Run.go rfl rfl rfl (sem_move ((Value.pointer p1)) rfl ?_)
    obtain ⟨A4, e5, hS⟩ := hS
    refine Run.go rfl rfl rfl (sem_nilCheck A4 (congrArg Value.pointer e5) ?_)
    refine Run.go rfl rfl rfl (sem_fieldAddr A4 0 rfl TF.fld_122_0 ?_)
    refine Run.ldSl hS fun a6 n7 c8 h9 hl hS => ?_
    refine Run.go rfl rfl rfl (sem_load1 A4 ((Value.slice a6 n7 c8)) rfl TF.agg_120 hl ?_)
    refine Run.go rfl rfl rfl (sem_lenSl a6 n7 c8 rfl TF.sl_120 ?_)
    refine Run.go rfl rfl rfl (sem_assign ((Value.int .i64 ((n7 : Nat)))) rfl ?_)
    refine Run.region_end ?_
    refine Run.ret ⟨.inr rfl, ?_⟩
    exact hS.imp fun h' hq => ⟨((n7 : Nat)), rfl, hq⟩
set_option maxHeartbeats 4000000 in
theorem C_draft_Draft_int_All.of {B : RO} {p1 : Option Addr} {h : Heap} {Q : Value → Heap → Prop} (hS : S_draft_Draft_int_All B p1 h Q) : C_draft_Draft_int_All B p1 h Q := by
  unfold S_draft_Draft_int_All at hS
  unfold C_draft_Draft_int_All
  refine Spec.of_run Try.func67 (N := 4) (rs := [ResultVar.tmp 2]) rfl rfl rfl (Nat.le_of_ble_eq_true rfl) ?_
  refine Run.seq ?_
  refine Run.ops0 (idx := [0, 1]) rfl ?_
  refine Run.go rfl rfl rfl (sem_box1N ((Value.pointer p1)) rfl rfl (fun k3 hb1 hb2 h4 hb3 => ?_))
  have hS := hS k3 hb1 hb2 h4 hb3
  refine Run.go rfl rfl rfl (sem_assign (Value.nilFunc) rfl ?_)
  refine Run.region_end ?_
  refine Run.seq ?_
  refine Run.ops0 (idx := [0, 1]) rfl ?_
  refine Run.go rfl rfl rfl (sem_makeFuncL [] [(Value.pointer (some ⟨k3, 0, none⟩))] rfl rfl ?_)
  refine Run.go rfl rfl rfl (sem_assign ((Value.func (.func 95) #[] #[(Value.pointer (some ⟨k3, 0, none⟩))])) rfl ?_)
  refine Run.region_end ?_
  refine Run.ret ⟨.inr rfl, ?_⟩
  exact hS.imp fun h' hq => ⟨(Value.func (.func 95) #[] #[(Value.pointer (some ⟨k3, 0, none⟩))]), rfl, hq⟩
set_option maxHeartbeats 4000000 in
theorem C_draft_Draft_int_Get.of {B : RO} {p1 : Option Addr} {i2 : Int} {h : Heap} {Q : Int → Bool → Heap → Prop} (hS : S_draft_Draft_int_Get B p1 i2 h Q) : C_draft_Draft_int_Get B p1 i2 h Q := by
  unfold S_draft_Draft_int_Get at hS
  unfold C_draft_Draft_int_Get
  refine Spec.of_run Try.func68 (N := 29) (rs := [ResultVar.tmp 4, ResultVar.tmp 5]) rfl rfl rfl (Nat.le_of_ble_eq_true rfl) ?_
  refine Run.seq ?_
  refine Run.ops0 (idx := [0, 1]) rfl ?_
  refine Run.go rfl rfl rfl (sem_assign ((Value.int .i64 (0))) rfl ?_)
  refine Run.go rfl rfl rfl (sem_assign ((Value.bool false)) rfl ?_)
  refine Run.region_end ?_
  refine Run.seq ?_
  refine Run.ops0 (idx := [0]) rfl ?_
  refine Run.go rfl rfl rfl (sem_assign ((Value.int .i64 (0))) rfl ?_)
  refine Run.region_end ?_
  refine Run.seq ?_
  refine Run.seq ?_
  refine Run.ops0 (idx := [0, 1]) rfl ?_
  refine Run.go rfl rfl rfl (sem_move ((Value.pointer p1)) rfl ?_)
  obtain ⟨hT, hF⟩ := hS
  by_cases hb5 : p1 = none
  · have hS := hT hb5; clear hT hF
    refine Run.go rfl rfl rfl (sem_ptrNilT p1 (.inl rfl) true rfl rfl TF.ptr_119 hb5 rfl ?_)
    refine Run.region_end ?_
    refine Run.condT rfl ?_
    refine Run.seq ?_
    refine Run.ops0 (idx := [0, 1, 2]) rfl ?_
    refine Run.go rfl rfl rfl (sem_move ((Value.int .i64 (0))) rfl ?_)
    refine Run.go rfl rfl rfl (sem_assign ((Value.int .i64 (0))) rfl ?_)
    refine Run.go rfl rfl rfl (sem_assign ((Value.bool false)) rfl ?_)
    refine Run.region_end ?_
    refine Run.ret ⟨.inr rfl, ?_⟩
    exact hS.imp fun h' hq => ⟨(0), (false), rfl, hq⟩
  · have hS := hF hb5; clear hT hF
    refine Run.go rfl rfl rfl (sem_ptrNilF p1 (.inl rfl) false rfl rfl TF.ptr_119 hb5 rfl ?_)
    refine Run.region_end ?_
    refine Run.condF rfl ?_
    refine Run.skip ?_
    refine Run.seq ?_
    refine Run.ops0 (idx := [0, 1, 2, 3, 4, 5, 6, 7]) rfl ?_
    refine Run.go rfl rfl rfl (sem_move ((Value.pointer p1)) rfl ?_)
    refine Run.go rfl rfl rfl (sem_move ((Value.int .i64 (i2))) rfl ?_)
    refine Run.go rfl rfl rfl (sem_callL [(Value.pointer p1), (Value.int .i64 (i2))] (TF.goes_93) rfl rfl (Spec.mono hS fun v h6 hv => ?_))
    obtain ⟨i7, b8, rfl, hS⟩ := hv
    refine Run.go rfl rfl rfl (sem_move ((Value.tuple #[(Value.int .i64 (i7)), (Value.bool b8)])) rfl ?_)
    refine Run.go rfl rfl rfl (sem_extract #[(Value.int .i64 (i7)), (Value.bool b8)] ((Value.int .i64 (i7))) rfl rfl ?_)
    obtain ⟨hT, hF⟩ := hS
    cases b8
    · have hS := hF rfl; clear hT hF
      refine Run.go rfl rfl rfl (sem_extract #[(Value.int .i64 (i7)), (Value.bool false)] (.bool false) rfl rfl ?_)
      refine Run.go rfl rfl rfl (sem_assign ((Value.int .i64 (i7))) rfl ?_)
      refine Run.go rfl rfl rfl (sem_assign ((Value.bool false)) rfl ?_)
      refine Run.region_end ?_
      refine Run.seq ?_
      refine Run.seq ?_
      refine Run.ops0 (idx := [0, 1]) rfl ?_
      refine Run.go rfl rfl rfl (sem_move ((Value.bool false)) rfl ?_)
      refine Run.go rfl rfl rfl (sem_not false rfl ?_)
      refine Run.region_end ?_
      refine Run.condT rfl ?_
      refine Run.seq ?_
      refine Run.ops0 (idx := [0, 1, 2]) rfl ?_
      refine Run.go rfl rfl rfl (sem_move ((Value.int .i64 (0))) rfl ?_)
      refine Run.go rfl rfl rfl (sem_assign ((Value.int .i64 (0))) rfl ?_)
      refine Run.go rfl rfl rfl (sem_assign ((Value.bool false)) rfl ?_)
      refine Run.region_end ?_
      refine Run.ret ⟨.inr rfl, ?_⟩
      exact hS.imp fun h' hq => ⟨(0), (false), rfl, hq⟩
    · have hS := hT rfl; clear hT hF
      refine Run.go rfl rfl rfl (sem_extract #[(Value.int .i64 (i7)), (Value.bool true)] (.bool true) rfl rfl ?_)
      refine Run.go rfl rfl rfl (sem_assign ((Value.int .i64 (i7))) rfl ?_)
      refine Run.go rfl rfl rfl (sem_assign ((Value.bool true)) rfl ?_)
      refine Run.region_end ?_
      refine Run.seq ?_
      refine Run.seq ?_
      refine Run.ops0 (idx := [0, 1]) rfl ?_
      refine Run.go rfl rfl rfl (sem_move ((Value.bool true)) rfl ?_)
      refine Run.go rfl rfl rfl (sem_not true rfl ?_)
      refine Run.region_end ?_
      refine Run.condF rfl ?_
      refine Run.skip ?_
      refine Run.seq ?_
      refine Run.ops0 (idx := [0, 1, 2, 3, 4, 5, 6, 7, 8, 9]) rfl ?_
      refine Run.go rfl rfl rfl (sem_move ((Value.pointer p1)) rfl ?_)
      obtain ⟨A9, e10, hS⟩ := hS
      refine Run.go rfl rfl rfl (sem_nilCheck A9 (congrArg Value.pointer e10) ?_)
      refine Run.go rfl rfl rfl (sem_fieldAddr A9 0 rfl TF.fld_122_0 ?_)
      refine Run.ldSl hS fun a11 n12 c13 h14 hl hS => ?_
      refine Run.go rfl rfl rfl (sem_load1 A9 ((Value.slice a11 n12 c13)) rfl TF.agg_120 hl ?_)
      refine Run.go rfl rfl rfl (sem_move ((Value.int .i64 (i7))) rfl ?_)
      obtain ⟨A15, e16, hi0, hi1, hS⟩ := hS
      refine Run.go rfl rfl rfl (sem_indexAddrS A15 n12 c13 .i64 (i7) (congrArg (fun a => Value.slice a n12 c13) e16) rfl TF.slc_120 hi0 hi1 ?_)
      refine Run.go rfl rfl rfl (sem_fieldAddr (Addr.add A15 (Int.toNat (i7) * 2)) 1 rfl TF.fld_163_1 ?_)
      obtain ⟨i17, hl, hS⟩ := hS
      refine Run.go rfl rfl rfl (sem_load1 (Addr.add (Addr.add A15 (Int.toNat (i7) * 2)) 1) ((Value.int .i64 (i17))) rfl TF.agg_3 hl ?_)
      refine Run.go rfl rfl rfl (sem_assign ((Value.int .i64 (i17))) rfl ?_)
      refine Run.go rfl rfl rfl (sem_assign ((Value.bool true)) rfl ?_)
      refine Run.region_end ?_
      refine Run.ret ⟨.inr rfl, ?_⟩
      exact hS.imp fun h' hq => ⟨(i17), (true), rfl, hq⟩
set_option maxHeartbeats 4000000 in
theorem C_draft_Draft_int_Copy.of {B : RO} {p1 : Option Addr} {h : Heap} {Q : Option Addr → Heap → Prop} (hS : S_draft_Draft_int_Copy B p1 h Q) : C_draft_Draft_int_Copy B p1 h Q := by
  unfold S_draft_Draft_int_Copy at hS
  unfold C_draft_Draft_int_Copy
  refine Spec.of_run Try.func69 (N := 12) (rs := [ResultVar.tmp 2]) rfl rfl rfl (Nat.le_of_ble_eq_true rfl) ?_
  refine Run.seq ?_
  refine Run.ops0 (idx := [0]) rfl ?_
  refine Run.go rfl rfl rfl (sem_assign ((Value.pointer none)) rfl ?_)
  refine Run.region_end ?_
  refine Run.seq ?_
  refine Run.seq ?_
  refine Run.ops0 (idx := [0, 1]) rfl ?_
  refine Run.go rfl rfl rfl (sem_move ((Value.pointer p1)) rfl ?_)
  obtain ⟨hT, hF⟩ := hS
  by_cases hb3 : p1 = none
  · have hS := hT hb3; clear hT hF
    refine Run.go rfl rfl rfl (sem_ptrNilT p1 (.inl rfl) true rfl rfl TF.ptr_119 hb3 rfl ?_)
    refine Run.region_end ?_
    refine Run.condT rfl ?_
    refine Run.seq ?_
    refine Run.ops0 (idx := [0]) rfl ?_
    refine Run.go rfl rfl rfl (sem_assign ((Value.pointer none)) rfl ?_)
    refine Run.region_end ?_
    refine Run.ret ⟨.inr rfl, ?_⟩
    exact hS.imp fun h' hq => ⟨none, rfl, hq⟩
  · have hS := hF hb3; clear hT hF
    refine Run.go rfl rfl rfl (sem_ptrNilF p1 (.inl rfl) false rfl rfl TF.ptr_119 hb3 rfl ?_)
    refine Run.region_end ?_
    refine Run.condF rfl ?_
    refine Run.skip ?_
    refine Run.seq ?_
    refine Run.ops0 (idx := [0, 1, 2, 3, 4, 5, 6, 7]) rfl ?_
    refine Run.go rfl rfl rfl (sem_move ((Value.pointer p1)) rfl ?_)
    obtain ⟨A4, e5, hS⟩ := hS
    refine Run.go rfl rfl rfl (sem_nilCheck A4 (congrArg Value.pointer e5) ?_)
    refine Run.go rfl rfl rfl (sem_fieldAddr A4 0 rfl TF.fld_122_0 ?_)
    refine Run.ldSl hS fun a6 n7 c8 h9 hl hS => ?_
    refine Run.go rfl rfl rfl (sem_load1 A4 ((Value.slice a6 n7 c8)) rfl TF.agg_120 hl ?_)
    refine Run.go rfl rfl rfl (sem_callL [(Value.slice a6 n7 c8)] (TF.goes_96) rfl rfl (Spec.mono hS fun v h10 hv => ?_))
    obtain ⟨a11, n12, c13, rfl, hS⟩ := hv
    refine Run.go rfl rfl rfl (sem_buildSL [(0, (Value.slice a11 n12 c13))] [(Value.slice a11 n12 c13)] TF.zero_122 TF.places_122 rfl rfl ?_)
    refine Run.go rfl rfl rfl (sem_boxNN [(Value.slice a11 n12 c13)] rfl (fun k14 hb1 hb2 h15 hb3 => ?_))
    have hS := hS k14 hb1 hb2 h15 hb3
    refine Run.go rfl rfl rfl (sem_assign ((Value.pointer (some ⟨k14, 0, none⟩))) rfl ?_)
    refine Run.region_end ?_
    refine Run.ret ⟨.inr rfl, ?_⟩
    exact hS.imp fun h' hq => ⟨(some ⟨k14, 0, none⟩), rfl, hq⟩
end Go.Proofs.Ytoajfmmomgpjcaa.H
