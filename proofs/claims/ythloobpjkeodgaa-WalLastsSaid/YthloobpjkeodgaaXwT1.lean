/- The functions do what they ask for. No condition. -/
import Derived.Test.YthloobpjkeodgaaXwS
namespace Go.Proofs.Ythloobpjkeodgaa.H
open Go
set_option linter.unusedVariables false
set_option maxRecDepth 100000

set_option maxHeartbeats 4000000 in
theorem C_countermandlaw04_WalStops.of {B : RO} {a1 : Option Addr} {n2 : Nat} {c3 : Nat} {i4 : Int} {h : Heap} {Q : Bool → Heap → Prop} (hS : S_countermandlaw04_WalStops B a1 n2 c3 i4 h Q) : C_countermandlaw04_WalStops B a1 n2 c3 i4 h Q := by
 unfold S_countermandlaw04_WalStops at hS
 unfold C_countermandlaw04_WalStops
 refine Spec.of_run Try.func4 (N := 62) (rs := [ResultVar.cell 4 4]) rfl rfl rfl (Nat.le_of_ble_eq_true rfl) ?_
 refine Run.seq ?_
 refine Run.ops0 (idx := [0, 1]) rfl ?_
 refine Run.go rfl rfl rfl (sem_box1N ((Value.int .i64 (i4))) rfl rfl (fun k6 hb1 hb2 h7 hb3 => ?_))
 have hS := hS k6 hb1 hb2 h7 hb3
 refine Run.go rfl rfl rfl (sem_allocN [(Value.bool false)] TF.zero_4 (fun k8 hb1 hb2 h9 hb3 => ?_))
 have hS := hS k8 hb1 hb2 h9 hb3
 refine Run.region_end ?_
 refine Run.seq ?_
 refine Run.seq ?_
 refine Run.ops0 (idx := [0, 1]) rfl ?_
 refine Run.go rfl rfl rfl (sem_callL [] (TF.goes_34) rfl rfl (Spec.mono hS fun v h10 hv => ?_))
 obtain ⟨b11, rfl, hS⟩ := hv
 obtain ⟨hT, hF⟩ := hS
 cases b11
 ·have hS := hF rfl; clear hT hF
  refine Run.go rfl rfl rfl (sem_not false rfl ?_)
  refine Run.region_end ?_
  refine Run.condT rfl ?_
  refine Run.seq ?_
  refine Run.ops0 (idx := [0]) rfl ?_
  obtain ⟨h12, hst, hS⟩ := hS
  refine Run.go rfl rfl rfl (sem_store1 ⟨k8, 0, none⟩ ((Value.bool false)) h12 rfl rfl rfl TF.sz_4 hst ?_)
  refine Run.region_end ?_
  obtain ⟨b13, hl0, hS⟩ := hS
  refine Run.ret ⟨.inr rfl, ?_⟩
  exact ⟨⟨k8, 0, none⟩, (Value.bool b13), rfl, loadH1 TF.agg_4 hl0, hS.imp fun h' hq => ⟨(b13), rfl, hq⟩⟩
 ·have hS := hT rfl; clear hT hF
  refine Run.go rfl rfl rfl (sem_not true rfl ?_)
  refine Run.region_end ?_
  refine Run.condF rfl ?_
  refine Run.skip ?_
  refine Run.seq ?_
  refine Run.seq ?_
  refine Run.ops0 (idx := [0, 1]) rfl ?_
  refine Run.go rfl rfl rfl (sem_move ((Value.slice a1 n2 c3)) rfl ?_)
  refine Run.go rfl rfl rfl (sem_callL [(Value.slice a1 n2 c3)] (TF.goes_35) rfl rfl (Spec.mono hS fun v h14 hv => ?_))
  obtain ⟨b15, rfl, hS⟩ := hv
  obtain ⟨hT, hF⟩ := hS
  cases b15
  ·have hS := hF rfl; clear hT hF
   refine Run.region_end ?_
   refine Run.condF rfl ?_
   refine Run.skip ?_
   refine Run.seq ?_
   refine Run.ops0 (idx := [0, 1, 2, 3, 4, 5, 6]) rfl ?_
   refine Run.go rfl rfl rfl (sem_callL [] (TF.goes_37) rfl rfl (Spec.mono hS fun v h16 hv => ?_))
   obtain ⟨p17, rfl, hS⟩ := hv
   refine Run.go rfl rfl rfl (sem_callL [(Value.pointer p17), (Value.int .i64 (1))] (TF.goes_36) rfl rfl (Spec.mono hS fun v h18 hv => ?_))
   obtain ⟨p19, i20, rfl, hS⟩ := hv
   refine Run.go rfl rfl rfl (sem_move ((Value.tuple #[(Value.pointer p19), (Value.int .i64 (i20))])) rfl ?_)
   refine Run.go rfl rfl rfl (sem_extract #[(Value.pointer p19), (Value.int .i64 (i20))] ((Value.pointer p19)) rfl rfl ?_)
   refine Run.go rfl rfl rfl (sem_extract #[(Value.pointer p19), (Value.int .i64 (i20))] ((Value.int .i64 (i20))) rfl rfl ?_)
   refine Run.go rfl rfl rfl (sem_assign ((Value.pointer p19)) rfl ?_)
   refine Run.go rfl rfl rfl (sem_assign ((Value.int .i64 (i20))) rfl ?_)
   refine Run.region_end ?_
   refine Run.seqJ (fun e h22 => Agree [(3, (Value.pointer (some ⟨k6, 0, none⟩))), (4, (Value.pointer (some ⟨k8, 0, none⟩))), (5, (Value.pointer p19))] e ∧ S_countermandlaw04_WalStops_J1 B k6 k8 p19 h22 Q) ?_ fun j21 => ?_
   ·rintro e h22 ⟨hag, hS⟩
    refine Run.env hag ?_; clear hag
    refine Run.seq ?_
    refine Run.ops0 (idx := [0, 1, 2, 3]) rfl ?_
    refine Run.go rfl rfl rfl (sem_move ((Value.pointer p19)) rfl ?_)
    refine Run.go rfl rfl rfl (sem_callL [(Value.pointer p19)] (TF.goes_39) rfl rfl (Spec.mono hS fun v h23 hv => ?_))
    obtain ⟨a24, n25, c26, rfl, hS⟩ := hv
    refine Run.go rfl rfl rfl (sem_allocN [(Value.slice none 0 0)] TF.zero_55 (fun k27 hb1 hb2 h28 hb3 => ?_))
    have hS := hS k27 hb1 hb2 h28 hb3
    obtain ⟨h29, hst, hS⟩ := hS
    refine Run.go rfl rfl rfl (sem_store1 ⟨k27, 0, none⟩ ((Value.slice a24 n25 c26)) h29 rfl rfl rfl TF.sz_55 hst ?_)
    refine Run.region_end ?_
    refine Run.seq ?_
    refine Run.ops0 (idx := [0, 1]) rfl ?_
    refine Run.go rfl rfl rfl (sem_allocN [(Value.int .i64 (0))] TF.zero_3 (fun k30 hb1 hb2 h31 hb3 => ?_))
    have hS := hS k30 hb1 hb2 h31 hb3
    obtain ⟨h32, hst, hS⟩ := hS
    refine Run.go rfl rfl rfl (sem_store1 ⟨k30, 0, none⟩ ((Value.int .i64 (0))) h32 rfl rfl rfl TF.sz_3 hst ?_)
    refine Run.region_end ?_
    refine Run.seqJ (fun e h34 => Agree [(3, (Value.pointer (some ⟨k6, 0, none⟩))), (4, (Value.pointer (some ⟨k8, 0, none⟩))), (9, (Value.pointer (some ⟨k27, 0, none⟩))), (10, (Value.pointer (some ⟨k30, 0, none⟩)))] e ∧ S_countermandlaw04_WalStops_J2 B k6 k8 k27 k30 h34 Q) ?_ fun j33 => ?_
    ·rintro e h34 ⟨hag, hS⟩
     refine Run.env hag ?_; clear hag
     refine Run.seq ?_
     refine Run.ops0 (idx := [0, 1, 2, 3, 4, 5, 6, 7, 8, 9]) rfl ?_
     obtain ⟨i35, hl, hS⟩ := hS
     refine Run.go rfl rfl rfl (sem_load1 ⟨k30, 0, none⟩ ((Value.int .i64 (i35))) rfl TF.agg_3 hl ?_)
     obtain ⟨i36, hl, hS⟩ := hS
     refine Run.go rfl rfl rfl (sem_load1 ⟨k6, 0, none⟩ ((Value.int .i64 (i36))) rfl TF.agg_3 hl ?_)
     obtain ⟨hT, hF⟩ := hS
     by_cases hb37 : (i35 : Int) = i36
     ·have hS := hT hb37; clear hT hF
      refine Run.go rfl rfl rfl (sem_binI .i64 (i35) (i36) (.bool true) rfl rfl (binI_eql_t hb37) ?_)
      refine Run.go rfl rfl rfl (sem_move ((Value.bool true)) rfl ?_)
      refine Run.no rfl rfl rfl ?_
      refine Run.no rfl rfl rfl ?_
      refine Run.no rfl rfl rfl ?_
      refine Run.no rfl rfl rfl ?_
      refine Run.go rfl rfl rfl (sem_pick true ((Value.bool true)) rfl rfl ?_)
      obtain ⟨h38, hst, hS⟩ := hS
      refine Run.go rfl rfl rfl (sem_store1 ⟨k8, 0, none⟩ ((Value.bool true)) h38 rfl rfl rfl TF.sz_4 hst ?_)
      refine Run.region_end ?_
      obtain ⟨b39, hl0, hS⟩ := hS
      refine Run.ret ⟨.inr rfl, ?_⟩
      exact ⟨⟨k8, 0, none⟩, (Value.bool b39), rfl, loadH1 TF.agg_4 hl0, hS.imp fun h' hq => ⟨(b39), rfl, hq⟩⟩
     ·have hS := hF hb37; clear hT hF
      refine Run.go rfl rfl rfl (sem_binI .i64 (i35) (i36) (.bool false) rfl rfl (binI_eql_f hb37) ?_)
      refine Run.go rfl rfl rfl (sem_move ((Value.bool false)) rfl ?_)
      obtain ⟨i40, hl, hS⟩ := hS
      refine Run.go rfl rfl rfl (sem_load1 ⟨k30, 0, none⟩ ((Value.int .i64 (i40))) rfl TF.agg_3 hl ?_)
      refine Run.ldSl hS fun a41 n42 c43 h44 hl hS => ?_
      refine Run.go rfl rfl rfl (sem_load1 ⟨k27, 0, none⟩ ((Value.slice a41 n42 c43)) rfl TF.agg_55 hl ?_)
      refine Run.go rfl rfl rfl (sem_lenSl a41 n42 c43 rfl TF.sl_55 ?_)
      refine Run.go rfl rfl rfl (sem_binI .i64 (i40) ((n42 : Nat)) ((Value.bool ((i40 : Int) == ((n42 : Nat))))) rfl rfl rfl ?_)
      refine Run.go rfl rfl rfl (sem_pick false ((Value.bool ((i40 : Int) == ((n42 : Nat))))) rfl rfl ?_)
      obtain ⟨h45, hst, hS⟩ := hS
      refine Run.go rfl rfl rfl (sem_store1 ⟨k8, 0, none⟩ ((Value.bool ((i40 : Int) == ((n42 : Nat))))) h45 rfl rfl rfl TF.sz_4 hst ?_)
      refine Run.region_end ?_
      obtain ⟨b46, hl0, hS⟩ := hS
      refine Run.ret ⟨.inr rfl, ?_⟩
      exact ⟨⟨k8, 0, none⟩, (Value.bool b46), rfl, loadH1 TF.agg_4 hl0, hS.imp fun h' hq => ⟨(b46), rfl, hq⟩⟩
    refine Run.seq ?_
    refine Run.ops0 (idx := [0, 1]) rfl ?_
    refine Run.go rfl rfl rfl (sem_move ((Value.pointer p19)) rfl ?_)
    refine Run.go rfl rfl rfl (sem_callL [(Value.pointer p19)] (TF.goes_40) rfl rfl (Spec.mono hS fun v48 h47 hv => ?_))
    obtain ⟨_, rfl, hS⟩ := hv
    refine Run.region_end ?_
    refine Run.block ?_
    obtain ⟨xs54, G50, J53, hit, hins, hG, h0, hS, hR⟩ := hS
    refine Run.of_fin (h0.imp fun h' h0 => ?_)
    refine Run.range (v48) (xs54.map (fun x : ByteArray => [(Value.string x)])) G50 J53 rfl hit hins hG h0 rfl (fun a ha => by obtain ⟨x, _, rfl⟩ := List.mem_map.1 ha; rfl) ?_ ?_
    ·rintro q52 args h51 ha hJ
     obtain ⟨s49, hx, rfl⟩ := Option.map_eq_some_iff.1 ((List.getElem?_map ..).symm.trans ha)
     have hS := hS q52 h51 s49 hx hJ; clear hJ hx ha
     refine Run.ops0 (idx := [0]) rfl ?_
     refine Run.go rfl rfl rfl (sem_assign ((Value.string s49)) rfl ?_)
     refine Run.region_end ?_
     refine Run.begin ⟨rfl, ?_⟩
     refine Run.block ?_
     refine Run.seq ?_
     refine Run.seqJ (fun e h57 => ∃ b56 : Bool, Agree [(3, (Value.pointer (some ⟨k6, 0, none⟩))), (4, (Value.pointer (some ⟨k8, 0, none⟩))), (10, (Value.pointer (some ⟨k30, 0, none⟩))), (47, (Value.bool b56))] e ∧ S_countermandlaw04_WalStops_J3 B k6 k8 k27 k30 q52 J53 b56 h57 Q) ?_ fun j55 => ?_
     ·rintro e h57 ⟨b56, hag, hS⟩
      refine Run.env hag ?_; clear hag
      obtain ⟨hT, hF⟩ := hS
      cases b56
      ·have hS := hF rfl; clear hT hF
       refine Run.condF rfl ?_
       refine Run.skip ?_
       refine Run.seq ?_
       refine Run.ops0 (idx := [0, 1, 2]) rfl ?_
       obtain ⟨i58, hl, hS⟩ := hS
       refine Run.go rfl rfl rfl (sem_load1 ⟨k30, 0, none⟩ ((Value.int .i64 (i58))) rfl TF.agg_3 hl ?_)
       refine Run.go rfl rfl rfl (sem_binI .i64 (i58) (1) ((Value.int .i64 (IntKind.wrap .i64 ((i58) + (1))))) rfl rfl rfl ?_)
       obtain ⟨h59, hst, hS⟩ := hS
       refine Run.go rfl rfl rfl (sem_store1 ⟨k30, 0, none⟩ ((Value.int .i64 (IntKind.wrap .i64 ((i58) + (1))))) h59 rfl rfl rfl TF.sz_3 hst ?_)
       refine Run.region_end ?_
       refine Run.seq ?_
       refine Run.ops0 (idx := [0, 1, 2]) rfl ?_
       obtain ⟨i60, hl, hS⟩ := hS
       refine Run.go rfl rfl rfl (sem_load1 ⟨k30, 0, none⟩ ((Value.int .i64 (i60))) rfl TF.agg_3 hl ?_)
       obtain ⟨i61, hl, hS⟩ := hS
       refine Run.go rfl rfl rfl (sem_load1 ⟨k6, 0, none⟩ ((Value.int .i64 (i61))) rfl TF.agg_3 hl ?_)
       obtain ⟨hT, hF⟩ := hS
       by_cases hb62 : (i60 : Int) = i61
       ·have hS := hT hb62; clear hT hF
        refine Run.go rfl rfl rfl (sem_binI .i64 (i60) (i61) (.bool true) rfl rfl (binI_eql_t hb62) ?_)
        refine Run.region_end ?_
        refine Run.condT rfl ?_
        refine Run.out rfl (.inr ⟨_, rfl, ?_⟩)
        refine Run.exit rfl ?_
        exact Run.of_fin (hS.imp fun h' hS => j33 _ _ ⟨⟨rfl, rfl, rfl, rfl, trivial⟩, hS⟩)
       ·have hS := hF hb62; clear hT hF
        refine Run.go rfl rfl rfl (sem_binI .i64 (i60) (i61) (.bool false) rfl rfl (binI_eql_f hb62) ?_)
        refine Run.region_end ?_
        refine Run.condF rfl ?_
        refine Run.skip ?_
        refine Run.inBlock ?_
        refine Run.of_fin (hS.imp fun h' hS => ?_)
        exact Run.fall (.inl ⟨rfl, hS⟩)
      ·have hS := hT rfl; clear hT hF
       refine Run.condT rfl ?_
       refine Run.seq ?_
       refine Run.ops0 (idx := [0]) rfl ?_
       obtain ⟨h63, hst, hS⟩ := hS
       refine Run.go rfl rfl rfl (sem_store1 ⟨k8, 0, none⟩ ((Value.bool false)) h63 rfl rfl rfl TF.sz_4 hst ?_)
       refine Run.region_end ?_
       refine Run.ret (.inr ⟨_, rfl, ?_⟩)
       obtain ⟨b64, hl0, hS⟩ := hS
       refine Run.ret ⟨.inr rfl, ?_⟩
       exact ⟨⟨k8, 0, none⟩, (Value.bool b64), rfl, loadH1 TF.agg_4 hl0, hS.imp fun h' hq => ⟨(b64), rfl, hq⟩⟩
     refine Run.ops0 (idx := [0, 1, 2, 3, 4, 5, 6, 7, 8, 9, 10, 11]) rfl ?_
     obtain ⟨i65, hl, hS⟩ := hS
     refine Run.go rfl rfl rfl (sem_load1 ⟨k30, 0, none⟩ ((Value.int .i64 (i65))) rfl TF.agg_3 hl ?_)
     refine Run.ldSl hS fun a66 n67 c68 h69 hl hS => ?_
     refine Run.go rfl rfl rfl (sem_load1 ⟨k27, 0, none⟩ ((Value.slice a66 n67 c68)) rfl TF.agg_55 hl ?_)
     refine Run.go rfl rfl rfl (sem_lenSl a66 n67 c68 rfl TF.sl_55 ?_)
     obtain ⟨hT, hF⟩ := hS
     by_cases hb70 : (i65 : Int) ≥ ((n67 : Nat))
     ·have hS := hT hb70; clear hT hF
      refine Run.go rfl rfl rfl (sem_binI .i64 (i65) ((n67 : Nat)) (.bool true) rfl rfl (binI_geq_t hb70) ?_)
      refine Run.go rfl rfl rfl (sem_move ((Value.bool true)) rfl ?_)
      refine Run.no rfl rfl rfl ?_
      refine Run.no rfl rfl rfl ?_
      refine Run.no rfl rfl rfl ?_
      refine Run.no rfl rfl rfl ?_
      refine Run.no rfl rfl rfl ?_
      refine Run.no rfl rfl rfl ?_
      refine Run.go rfl rfl rfl (sem_pick true ((Value.bool true)) rfl rfl ?_)
      refine Run.region_end ?_
      exact Run.of_fin (hS.imp fun h' hS => j55 _ _ ⟨(true), ⟨rfl, rfl, rfl, rfl, trivial⟩, hS⟩)
     ·have hS := hF hb70; clear hT hF
      refine Run.go rfl rfl rfl (sem_binI .i64 (i65) ((n67 : Nat)) (.bool false) rfl rfl (binI_geq_f hb70) ?_)
      refine Run.go rfl rfl rfl (sem_move ((Value.bool false)) rfl ?_)
      refine Run.go rfl rfl rfl (sem_move ((Value.string s49)) rfl ?_)
      refine Run.ldSl hS fun a71 n72 c73 h74 hl hS => ?_
      refine Run.go rfl rfl rfl (sem_load1 ⟨k27, 0, none⟩ ((Value.slice a71 n72 c73)) rfl TF.agg_55 hl ?_)
      obtain ⟨i75, hl, hS⟩ := hS
      refine Run.go rfl rfl rfl (sem_load1 ⟨k30, 0, none⟩ ((Value.int .i64 (i75))) rfl TF.agg_3 hl ?_)
      obtain ⟨A76, e77, hi0, hi1, hS⟩ := hS
      refine Run.go rfl rfl rfl (sem_indexAddrS A76 n72 c73 .i64 (i75) (congrArg (fun a => Value.slice a n72 c73) e77) rfl TF.slc_55 hi0 hi1 ?_)
      obtain ⟨s78, hl, hS⟩ := hS
      refine Run.go rfl rfl rfl (sem_load1 (Addr.add A76 (Int.toNat (i75) * 1)) ((Value.string s78)) rfl TF.agg_9 hl ?_)
      obtain ⟨hT, hF⟩ := hS
      by_cases hb79 : s49 = s78
      ·have hS := hT hb79; clear hT hF
       refine Run.go rfl rfl rfl (sem_strNeT s49 s78 rfl rfl hb79 ?_)
       refine Run.go rfl rfl rfl (sem_pick false ((Value.bool false)) rfl rfl ?_)
       refine Run.region_end ?_
       exact Run.of_fin (hS.imp fun h' hS => j55 _ _ ⟨(false), ⟨rfl, rfl, rfl, rfl, trivial⟩, hS⟩)
      ·have hS := hF hb79; clear hT hF
       refine Run.go rfl rfl rfl (sem_strNeF s49 s78 rfl rfl hb79 ?_)
       refine Run.go rfl rfl rfl (sem_pick false ((Value.bool true)) rfl rfl ?_)
       refine Run.region_end ?_
       exact Run.of_fin (hS.imp fun h' hS => j55 _ _ ⟨(true), ⟨rfl, rfl, rfl, rfl, trivial⟩, hS⟩)
    ·intro h51 hJ
     have hS := hR h51 (by simpa using hJ); clear hJ hR
     refine Run.inBlock ?_
     exact Run.of_fin (hS.imp fun h' hS => j33 _ _ ⟨⟨rfl, rfl, rfl, rfl, trivial⟩, hS⟩)
   refine Run.seq ?_
   refine Run.ops0 (idx := [0, 1, 2]) rfl ?_
   refine Run.go rfl rfl rfl (sem_move ((Value.slice a1 n2 c3)) rfl ?_)
   refine Run.go rfl rfl rfl (sem_lenSl a1 n2 c3 rfl TF.sl_55 ?_)
   refine Run.go rfl rfl rfl (sem_move ((Value.int .i64 (0))) rfl ?_)
   refine Run.region_end ?_
   refine Run.block ?_
   obtain ⟨J85, m83, h0, hS⟩ := hS
   refine Run.of_fin (h0.imp fun h' h0 => ?_)
   refine Run.loop (σ := Int × Nat) (fun x e h => J85 x.1 x.2 h ∧ Agree [(3, (Value.pointer (some ⟨k6, 0, none⟩))), (4, (Value.pointer (some ⟨k8, 0, none⟩))), (5, (Value.pointer p19)), (21, (Value.slice a1 n2 c3)), (22, (Value.int .i64 ((n2 : Nat)))), (23, (Value.int .i64 (x.1)))] e) (fun x => x.2) ((0), m83) ⟨h0, ⟨rfl, rfl, rfl, rfl, rfl, rfl, trivial⟩⟩ ?_; clear h0
   rintro ⟨i80, m82⟩ e h81 ⟨hJ, hag⟩ ih84
   have hS := hS i80 m82 h81 hJ; clear hJ
   refine Run.env hag ?_; clear hag
   refine Run.seq ?_
   refine Run.ops0 (idx := [0]) rfl ?_
   obtain ⟨hT, hF⟩ := hS
   by_cases hb86 : (i80 : Int) < ((n2 : Nat))
   ·have hS := hT hb86; clear hT hF
    refine Run.go rfl rfl rfl (sem_binI .i64 (i80) ((n2 : Nat)) (.bool true) rfl rfl (binI_lss_t hb86) ?_)
    refine Run.region_end ?_
    refine Run.seq ?_
    refine Run.condT rfl ?_
    refine Run.skip ?_
    refine Run.seq ?_
    refine Run.block ?_
    refine Run.seq ?_
    refine Run.ops0 (idx := [0, 1, 2]) rfl ?_
    obtain ⟨A87, e88, hi0, hi1, hS⟩ := hS
    refine Run.go rfl rfl rfl (sem_indexAddrS A87 n2 c3 .i64 (i80) (congrArg (fun a => Value.slice a n2 c3) e88) rfl TF.slc_55 hi0 hi1 ?_)
    obtain ⟨s89, hl, hS⟩ := hS
    refine Run.go rfl rfl rfl (sem_load1 (Addr.add A87 (Int.toNat (i80) * 1)) ((Value.string s89)) rfl TF.agg_9 hl ?_)
    refine Run.go rfl rfl rfl (sem_assign ((Value.string s89)) rfl ?_)
    refine Run.region_end ?_
    refine Run.ops0 (idx := [0, 1, 2]) rfl ?_
    refine Run.go rfl rfl rfl (sem_move ((Value.pointer p19)) rfl ?_)
    refine Run.go rfl rfl rfl (sem_move ((Value.string s89)) rfl ?_)
    refine Run.go rfl rfl rfl (sem_callL [(Value.pointer p19), (Value.string s89)] (TF.goes_38) rfl rfl (Spec.mono hS fun v h90 hv => ?_))
    obtain ⟨i91, rfl, hS⟩ := hv
    refine Run.region_end ?_
    refine Run.inBlock ?_
    refine Run.ops0 (idx := [0, 1]) rfl ?_
    refine Run.go rfl rfl rfl (sem_binI .i64 (i80) (1) ((Value.int .i64 (IntKind.wrap .i64 ((i80) + (1))))) rfl rfl rfl ?_)
    refine Run.go rfl rfl rfl (sem_move ((Value.int .i64 (IntKind.wrap .i64 ((i80) + (1))))) rfl ?_)
    refine Run.region_end ?_
    exact Run.of_fin (hS.imp fun h' ⟨m', hm, hS⟩ => ih84 ((IntKind.wrap .i64 ((i80) + (1))), m') _ _ ⟨hS, ⟨rfl, rfl, rfl, rfl, rfl, rfl, trivial⟩⟩ hm)
   ·have hS := hF hb86; clear hT hF
    refine Run.go rfl rfl rfl (sem_binI .i64 (i80) ((n2 : Nat)) (.bool false) rfl rfl (binI_lss_f hb86) ?_)
    refine Run.region_end ?_
    refine Run.seq ?_
    refine Run.condF rfl ?_
    refine Run.exit rfl ?_
    exact Run.of_fin (hS.imp fun h' hS => j21 _ _ ⟨⟨rfl, rfl, rfl, trivial⟩, hS⟩)
  ·have hS := hT rfl; clear hT hF
   refine Run.region_end ?_
   refine Run.condT rfl ?_
   refine Run.seq ?_
   refine Run.ops0 (idx := [0]) rfl ?_
   obtain ⟨h92, hst, hS⟩ := hS
   refine Run.go rfl rfl rfl (sem_store1 ⟨k8, 0, none⟩ ((Value.bool true)) h92 rfl rfl rfl TF.sz_4 hst ?_)
   refine Run.region_end ?_
   obtain ⟨b93, hl0, hS⟩ := hS
   refine Run.ret ⟨.inr rfl, ?_⟩
   exact ⟨⟨k8, 0, none⟩, (Value.bool b93), rfl, loadH1 TF.agg_4 hl0, hS.imp fun h' hq => ⟨(b93), rfl, hq⟩⟩
set_option maxHeartbeats 4000000 in
theorem C_countermandlaw04_WalOther.of {B : RO} {a1 : Option Addr} {n2 : Nat} {c3 : Nat} {s4 : ByteArray} {h : Heap} {Q : Bool → Heap → Prop} (hS : S_countermandlaw04_WalOther B a1 n2 c3 s4 h Q) : C_countermandlaw04_WalOther B a1 n2 c3 s4 h Q := by
 unfold S_countermandlaw04_WalOther at hS
 unfold C_countermandlaw04_WalOther
 refine Spec.of_run Try.func5 (N := 76) (rs := [ResultVar.tmp 4]) rfl rfl rfl (Nat.le_of_ble_eq_true rfl) ?_
 refine Run.seq ?_
 refine Run.ops0 (idx := [0]) rfl ?_
 refine Run.go rfl rfl rfl (sem_assign ((Value.bool false)) rfl ?_)
 refine Run.region_end ?_
 refine Run.seq ?_
 refine Run.seq ?_
 refine Run.ops0 (idx := [0, 1]) rfl ?_
 refine Run.go rfl rfl rfl (sem_callL [] (TF.goes_34) rfl rfl (Spec.mono hS fun v h6 hv => ?_))
 obtain ⟨b7, rfl, hS⟩ := hv
 obtain ⟨hT, hF⟩ := hS
 cases b7
 ·have hS := hF rfl; clear hT hF
  refine Run.go rfl rfl rfl (sem_not false rfl ?_)
  refine Run.region_end ?_
  refine Run.condT rfl ?_
  refine Run.seq ?_
  refine Run.ops0 (idx := [0]) rfl ?_
  refine Run.go rfl rfl rfl (sem_assign ((Value.bool false)) rfl ?_)
  refine Run.region_end ?_
  refine Run.ret ⟨.inr rfl, ?_⟩
  exact hS.imp fun h' hq => ⟨(false), rfl, hq⟩
 ·have hS := hT rfl; clear hT hF
  refine Run.go rfl rfl rfl (sem_not true rfl ?_)
  refine Run.region_end ?_
  refine Run.condF rfl ?_
  refine Run.skip ?_
  refine Run.seqJ (fun e h9 => Agree [(0, (Value.slice a1 n2 c3)), (1, (Value.string s4))] e ∧ S_countermandlaw04_WalOther_J1 B a1 n2 c3 s4 h9 Q) ?_ fun j8 => ?_
  ·rintro e h9 ⟨hag, hS⟩
   refine Run.env hag ?_; clear hag
   refine Run.seq ?_
   refine Run.ops0 (idx := [0, 1]) rfl ?_
   refine Run.go rfl rfl rfl (sem_callL [] (TF.goes_37) rfl rfl (Spec.mono hS fun v h10 hv => ?_))
   obtain ⟨p11, rfl, hS⟩ := hv
   refine Run.go rfl rfl rfl (sem_assign ((Value.pointer p11)) rfl ?_)
   refine Run.region_end ?_
   refine Run.seq ?_
   refine Run.ops0 (idx := [0, 1, 2]) rfl ?_
   refine Run.go rfl rfl rfl (sem_move ((Value.pointer p11)) rfl ?_)
   refine Run.go rfl rfl rfl (sem_move ((Value.string s4)) rfl ?_)
   refine Run.go rfl rfl rfl (sem_callL [(Value.pointer p11), (Value.int .i64 (1)), (Value.string s4)] (TF.goes_42) rfl rfl (Spec.mono hS fun v h12 hv => ?_))
   obtain ⟨i13, rfl, hS⟩ := hv
   refine Run.region_end ?_
   refine Run.seq ?_
   refine Run.ops0 (idx := [0, 1]) rfl ?_
   refine Run.go rfl rfl rfl (sem_move ((Value.pointer p11)) rfl ?_)
   refine Run.go rfl rfl rfl (sem_callL [(Value.pointer p11)] (TF.goes_43) rfl rfl (Spec.mono hS fun v h14 hv => ?_))
   obtain ⟨rfl, hS⟩ := hv
   refine Run.region_end ?_
   refine Run.seq ?_
   refine Run.ops0 (idx := [0, 1, 2, 3, 4, 5, 6]) rfl ?_
   refine Run.go rfl rfl rfl (sem_move ((Value.pointer p11)) rfl ?_)
   refine Run.go rfl rfl rfl (sem_callL [(Value.pointer p11), (Value.int .i64 (0))] (TF.goes_36) rfl rfl (Spec.mono hS fun v h15 hv => ?_))
   obtain ⟨p16, i17, rfl, hS⟩ := hv
   refine Run.go rfl rfl rfl (sem_move ((Value.tuple #[(Value.pointer p16), (Value.int .i64 (i17))])) rfl ?_)
   refine Run.go rfl rfl rfl (sem_extract #[(Value.pointer p16), (Value.int .i64 (i17))] ((Value.pointer p16)) rfl rfl ?_)
   refine Run.go rfl rfl rfl (sem_extract #[(Value.pointer p16), (Value.int .i64 (i17))] ((Value.int .i64 (i17))) rfl rfl ?_)
   refine Run.go rfl rfl rfl (sem_assign ((Value.pointer p16)) rfl ?_)
   refine Run.go rfl rfl rfl (sem_assign ((Value.int .i64 (i17))) rfl ?_)
   refine Run.region_end ?_
   refine Run.seqJ (fun e h19 => Agree [(1, (Value.string s4)), (5, (Value.pointer p11))] e ∧ S_countermandlaw04_WalOther_J2 B s4 p11 h19 Q) ?_ fun j18 => ?_
   ·rintro e h19 ⟨hag, hS⟩
    refine Run.env hag ?_; clear hag
    refine Run.seq ?_
    refine Run.ops0 (idx := [0, 1, 2, 3, 4, 5, 6, 7, 8, 9, 10]) rfl ?_
    refine Run.go rfl rfl rfl (sem_move ((Value.pointer p11)) rfl ?_)
    refine Run.go rfl rfl rfl (sem_callL [(Value.pointer p11), (Value.int .i64 (1))] (TF.goes_47) rfl rfl (Spec.mono hS fun v h20 hv => ?_))
    obtain ⟨s21, rfl, hS⟩ := hv
    refine Run.go rfl rfl rfl (sem_move ((Value.string s4)) rfl ?_)
    obtain ⟨hT, hF⟩ := hS
    by_cases hb22 : s21 = s4
    ·have hS := hT hb22; clear hT hF
     refine Run.go rfl rfl rfl (sem_strEqT s21 s4 rfl rfl hb22 ?_)
     refine Run.go rfl rfl rfl (sem_move ((Value.bool true)) rfl ?_)
     refine Run.go rfl rfl rfl (sem_move ((Value.pointer p11)) rfl ?_)
     refine Run.go rfl rfl rfl (sem_callL [(Value.pointer p11), (Value.int .i64 (1))] (TF.goes_48) rfl rfl (Spec.mono hS fun v h23 hv => ?_))
     obtain ⟨s24, rfl, hS⟩ := hv
     refine Run.go rfl rfl rfl (sem_move ((Value.string s4)) rfl ?_)
     refine Run.go rfl rfl rfl (sem_strEq s24 s4 rfl rfl ?_)
     refine Run.go rfl rfl rfl (sem_pick true ((Value.bool (decide (s24 = s4)))) rfl rfl ?_)
     refine Run.go rfl rfl rfl (sem_assign ((Value.bool (decide (s24 = s4)))) rfl ?_)
     refine Run.region_end ?_
     refine Run.ret ⟨.inr rfl, ?_⟩
     exact hS.imp fun h' hq => ⟨((decide (s24 = s4))), rfl, hq⟩
    ·have hS := hF hb22; clear hT hF
     refine Run.go rfl rfl rfl (sem_strEqF s21 s4 rfl rfl hb22 ?_)
     refine Run.go rfl rfl rfl (sem_move ((Value.bool false)) rfl ?_)
     refine Run.no rfl rfl rfl ?_
     refine Run.no rfl rfl rfl ?_
     refine Run.no rfl rfl rfl ?_
     refine Run.no rfl rfl rfl ?_
     refine Run.go rfl rfl rfl (sem_pick false ((Value.bool false)) rfl rfl ?_)
     refine Run.go rfl rfl rfl (sem_assign ((Value.bool false)) rfl ?_)
     refine Run.region_end ?_
     refine Run.ret ⟨.inr rfl, ?_⟩
     exact hS.imp fun h' hq => ⟨(false), rfl, hq⟩
   refine Run.seq ?_
   refine Run.ops0 (idx := [0, 1, 2]) rfl ?_
   refine Run.go rfl rfl rfl (sem_move ((Value.slice a1 n2 c3)) rfl ?_)
   refine Run.go rfl rfl rfl (sem_lenSl a1 n2 c3 rfl TF.sl_69 ?_)
   refine Run.go rfl rfl rfl (sem_move ((Value.int .i64 (0))) rfl ?_)
   refine Run.region_end ?_
   refine Run.block ?_
   obtain ⟨J31, m29, h0, hS⟩ := hS
   refine Run.of_fin (h0.imp fun h' h0 => ?_)
   refine Run.loop (σ := (Option Addr) × Int × Nat) (fun x e h => J31 x.1 x.2.1 x.2.2 h ∧ Agree [(1, (Value.string s4)), (5, (Value.pointer p11)), (6, (Value.pointer x.1)), (30, (Value.slice a1 n2 c3)), (31, (Value.int .i64 ((n2 : Nat)))), (32, (Value.int .i64 (x.2.1)))] e) (fun x => x.2.2) (p16, (0), m29) ⟨h0, ⟨rfl, rfl, rfl, rfl, rfl, rfl, trivial⟩⟩ ?_; clear h0
   rintro ⟨p25, i26, m28⟩ e h27 ⟨hJ, hag⟩ ih30
   have hS := hS p25 i26 m28 h27 hJ; clear hJ
   refine Run.env hag ?_; clear hag
   refine Run.seq ?_
   refine Run.ops0 (idx := [0]) rfl ?_
   obtain ⟨hT, hF⟩ := hS
   by_cases hb32 : (i26 : Int) < ((n2 : Nat))
   ·have hS := hT hb32; clear hT hF
    refine Run.go rfl rfl rfl (sem_binI .i64 (i26) ((n2 : Nat)) (.bool true) rfl rfl (binI_lss_t hb32) ?_)
    refine Run.region_end ?_
    refine Run.seq ?_
    refine Run.condT rfl ?_
    refine Run.skip ?_
    refine Run.seq ?_
    refine Run.block ?_
    refine Run.seq ?_
    refine Run.ops0 (idx := [0, 1, 2, 3]) rfl ?_
    obtain ⟨A33, e34, hi0, hi1, hS⟩ := hS
    refine Run.go rfl rfl rfl (sem_indexAddrS A33 n2 c3 .i64 (i26) (congrArg (fun a => Value.slice a n2 c3) e34) rfl TF.slc_69 hi0 hi1 ?_)
    obtain ⟨i35, s36, i37, i38, hl, hS⟩ := hS
    refine Run.go rfl rfl rfl (sem_loadN (Addr.add A33 (Int.toNat (i26) * 4)) [(Value.int .i64 (i35)), (Value.string s36), (Value.int .i64 (i37)), (Value.int .i64 (i38))] rfl TF.agg_73 TF.sz_73 hl ?_)
    refine Run.go rfl rfl rfl (sem_allocN [(Value.int .i64 (0)), (Value.string ByteArray.empty), (Value.int .i64 (0)), (Value.int .i64 (0))] TF.zero_73 (fun k39 hb1 hb2 h40 hb3 => ?_))
    have hS := hS k39 hb1 hb2 h40 hb3
    obtain ⟨h41, hst, hS⟩ := hS
    refine Run.go rfl rfl rfl (sem_storeN ⟨k39, 0, none⟩ [(Value.int .i64 (i35)), (Value.string s36), (Value.int .i64 (i37)), (Value.int .i64 (i38))] h41 rfl rfl TF.sz_73 hst ?_)
    refine Run.region_end ?_
    refine Run.seq ?_
    refine Run.ops0 (idx := [0, 1]) rfl ?_
    refine Run.go rfl rfl rfl (sem_fieldAddr ⟨k39, 0, none⟩ 0 rfl TF.fld_73_0 ?_)
    obtain ⟨i42, hl, hS⟩ := hS
    refine Run.go rfl rfl rfl (sem_load1 ⟨k39, 0, none⟩ ((Value.int .i64 (i42))) rfl TF.agg_3 hl ?_)
    refine Run.region_end ?_
    refine Run.block ?_
    refine Run.seq ?_
    refine Run.ops0 (idx := [0, 1]) rfl ?_
    obtain ⟨hT, hF⟩ := hS
    by_cases hb43 : (i42 : Int) = 0
    ·have hS := hT hb43; clear hT hF
     refine Run.go rfl rfl rfl (sem_binI .i64 (i42) (0) (.bool true) rfl rfl (binI_eql_t hb43) ?_)
     refine Run.go rfl rfl rfl (sem_assign ((Value.bool true)) rfl ?_)
     refine Run.region_end ?_
     refine Run.condT rfl ?_
     refine Run.ops0 (idx := [0, 1, 2, 3]) rfl ?_
     refine Run.go rfl rfl rfl (sem_move ((Value.pointer p25)) rfl ?_)
     refine Run.go rfl rfl rfl (sem_fieldAddr ⟨k39, 0, none⟩ 1 rfl TF.fld_73_1 ?_)
     obtain ⟨s44, hl, hS⟩ := hS
     refine Run.go rfl rfl rfl (sem_load1 ⟨k39, 1, none⟩ ((Value.string s44)) rfl TF.agg_9 hl ?_)
     refine Run.go rfl rfl rfl (sem_callL [(Value.pointer p25), (Value.string s44)] (TF.goes_38) rfl rfl (Spec.mono hS fun v h45 hv => ?_))
     obtain ⟨i46, rfl, hS⟩ := hv
     refine Run.region_end ?_
     refine Run.inBlock ?_
     refine Run.inBlock ?_
     refine Run.ops0 (idx := [0, 1]) rfl ?_
     refine Run.go rfl rfl rfl (sem_binI .i64 (i26) (1) ((Value.int .i64 (IntKind.wrap .i64 ((i26) + (1))))) rfl rfl rfl ?_)
     refine Run.go rfl rfl rfl (sem_move ((Value.int .i64 (IntKind.wrap .i64 ((i26) + (1))))) rfl ?_)
     refine Run.region_end ?_
     exact Run.of_fin (hS.imp fun h' ⟨m', hm, hS⟩ => ih30 (p25, (IntKind.wrap .i64 ((i26) + (1))), m') _ _ ⟨hS, ⟨rfl, rfl, rfl, rfl, rfl, rfl, trivial⟩⟩ hm)
    ·have hS := hF hb43; clear hT hF
     refine Run.go rfl rfl rfl (sem_binI .i64 (i42) (0) (.bool false) rfl rfl (binI_eql_f hb43) ?_)
     refine Run.go rfl rfl rfl (sem_assign ((Value.bool false)) rfl ?_)
     refine Run.region_end ?_
     refine Run.condF rfl ?_
     refine Run.seq ?_
     refine Run.ops0 (idx := [0, 1]) rfl ?_
     obtain ⟨hT, hF⟩ := hS
     by_cases hb47 : (i42 : Int) = 1
     ·have hS := hT hb47; clear hT hF
      refine Run.go rfl rfl rfl (sem_binI .i64 (i42) (1) (.bool true) rfl rfl (binI_eql_t hb47) ?_)
      refine Run.go rfl rfl rfl (sem_assign ((Value.bool true)) rfl ?_)
      refine Run.region_end ?_
      refine Run.condT rfl ?_
      refine Run.ops0 (idx := [0, 1]) rfl ?_
      refine Run.go rfl rfl rfl (sem_move ((Value.pointer p25)) rfl ?_)
      refine Run.go rfl rfl rfl (sem_callL [(Value.pointer p25)] (TF.goes_44) rfl rfl (Spec.mono hS fun v h48 hv => ?_))
      obtain ⟨rfl, hS⟩ := hv
      refine Run.region_end ?_
      refine Run.inBlock ?_
      refine Run.inBlock ?_
      refine Run.ops0 (idx := [0, 1]) rfl ?_
      refine Run.go rfl rfl rfl (sem_binI .i64 (i26) (1) ((Value.int .i64 (IntKind.wrap .i64 ((i26) + (1))))) rfl rfl rfl ?_)
      refine Run.go rfl rfl rfl (sem_move ((Value.int .i64 (IntKind.wrap .i64 ((i26) + (1))))) rfl ?_)
      refine Run.region_end ?_
      exact Run.of_fin (hS.imp fun h' ⟨m', hm, hS⟩ => ih30 (p25, (IntKind.wrap .i64 ((i26) + (1))), m') _ _ ⟨hS, ⟨rfl, rfl, rfl, rfl, rfl, rfl, trivial⟩⟩ hm)
     ·have hS := hF hb47; clear hT hF
      refine Run.go rfl rfl rfl (sem_binI .i64 (i42) (1) (.bool false) rfl rfl (binI_eql_f hb47) ?_)
      refine Run.go rfl rfl rfl (sem_assign ((Value.bool false)) rfl ?_)
      refine Run.region_end ?_
      refine Run.condF rfl ?_
      refine Run.seq ?_
      refine Run.ops0 (idx := [0, 1]) rfl ?_
      obtain ⟨hT, hF⟩ := hS
      by_cases hb49 : (i42 : Int) = 2
      ·have hS := hT hb49; clear hT hF
       refine Run.go rfl rfl rfl (sem_binI .i64 (i42) (2) (.bool true) rfl rfl (binI_eql_t hb49) ?_)
       refine Run.go rfl rfl rfl (sem_assign ((Value.bool true)) rfl ?_)
       refine Run.region_end ?_
       refine Run.condT rfl ?_
       refine Run.ops0 (idx := [0, 1]) rfl ?_
       refine Run.go rfl rfl rfl (sem_move ((Value.pointer p25)) rfl ?_)
       refine Run.go rfl rfl rfl (sem_callL [(Value.pointer p25)] (TF.goes_45) rfl rfl (Spec.mono hS fun v h50 hv => ?_))
       obtain ⟨rfl, hS⟩ := hv
       refine Run.region_end ?_
       refine Run.inBlock ?_
       refine Run.inBlock ?_
       refine Run.ops0 (idx := [0, 1]) rfl ?_
       refine Run.go rfl rfl rfl (sem_binI .i64 (i26) (1) ((Value.int .i64 (IntKind.wrap .i64 ((i26) + (1))))) rfl rfl rfl ?_)
       refine Run.go rfl rfl rfl (sem_move ((Value.int .i64 (IntKind.wrap .i64 ((i26) + (1))))) rfl ?_)
       refine Run.region_end ?_
       exact Run.of_fin (hS.imp fun h' ⟨m', hm, hS⟩ => ih30 (p25, (IntKind.wrap .i64 ((i26) + (1))), m') _ _ ⟨hS, ⟨rfl, rfl, rfl, rfl, rfl, rfl, trivial⟩⟩ hm)
      ·have hS := hF hb49; clear hT hF
       refine Run.go rfl rfl rfl (sem_binI .i64 (i42) (2) (.bool false) rfl rfl (binI_eql_f hb49) ?_)
       refine Run.go rfl rfl rfl (sem_assign ((Value.bool false)) rfl ?_)
       refine Run.region_end ?_
       refine Run.condF rfl ?_
       refine Run.seq ?_
       refine Run.ops0 (idx := [0, 1]) rfl ?_
       obtain ⟨hT, hF⟩ := hS
       by_cases hb51 : (i42 : Int) = 3
       ·have hS := hT hb51; clear hT hF
        refine Run.go rfl rfl rfl (sem_binI .i64 (i42) (3) (.bool true) rfl rfl (binI_eql_t hb51) ?_)
        refine Run.go rfl rfl rfl (sem_assign ((Value.bool true)) rfl ?_)
        refine Run.region_end ?_
        refine Run.condT rfl ?_
        refine Run.seq ?_
        refine Run.ops0 (idx := [0, 1, 2, 3, 4, 5]) rfl ?_
        refine Run.go rfl rfl rfl (sem_move ((Value.pointer p11)) rfl ?_)
        refine Run.go rfl rfl rfl (sem_fieldAddr ⟨k39, 0, none⟩ 2 rfl TF.fld_73_2 ?_)
        obtain ⟨i52, hl, hS⟩ := hS
        refine Run.go rfl rfl rfl (sem_load1 ⟨k39, 2, none⟩ ((Value.int .i64 (i52))) rfl TF.agg_3 hl ?_)
        refine Run.go rfl rfl rfl (sem_fieldAddr ⟨k39, 0, none⟩ 3 rfl TF.fld_73_3 ?_)
        obtain ⟨i53, hl, hS⟩ := hS
        refine Run.go rfl rfl rfl (sem_load1 ⟨k39, 3, none⟩ ((Value.int .i64 (i53))) rfl TF.agg_3 hl ?_)
        refine Run.go rfl rfl rfl (sem_callL [(Value.pointer p11), (Value.int .i64 (i52)), (Value.int .i64 (i53))] (TF.goes_46) rfl rfl (Spec.mono hS fun v h54 hv => ?_))
        obtain ⟨rfl, hS⟩ := hv
        refine Run.region_end ?_
        refine Run.ops0 (idx := [0, 1, 2, 3, 4, 5]) rfl ?_
        refine Run.go rfl rfl rfl (sem_move ((Value.pointer p11)) rfl ?_)
        refine Run.go rfl rfl rfl (sem_callL [(Value.pointer p11), (Value.int .i64 (0))] (TF.goes_36) rfl rfl (Spec.mono hS fun v h55 hv => ?_))
        obtain ⟨p56, i57, rfl, hS⟩ := hv
        refine Run.go rfl rfl rfl (sem_move ((Value.tuple #[(Value.pointer p56), (Value.int .i64 (i57))])) rfl ?_)
        refine Run.go rfl rfl rfl (sem_extract #[(Value.pointer p56), (Value.int .i64 (i57))] ((Value.pointer p56)) rfl rfl ?_)
        refine Run.go rfl rfl rfl (sem_extract #[(Value.pointer p56), (Value.int .i64 (i57))] ((Value.int .i64 (i57))) rfl rfl ?_)
        refine Run.go rfl rfl rfl (sem_assign ((Value.pointer p56)) rfl ?_)
        refine Run.region_end ?_
        refine Run.inBlock ?_
        refine Run.inBlock ?_
        refine Run.ops0 (idx := [0, 1]) rfl ?_
        refine Run.go rfl rfl rfl (sem_binI .i64 (i26) (1) ((Value.int .i64 (IntKind.wrap .i64 ((i26) + (1))))) rfl rfl rfl ?_)
        refine Run.go rfl rfl rfl (sem_move ((Value.int .i64 (IntKind.wrap .i64 ((i26) + (1))))) rfl ?_)
        refine Run.region_end ?_
        exact Run.of_fin (hS.imp fun h' ⟨m', hm, hS⟩ => ih30 (p56, (IntKind.wrap .i64 ((i26) + (1))), m') _ _ ⟨hS, ⟨rfl, rfl, rfl, rfl, rfl, rfl, trivial⟩⟩ hm)
       ·have hS := hF hb51; clear hT hF
        refine Run.go rfl rfl rfl (sem_binI .i64 (i42) (3) (.bool false) rfl rfl (binI_eql_f hb51) ?_)
        refine Run.go rfl rfl rfl (sem_assign ((Value.bool false)) rfl ?_)
        refine Run.region_end ?_
        refine Run.condF rfl ?_
        refine Run.skip ?_
        refine Run.inBlock ?_
        refine Run.inBlock ?_
        refine Run.ops0 (idx := [0, 1]) rfl ?_
        refine Run.go rfl rfl rfl (sem_binI .i64 (i26) (1) ((Value.int .i64 (IntKind.wrap .i64 ((i26) + (1))))) rfl rfl rfl ?_)
        refine Run.go rfl rfl rfl (sem_move ((Value.int .i64 (IntKind.wrap .i64 ((i26) + (1))))) rfl ?_)
        refine Run.region_end ?_
        exact Run.of_fin (hS.imp fun h' ⟨m', hm, hS⟩ => ih30 (p25, (IntKind.wrap .i64 ((i26) + (1))), m') _ _ ⟨hS, ⟨rfl, rfl, rfl, rfl, rfl, rfl, trivial⟩⟩ hm)
   ·have hS := hF hb32; clear hT hF
    refine Run.go rfl rfl rfl (sem_binI .i64 (i26) ((n2 : Nat)) (.bool false) rfl rfl (binI_lss_f hb32) ?_)
    refine Run.region_end ?_
    refine Run.seq ?_
    refine Run.condF rfl ?_
    refine Run.exit rfl ?_
    exact Run.of_fin (hS.imp fun h' hS => j18 _ _ ⟨⟨rfl, rfl, trivial⟩, hS⟩)
  refine Run.seq ?_
  refine Run.ops0 (idx := [0, 1, 2, 3, 4, 5, 6]) rfl ?_
  refine Run.go rfl rfl rfl (sem_move ((Value.slice a1 n2 c3)) rfl ?_)
  refine Run.go rfl rfl rfl (sem_callL [(Value.slice a1 n2 c3)] (TF.goes_41) rfl rfl (Spec.mono hS fun v h58 hv => ?_))
  obtain ⟨b59, rfl, hS⟩ := hv
  obtain ⟨hT, hF⟩ := hS
  cases b59
  ·have hS := hF rfl; clear hT hF
   refine Run.go rfl rfl rfl (sem_move ((Value.bool false)) rfl ?_)
   refine Run.go rfl rfl rfl (sem_move ((Value.string s4)) rfl ?_)
   refine Run.go rfl rfl rfl (sem_lenStr s4 rfl TF.isStr_9 ?_)
   obtain ⟨hT, hF⟩ := hS
   by_cases hb60 : ((ByteArray.size s4 : Nat) : Int) > (1024)
   ·have hS := hT hb60; clear hT hF
    refine Run.go rfl rfl rfl (sem_binI .i64 ((ByteArray.size s4 : Nat)) (1024) (.bool true) rfl rfl (binI_gtr_t hb60) ?_)
    refine Run.go rfl rfl rfl (sem_pick false ((Value.bool true)) rfl rfl ?_)
    refine Run.region_end ?_
    refine Run.condT rfl ?_
    refine Run.seq ?_
    refine Run.ops0 (idx := [0]) rfl ?_
    refine Run.go rfl rfl rfl (sem_assign ((Value.bool true)) rfl ?_)
    refine Run.region_end ?_
    refine Run.ret ⟨.inr rfl, ?_⟩
    exact hS.imp fun h' hq => ⟨(true), rfl, hq⟩
   ·have hS := hF hb60; clear hT hF
    refine Run.go rfl rfl rfl (sem_binI .i64 ((ByteArray.size s4 : Nat)) (1024) (.bool false) rfl rfl (binI_gtr_f hb60) ?_)
    refine Run.go rfl rfl rfl (sem_pick false ((Value.bool false)) rfl rfl ?_)
    refine Run.region_end ?_
    refine Run.condF rfl ?_
    refine Run.skip ?_
    exact Run.of_fin (hS.imp fun h' hS => j8 _ _ ⟨⟨rfl, rfl, trivial⟩, hS⟩)
  ·have hS := hT rfl; clear hT hF
   refine Run.go rfl rfl rfl (sem_move ((Value.bool true)) rfl ?_)
   refine Run.no rfl rfl rfl ?_
   refine Run.no rfl rfl rfl ?_
   refine Run.no rfl rfl rfl ?_
   refine Run.go rfl rfl rfl (sem_pick true ((Value.bool true)) rfl rfl ?_)
   refine Run.region_end ?_
   refine Run.condT rfl ?_
   refine Run.seq ?_
   refine Run.ops0 (idx := [0]) rfl ?_
   refine Run.go rfl rfl rfl (sem_assign ((Value.bool true)) rfl ?_)
   refine Run.region_end ?_
   refine Run.ret ⟨.inr rfl, ?_⟩
   exact hS.imp fun h' hq => ⟨(true), rfl, hq⟩
set_option maxHeartbeats 4000000 in
theorem C_countermandlaw04_WalLasts.of {B : RO} {a1 : Option Addr} {n2 : Nat} {c3 : Nat} {i4 : Int} {i5 : Int} {i6 : Int} {h : Heap} {Q : Bool → Heap → Prop} (hS : S_countermandlaw04_WalLasts B a1 n2 c3 i4 i5 i6 h Q) : C_countermandlaw04_WalLasts B a1 n2 c3 i4 i5 i6 h Q := by
 unfold S_countermandlaw04_WalLasts at hS
 unfold C_countermandlaw04_WalLasts
 refine Spec.of_run Try.func6 (N := 86) (rs := [ResultVar.tmp 8]) rfl rfl rfl (Nat.le_of_ble_eq_true rfl) ?_
 refine Run.seq ?_
 refine Run.ops0 (idx := [0]) rfl ?_
 refine Run.go rfl rfl rfl (sem_assign ((Value.bool false)) rfl ?_)
 refine Run.region_end ?_
 refine Run.seq ?_
 refine Run.seq ?_
 refine Run.ops0 (idx := [0, 1]) rfl ?_
 refine Run.go rfl rfl rfl (sem_callL [] (TF.goes_34) rfl rfl (Spec.mono hS fun v h8 hv => ?_))
 obtain ⟨b9, rfl, hS⟩ := hv
 obtain ⟨hT, hF⟩ := hS
 cases b9
 ·have hS := hF rfl; clear hT hF
  refine Run.go rfl rfl rfl (sem_not false rfl ?_)
  refine Run.region_end ?_
  refine Run.condT rfl ?_
  refine Run.seq ?_
  refine Run.ops0 (idx := [0]) rfl ?_
  refine Run.go rfl rfl rfl (sem_assign ((Value.bool false)) rfl ?_)
  refine Run.region_end ?_
  refine Run.ret ⟨.inr rfl, ?_⟩
  exact hS.imp fun h' hq => ⟨(false), rfl, hq⟩
 ·have hS := hT rfl; clear hT hF
  refine Run.go rfl rfl rfl (sem_not true rfl ?_)
  refine Run.region_end ?_
  refine Run.condF rfl ?_
  refine Run.skip ?_
  refine Run.seq ?_
  refine Run.seq ?_
  refine Run.ops0 (idx := [0, 1]) rfl ?_
  refine Run.go rfl rfl rfl (sem_move ((Value.slice a1 n2 c3)) rfl ?_)
  refine Run.go rfl rfl rfl (sem_callL [(Value.slice a1 n2 c3)] (TF.goes_35) rfl rfl (Spec.mono hS fun v h10 hv => ?_))
  obtain ⟨b11, rfl, hS⟩ := hv
  obtain ⟨hT, hF⟩ := hS
  cases b11
  ·have hS := hF rfl; clear hT hF
   refine Run.region_end ?_
   refine Run.condF rfl ?_
   refine Run.skip ?_
   refine Run.seq ?_
   refine Run.ops0 (idx := [0, 1]) rfl ?_
   refine Run.go rfl rfl rfl (sem_callL [] (TF.goes_37) rfl rfl (Spec.mono hS fun v h12 hv => ?_))
   obtain ⟨p13, rfl, hS⟩ := hv
   refine Run.go rfl rfl rfl (sem_assign ((Value.pointer p13)) rfl ?_)
   refine Run.region_end ?_
   refine Run.seq ?_
   refine Run.ops0 (idx := [0, 1, 2, 3, 4, 5, 6]) rfl ?_
   refine Run.go rfl rfl rfl (sem_move ((Value.pointer p13)) rfl ?_)
   refine Run.go rfl rfl rfl (sem_callL [(Value.pointer p13), (Value.int .i64 (0))] (TF.goes_36) rfl rfl (Spec.mono hS fun v h14 hv => ?_))
   obtain ⟨p15, i16, rfl, hS⟩ := hv
   refine Run.go rfl rfl rfl (sem_move ((Value.tuple #[(Value.pointer p15), (Value.int .i64 (i16))])) rfl ?_)
   refine Run.go rfl rfl rfl (sem_extract #[(Value.pointer p15), (Value.int .i64 (i16))] ((Value.pointer p15)) rfl rfl ?_)
   refine Run.go rfl rfl rfl (sem_extract #[(Value.pointer p15), (Value.int .i64 (i16))] ((Value.int .i64 (i16))) rfl rfl ?_)
   refine Run.go rfl rfl rfl (sem_assign ((Value.pointer p15)) rfl ?_)
   refine Run.go rfl rfl rfl (sem_assign ((Value.int .i64 (i16))) rfl ?_)
   refine Run.region_end ?_
   refine Run.seq ?_
   refine Run.ops0 (idx := [0]) rfl ?_
   refine Run.go rfl rfl rfl (sem_assign ((Value.slice none 0 0)) rfl ?_)
   refine Run.region_end ?_
   refine Run.seq ?_
   refine Run.ops0 (idx := [0]) rfl ?_
   refine Run.go rfl rfl rfl (sem_assign ((Value.int .i64 (0))) rfl ?_)
   refine Run.region_end ?_
   refine Run.seqJ (fun e h22 => ∃ a18 : Option Addr, ∃ n19 : Nat, ∃ c20 : Nat, ∃ i21 : Int, Agree [(2, (Value.int .i64 (i5))), (3, (Value.int .i64 (i6))), (9, (Value.pointer p13)), (10, (Value.pointer p15)), (12, (Value.slice a18 n19 c20)), (13, (Value.int .i64 (i21)))] e ∧ S_countermandlaw04_WalLasts_J1 B i5 i6 p13 p15 a18 n19 c20 i21 h22 Q) ?_ fun j17 => ?_
   ·rintro e h22 ⟨a18, n19, c20, i21, hag, hS⟩
    refine Run.env hag ?_; clear hag
    refine Run.seq ?_
    refine Run.seq ?_
    refine Run.ops0 (idx := [0, 1, 2, 3]) rfl ?_
    refine Run.go rfl rfl rfl (sem_move ((Value.pointer p15)) rfl ?_)
    refine Run.go rfl rfl rfl (sem_callL [(Value.pointer p15)] (TF.goes_49) rfl rfl (Spec.mono hS fun v h23 hv => ?_))
    obtain ⟨i24, rfl, hS⟩ := hv
    refine Run.go rfl rfl rfl (sem_move ((Value.int .i64 (i21))) rfl ?_)
    obtain ⟨hT, hF⟩ := hS
    by_cases hb25 : (i24 : Int) = i21
    ·have hS := hT hb25; clear hT hF
     refine Run.go rfl rfl rfl (sem_binI .i64 (i24) (i21) (.bool false) rfl rfl (binI_neq_t hb25) ?_)
     refine Run.region_end ?_
     refine Run.condF rfl ?_
     refine Run.skip ?_
     refine Run.seq ?_
     refine Run.ops0 (idx := [0, 1, 2, 3]) rfl ?_
     refine Run.go rfl rfl rfl (sem_move ((Value.pointer p13)) rfl ?_)
     refine Run.go rfl rfl rfl (sem_move ((Value.int .i64 (i5))) rfl ?_)
     refine Run.go rfl rfl rfl (sem_move ((Value.int .i64 (i6))) rfl ?_)
     refine Run.go rfl rfl rfl (sem_callL [(Value.pointer p13), (Value.int .i64 (i5)), (Value.int .i64 (i6))] (TF.goes_46) rfl rfl (Spec.mono hS fun v h26 hv => ?_))
     obtain ⟨rfl, hS⟩ := hv
     refine Run.region_end ?_
     refine Run.seq ?_
     refine Run.ops0 (idx := [0, 1, 2, 3, 4, 5, 6]) rfl ?_
     refine Run.go rfl rfl rfl (sem_move ((Value.pointer p13)) rfl ?_)
     refine Run.go rfl rfl rfl (sem_callL [(Value.pointer p13), (Value.int .i64 (0))] (TF.goes_36) rfl rfl (Spec.mono hS fun v h27 hv => ?_))
     obtain ⟨p28, i29, rfl, hS⟩ := hv
     refine Run.go rfl rfl rfl (sem_move ((Value.tuple #[(Value.pointer p28), (Value.int .i64 (i29))])) rfl ?_)
     refine Run.go rfl rfl rfl (sem_extract #[(Value.pointer p28), (Value.int .i64 (i29))] ((Value.pointer p28)) rfl rfl ?_)
     refine Run.go rfl rfl rfl (sem_extract #[(Value.pointer p28), (Value.int .i64 (i29))] ((Value.int .i64 (i29))) rfl rfl ?_)
     refine Run.go rfl rfl rfl (sem_assign ((Value.pointer p28)) rfl ?_)
     refine Run.go rfl rfl rfl (sem_assign ((Value.int .i64 (i29))) rfl ?_)
     refine Run.region_end ?_
     refine Run.seq ?_
     refine Run.ops0 (idx := [0, 1, 2]) rfl ?_
     refine Run.go rfl rfl rfl (sem_move ((Value.pointer p28)) rfl ?_)
     refine Run.go rfl rfl rfl (sem_callL [(Value.pointer p28)] (TF.goes_39) rfl rfl (Spec.mono hS fun v h30 hv => ?_))
     obtain ⟨a31, n32, c33, rfl, hS⟩ := hv
     refine Run.go rfl rfl rfl (sem_assign ((Value.slice a31 n32 c33)) rfl ?_)
     refine Run.region_end ?_
     refine Run.seq ?_
     refine Run.ops0 (idx := [0, 1, 2, 3, 4, 5, 6, 7, 8, 9, 10, 11, 12, 13, 14, 15, 16, 17, 18, 19]) rfl ?_
     refine Run.go rfl rfl rfl (sem_move ((Value.slice a31 n32 c33)) rfl ?_)
     refine Run.go rfl rfl rfl (sem_lenSl a31 n32 c33 rfl TF.sl_55 ?_)
     refine Run.go rfl rfl rfl (sem_move ((Value.int .i64 (i21))) rfl ?_)
     obtain ⟨hT, hF⟩ := hS
     by_cases hb34 : ((n32 : Nat) : Int) ≥ (i21)
     ·have hS := hT hb34; clear hT hF
      refine Run.go rfl rfl rfl (sem_binI .i64 ((n32 : Nat)) (i21) (.bool true) rfl rfl (binI_geq_t hb34) ?_)
      refine Run.go rfl rfl rfl (sem_move ((Value.bool true)) rfl ?_)
      refine Run.go rfl rfl rfl (sem_move ((Value.slice a31 n32 c33)) rfl ?_)
      refine Run.go rfl rfl rfl (sem_lenSl a31 n32 c33 rfl TF.sl_55 ?_)
      refine Run.go rfl rfl rfl (sem_move ((Value.slice a18 n19 c20)) rfl ?_)
      refine Run.go rfl rfl rfl (sem_lenSl a18 n19 c20 rfl TF.sl_55 ?_)
      obtain ⟨hT, hF⟩ := hS
      by_cases hb35 : ((n32 : Nat) : Int) ≤ ((n19 : Nat))
      ·have hS := hT hb35; clear hT hF
       refine Run.go rfl rfl rfl (sem_binI .i64 ((n32 : Nat)) ((n19 : Nat)) (.bool true) rfl rfl (binI_leq_t hb35) ?_)
       refine Run.go rfl rfl rfl (sem_pick true ((Value.bool true)) rfl rfl ?_)
       refine Run.go rfl rfl rfl (sem_move ((Value.bool true)) rfl ?_)
       refine Run.go rfl rfl rfl (sem_move ((Value.slice a31 n32 c33)) rfl ?_)
       refine Run.go rfl rfl rfl (sem_move ((Value.slice a18 n19 c20)) rfl ?_)
       refine Run.go rfl rfl rfl (sem_move ((Value.slice a31 n32 c33)) rfl ?_)
       refine Run.go rfl rfl rfl (sem_lenSl a31 n32 c33 rfl TF.sl_55 ?_)
       obtain ⟨hi0, hi1, hi2, hS⟩ := hS
       refine Run.go rfl rfl rfl (sem_sliceSlI a18 n19 c20 (0) ((n32 : Nat)) rfl TF.slc_55 rfl ⟨_, rfl⟩ hi0 hi1 hi2 ?_)
       refine Run.go rfl rfl rfl (sem_callL [(Value.slice a31 n32 c33), (Value.slice (if c20 = Int.toNat (0) then a18 else Option.map (·.add (Int.toNat (0) * 1)) a18) (Int.toNat ((n32 : Nat)) - Int.toNat (0)) (c20 - Int.toNat (0)))] (TF.goes_50) rfl rfl (Spec.mono hS fun v h36 hv => ?_))
       obtain ⟨b37, rfl, hS⟩ := hv
       refine Run.go rfl rfl rfl (sem_pick true ((Value.bool b37)) rfl rfl ?_)
       refine Run.go rfl rfl rfl (sem_assign ((Value.bool b37)) rfl ?_)
       refine Run.region_end ?_
       refine Run.ret ⟨.inr rfl, ?_⟩
       exact hS.imp fun h' hq => ⟨(b37), rfl, hq⟩
      ·have hS := hF hb35; clear hT hF
       refine Run.go rfl rfl rfl (sem_binI .i64 ((n32 : Nat)) ((n19 : Nat)) (.bool false) rfl rfl (binI_leq_f hb35) ?_)
       refine Run.go rfl rfl rfl (sem_pick true ((Value.bool false)) rfl rfl ?_)
       refine Run.go rfl rfl rfl (sem_move ((Value.bool false)) rfl ?_)
       refine Run.no rfl rfl rfl ?_
       refine Run.no rfl rfl rfl ?_
       refine Run.no rfl rfl rfl ?_
       refine Run.no rfl rfl rfl ?_
       refine Run.no rfl rfl rfl ?_
       refine Run.no rfl rfl rfl ?_
       refine Run.go rfl rfl rfl (sem_pick false ((Value.bool false)) rfl rfl ?_)
       refine Run.go rfl rfl rfl (sem_assign ((Value.bool false)) rfl ?_)
       refine Run.region_end ?_
       refine Run.ret ⟨.inr rfl, ?_⟩
       exact hS.imp fun h' hq => ⟨(false), rfl, hq⟩
     ·have hS := hF hb34; clear hT hF
      refine Run.go rfl rfl rfl (sem_binI .i64 ((n32 : Nat)) (i21) (.bool false) rfl rfl (binI_geq_f hb34) ?_)
      refine Run.go rfl rfl rfl (sem_move ((Value.bool false)) rfl ?_)
      refine Run.no rfl rfl rfl ?_
      refine Run.no rfl rfl rfl ?_
      refine Run.no rfl rfl rfl ?_
      refine Run.no rfl rfl rfl ?_
      refine Run.no rfl rfl rfl ?_
      refine Run.go rfl rfl rfl (sem_pick false ((Value.bool false)) rfl rfl ?_)
      refine Run.go rfl rfl rfl (sem_move ((Value.bool false)) rfl ?_)
      refine Run.no rfl rfl rfl ?_
      refine Run.no rfl rfl rfl ?_
      refine Run.no rfl rfl rfl ?_
      refine Run.no rfl rfl rfl ?_
      refine Run.no rfl rfl rfl ?_
      refine Run.no rfl rfl rfl ?_
      refine Run.go rfl rfl rfl (sem_pick false ((Value.bool false)) rfl rfl ?_)
      refine Run.go rfl rfl rfl (sem_assign ((Value.bool false)) rfl ?_)
      refine Run.region_end ?_
      refine Run.ret ⟨.inr rfl, ?_⟩
      exact hS.imp fun h' hq => ⟨(false), rfl, hq⟩
    ·have hS := hF hb25; clear hT hF
     refine Run.go rfl rfl rfl (sem_binI .i64 (i24) (i21) (.bool true) rfl rfl (binI_neq_f hb25) ?_)
     refine Run.region_end ?_
     refine Run.condT rfl ?_
     refine Run.seq ?_
     refine Run.ops0 (idx := [0]) rfl ?_
     refine Run.go rfl rfl rfl (sem_assign ((Value.bool false)) rfl ?_)
     refine Run.region_end ?_
     refine Run.ret ⟨.inr rfl, ?_⟩
     exact hS.imp fun h' hq => ⟨(false), rfl, hq⟩
   refine Run.seq ?_
   refine Run.ops0 (idx := [0, 1, 2]) rfl ?_
   refine Run.go rfl rfl rfl (sem_move ((Value.slice a1 n2 c3)) rfl ?_)
   refine Run.go rfl rfl rfl (sem_lenSl a1 n2 c3 rfl TF.sl_55 ?_)
   refine Run.go rfl rfl rfl (sem_move ((Value.int .i64 (0))) rfl ?_)
   refine Run.region_end ?_
   refine Run.block ?_
   obtain ⟨J47, m45, h0, hS⟩ := hS
   refine Run.of_fin (h0.imp fun h' h0 => ?_)
   refine Run.loop (σ := (Option Addr) × Nat × Nat × Int × Int × Nat) (fun x e h => J47 x.1 x.2.1 x.2.2.1 x.2.2.2.1 x.2.2.2.2.1 x.2.2.2.2.2 h ∧ Agree [(1, (Value.int .i64 (i4))), (2, (Value.int .i64 (i5))), (3, (Value.int .i64 (i6))), (9, (Value.pointer p13)), (10, (Value.pointer p15)), (12, (Value.slice x.1 x.2.1 x.2.2.1)), (13, (Value.int .i64 (x.2.2.2.1))), (29, (Value.slice a1 n2 c3)), (30, (Value.int .i64 ((n2 : Nat)))), (31, (Value.int .i64 (x.2.2.2.2.1)))] e) (fun x => x.2.2.2.2.2) (none, 0, 0, (0), (0), m45) ⟨h0, ⟨rfl, rfl, rfl, rfl, rfl, rfl, rfl, rfl, rfl, rfl, trivial⟩⟩ ?_; clear h0
   rintro ⟨a38, n39, c40, i41, i42, m44⟩ e h43 ⟨hJ, hag⟩ ih46
   have hS := hS a38 n39 c40 i41 i42 m44 h43 hJ; clear hJ
   refine Run.env hag ?_; clear hag
   refine Run.seq ?_
   refine Run.ops0 (idx := [0]) rfl ?_
   obtain ⟨hT, hF⟩ := hS
   by_cases hb48 : (i42 : Int) < ((n2 : Nat))
   ·have hS := hT hb48; clear hT hF
    refine Run.go rfl rfl rfl (sem_binI .i64 (i42) ((n2 : Nat)) (.bool true) rfl rfl (binI_lss_t hb48) ?_)
    refine Run.region_end ?_
    refine Run.seq ?_
    refine Run.condT rfl ?_
    refine Run.skip ?_
    refine Run.seq ?_
    refine Run.block ?_
    refine Run.seq ?_
    refine Run.ops0 (idx := [0, 1, 2, 3, 4]) rfl ?_
    refine Run.go rfl rfl rfl (sem_move ((Value.int .i64 (i42))) rfl ?_)
    obtain ⟨A49, e50, hi0, hi1, hS⟩ := hS
    refine Run.go rfl rfl rfl (sem_indexAddrS A49 n2 c3 .i64 (i42) (congrArg (fun a => Value.slice a n2 c3) e50) rfl TF.slc_55 hi0 hi1 ?_)
    obtain ⟨s51, hl, hS⟩ := hS
    refine Run.go rfl rfl rfl (sem_load1 (Addr.add A49 (Int.toNat (i42) * 1)) ((Value.string s51)) rfl TF.agg_9 hl ?_)
    refine Run.go rfl rfl rfl (sem_assign ((Value.int .i64 (i42))) rfl ?_)
    refine Run.go rfl rfl rfl (sem_assign ((Value.string s51)) rfl ?_)
    refine Run.region_end ?_
    refine Run.seqJ (fun e h56 => ∃ a53 : Option Addr, ∃ n54 : Nat, ∃ c55 : Nat, Agree [(1, (Value.int .i64 (i4))), (2, (Value.int .i64 (i5))), (3, (Value.int .i64 (i6))), (9, (Value.pointer p13)), (10, (Value.pointer p15)), (12, (Value.slice a53 n54 c55)), (13, (Value.int .i64 (i41))), (14, (Value.int .i64 (i42))), (29, (Value.slice a1 n2 c3)), (30, (Value.int .i64 ((n2 : Nat)))), (31, (Value.int .i64 (i42)))] e ∧ S_countermandlaw04_WalLasts_J2 B a1 n2 c3 i4 i5 i6 p13 p15 i41 i42 m44 J47 a53 n54 c55 h56 Q) ?_ fun j52 => ?_
    ·rintro e h56 ⟨a53, n54, c55, hag, hS⟩
     refine Run.env hag ?_; clear hag
     refine Run.seq ?_
     refine Run.ops0 (idx := [0, 1, 2]) rfl ?_
     refine Run.go rfl rfl rfl (sem_move ((Value.int .i64 (i42))) rfl ?_)
     refine Run.go rfl rfl rfl (sem_move ((Value.int .i64 (i4))) rfl ?_)
     obtain ⟨hT, hF⟩ := hS
     by_cases hb57 : (i42 : Int) = i4
     ·have hS := hT hb57; clear hT hF
      refine Run.go rfl rfl rfl (sem_binI .i64 (i42) (i4) (.bool true) rfl rfl (binI_eql_t hb57) ?_)
      refine Run.region_end ?_
      refine Run.condT rfl ?_
      refine Run.seq ?_
      refine Run.ops0 (idx := [0, 1]) rfl ?_
      refine Run.go rfl rfl rfl (sem_move ((Value.pointer p15)) rfl ?_)
      refine Run.go rfl rfl rfl (sem_callL [(Value.pointer p15)] (TF.goes_44) rfl rfl (Spec.mono hS fun v h58 hv => ?_))
      obtain ⟨rfl, hS⟩ := hv
      refine Run.region_end ?_
      refine Run.ops0 (idx := [0, 1, 2]) rfl ?_
      refine Run.go rfl rfl rfl (sem_move ((Value.slice a53 n54 c55)) rfl ?_)
      refine Run.go rfl rfl rfl (sem_lenSl a53 n54 c55 rfl TF.sl_55 ?_)
      refine Run.go rfl rfl rfl (sem_assign ((Value.int .i64 ((n54 : Nat)))) rfl ?_)
      refine Run.region_end ?_
      refine Run.inBlock ?_
      refine Run.ops0 (idx := [0, 1]) rfl ?_
      refine Run.go rfl rfl rfl (sem_binI .i64 (i42) (1) ((Value.int .i64 (IntKind.wrap .i64 ((i42) + (1))))) rfl rfl rfl ?_)
      refine Run.go rfl rfl rfl (sem_move ((Value.int .i64 (IntKind.wrap .i64 ((i42) + (1))))) rfl ?_)
      refine Run.region_end ?_
      exact Run.of_fin (hS.imp fun h' ⟨m', hm, hS⟩ => ih46 (a53, n54, c55, ((n54 : Nat)), (IntKind.wrap .i64 ((i42) + (1))), m') _ _ ⟨hS, ⟨rfl, rfl, rfl, rfl, rfl, rfl, rfl, rfl, rfl, rfl, trivial⟩⟩ hm)
     ·have hS := hF hb57; clear hT hF
      refine Run.go rfl rfl rfl (sem_binI .i64 (i42) (i4) (.bool false) rfl rfl (binI_eql_f hb57) ?_)
      refine Run.region_end ?_
      refine Run.condF rfl ?_
      refine Run.skip ?_
      refine Run.inBlock ?_
      refine Run.ops0 (idx := [0, 1]) rfl ?_
      refine Run.go rfl rfl rfl (sem_binI .i64 (i42) (1) ((Value.int .i64 (IntKind.wrap .i64 ((i42) + (1))))) rfl rfl rfl ?_)
      refine Run.go rfl rfl rfl (sem_move ((Value.int .i64 (IntKind.wrap .i64 ((i42) + (1))))) rfl ?_)
      refine Run.region_end ?_
      exact Run.of_fin (hS.imp fun h' ⟨m', hm, hS⟩ => ih46 (a53, n54, c55, (i41), (IntKind.wrap .i64 ((i42) + (1))), m') _ _ ⟨hS, ⟨rfl, rfl, rfl, rfl, rfl, rfl, rfl, rfl, rfl, rfl, trivial⟩⟩ hm)
    refine Run.seq ?_
    refine Run.ops0 (idx := [0, 1, 2, 3]) rfl ?_
    refine Run.go rfl rfl rfl (sem_move ((Value.pointer p15)) rfl ?_)
    refine Run.go rfl rfl rfl (sem_move ((Value.string s51)) rfl ?_)
    refine Run.go rfl rfl rfl (sem_callL [(Value.pointer p15), (Value.string s51)] (TF.goes_38) rfl rfl (Spec.mono hS fun v h59 hv => ?_))
    obtain ⟨i60, rfl, hS⟩ := hv
    obtain ⟨hT, hF⟩ := hS
    by_cases hb61 : (i60 : Int) = 0
    ·have hS := hT hb61; clear hT hF
     refine Run.go rfl rfl rfl (sem_binI .i64 (i60) (0) (.bool true) rfl rfl (binI_eql_t hb61) ?_)
     refine Run.region_end ?_
     refine Run.condT rfl ?_
     refine Run.ops0 (idx := [0, 1, 2, 3, 4]) rfl ?_
     refine Run.go rfl rfl rfl (sem_move ((Value.slice a38 n39 c40)) rfl ?_)
     refine Run.go rfl rfl rfl (sem_move ((Value.string s51)) rfl ?_)
     refine Run.go rfl rfl rfl (sem_buildSliceL [(0, (Value.string s51))] [(Value.string s51)] TF.slc_55 TF.zero_9 rfl (by decide) (by decide) rfl rfl (fun k62 hb1 hb2 h63 hb3 => ?_))
     have hS := hS k62 hb1 hb2 h63 hb3
     refine Run.go rfl rfl rfl (sem_appendL [(Value.slice a38 n39 c40), (Value.slice (some ⟨k62, 0, none⟩) 1 1)] rfl (semH_mono (fun v h64 hv => ?_) hS))
     obtain ⟨a65, n66, c67, rfl, hS⟩ := hv
     refine Run.go rfl rfl rfl (sem_assign ((Value.slice a65 n66 c67)) rfl ?_)
     refine Run.region_end ?_
     exact Run.of_fin (hS.imp fun h' hS => j52 _ _ ⟨a65, n66, c67, ⟨rfl, rfl, rfl, rfl, rfl, rfl, rfl, rfl, rfl, rfl, rfl, trivial⟩, hS⟩)
    ·have hS := hF hb61; clear hT hF
     refine Run.go rfl rfl rfl (sem_binI .i64 (i60) (0) (.bool false) rfl rfl (binI_eql_f hb61) ?_)
     refine Run.region_end ?_
     refine Run.condF rfl ?_
     refine Run.skip ?_
     exact Run.of_fin (hS.imp fun h' hS => j52 _ _ ⟨a38, n39, c40, ⟨rfl, rfl, rfl, rfl, rfl, rfl, rfl, rfl, rfl, rfl, rfl, trivial⟩, hS⟩)
   ·have hS := hF hb48; clear hT hF
    refine Run.go rfl rfl rfl (sem_binI .i64 (i42) ((n2 : Nat)) (.bool false) rfl rfl (binI_lss_f hb48) ?_)
    refine Run.region_end ?_
    refine Run.seq ?_
    refine Run.condF rfl ?_
    refine Run.exit rfl ?_
    exact Run.of_fin (hS.imp fun h' hS => j17 _ _ ⟨a38, n39, c40, (i41), ⟨rfl, rfl, rfl, rfl, rfl, rfl, trivial⟩, hS⟩)
  ·have hS := hT rfl; clear hT hF
   refine Run.region_end ?_
   refine Run.condT rfl ?_
   refine Run.seq ?_
   refine Run.ops0 (idx := [0]) rfl ?_
   refine Run.go rfl rfl rfl (sem_assign ((Value.bool true)) rfl ?_)
   refine Run.region_end ?_
   refine Run.ret ⟨.inr rfl, ?_⟩
   exact hS.imp fun h' hq => ⟨(true), rfl, hq⟩
set_option maxHeartbeats 4000000 in
theorem C_countermandlaw04_WalClears.of {B : RO} {a1 : Option Addr} {n2 : Nat} {c3 : Nat} {s4 : ByteArray} {h : Heap} {Q : Bool → Heap → Prop} (hS : S_countermandlaw04_WalClears B a1 n2 c3 s4 h Q) : C_countermandlaw04_WalClears B a1 n2 c3 s4 h Q := by
 unfold S_countermandlaw04_WalClears at hS
 unfold C_countermandlaw04_WalClears
 refine Spec.of_run Try.func7 (N := 94) (rs := [ResultVar.tmp 4]) rfl rfl rfl (Nat.le_of_ble_eq_true rfl) ?_
 refine Run.seq ?_
 refine Run.ops0 (idx := [0]) rfl ?_
 refine Run.go rfl rfl rfl (sem_assign ((Value.bool false)) rfl ?_)
 refine Run.region_end ?_
 refine Run.seq ?_
 refine Run.seq ?_
 refine Run.ops0 (idx := [0, 1]) rfl ?_
 refine Run.go rfl rfl rfl (sem_callL [] (TF.goes_34) rfl rfl (Spec.mono hS fun v h6 hv => ?_))
 obtain ⟨b7, rfl, hS⟩ := hv
 obtain ⟨hT, hF⟩ := hS
 cases b7
 ·have hS := hF rfl; clear hT hF
  refine Run.go rfl rfl rfl (sem_not false rfl ?_)
  refine Run.region_end ?_
  refine Run.condT rfl ?_
  refine Run.seq ?_
  refine Run.ops0 (idx := [0]) rfl ?_
  refine Run.go rfl rfl rfl (sem_assign ((Value.bool false)) rfl ?_)
  refine Run.region_end ?_
  refine Run.ret ⟨.inr rfl, ?_⟩
  exact hS.imp fun h' hq => ⟨(false), rfl, hq⟩
 ·have hS := hT rfl; clear hT hF
  refine Run.go rfl rfl rfl (sem_not true rfl ?_)
  refine Run.region_end ?_
  refine Run.condF rfl ?_
  refine Run.skip ?_
  refine Run.seqJ (fun e h9 => Agree [(0, (Value.slice a1 n2 c3)), (1, (Value.string s4))] e ∧ S_countermandlaw04_WalClears_J1 B a1 n2 c3 s4 h9 Q) ?_ fun j8 => ?_
  ·rintro e h9 ⟨hag, hS⟩
   refine Run.env hag ?_; clear hag
   refine Run.seq ?_
   refine Run.ops0 (idx := [0, 1]) rfl ?_
   refine Run.go rfl rfl rfl (sem_callL [(Value.int .i64 (0))] (TF.goes_51) rfl rfl (Spec.mono hS fun v h10 hv => ?_))
   obtain ⟨p11, rfl, hS⟩ := hv
   refine Run.go rfl rfl rfl (sem_assign ((Value.pointer p11)) rfl ?_)
   refine Run.region_end ?_
   refine Run.seqJ (fun e h13 => Agree [(1, (Value.string s4)), (5, (Value.pointer p11))] e ∧ S_countermandlaw04_WalClears_J2 B s4 p11 h13 Q) ?_ fun j12 => ?_
   ·rintro e h13 ⟨hag, hS⟩
    refine Run.env hag ?_; clear hag
    refine Run.seq ?_
    refine Run.ops0 (idx := [0, 1, 2, 3, 4]) rfl ?_
    refine Run.go rfl rfl rfl (sem_move ((Value.pointer p11)) rfl ?_)
    obtain ⟨A14, e15, hS⟩ := hS
    refine Run.go rfl rfl rfl (sem_nilCheck A14 (congrArg Value.pointer e15) ?_)
    refine Run.go rfl rfl rfl (sem_fieldAddr A14 1 rfl TF.fld_85_1 ?_)
    obtain ⟨p16, hl, hS⟩ := hS
    refine Run.go rfl rfl rfl (sem_load1 (Addr.add A14 1) ((Value.pointer p16)) rfl TF.agg_57 hl ?_)
    refine Run.go rfl rfl rfl (sem_callL [(Value.pointer p16)] (TF.goes_45) rfl rfl (Spec.mono hS fun v h17 hv => ?_))
    obtain ⟨rfl, hS⟩ := hv
    refine Run.region_end ?_
    refine Run.seqJ (fun e h19 => Agree [(1, (Value.string s4)), (5, (Value.pointer p11))] e ∧ S_countermandlaw04_WalClears_J3 B s4 p11 h19 Q) ?_ fun j18 => ?_
    ·rintro e h19 ⟨hag, hS⟩
     refine Run.env hag ?_; clear hag
     refine Run.seq ?_
     refine Run.ops0 (idx := [0, 1, 2, 3, 4]) rfl ?_
     refine Run.go rfl rfl rfl (sem_move ((Value.pointer p11)) rfl ?_)
     obtain ⟨A20, e21, hS⟩ := hS
     refine Run.go rfl rfl rfl (sem_nilCheck A20 (congrArg Value.pointer e21) ?_)
     refine Run.go rfl rfl rfl (sem_fieldAddr A20 1 rfl TF.fld_85_1 ?_)
     obtain ⟨p22, hl, hS⟩ := hS
     refine Run.go rfl rfl rfl (sem_load1 (Addr.add A20 1) ((Value.pointer p22)) rfl TF.agg_57 hl ?_)
     refine Run.go rfl rfl rfl (sem_callL [(Value.pointer p22)] (TF.goes_44) rfl rfl (Spec.mono hS fun v h23 hv => ?_))
     obtain ⟨rfl, hS⟩ := hv
     refine Run.region_end ?_
     refine Run.seq ?_
     refine Run.ops0 (idx := [0, 1, 2, 3, 4]) rfl ?_
     refine Run.go rfl rfl rfl (sem_move ((Value.pointer p11)) rfl ?_)
     obtain ⟨A24, e25, hS⟩ := hS
     refine Run.go rfl rfl rfl (sem_nilCheck A24 (congrArg Value.pointer e25) ?_)
     refine Run.go rfl rfl rfl (sem_fieldAddr A24 0 rfl TF.fld_85_0 ?_)
     obtain ⟨p26, hl, hS⟩ := hS
     refine Run.go rfl rfl rfl (sem_load1 A24 ((Value.pointer p26)) rfl TF.agg_61 hl ?_)
     refine Run.go rfl rfl rfl (sem_callL [(Value.pointer p26), (Value.int .i64 (0)), (Value.int .i64 (0))] (TF.goes_46) rfl rfl (Spec.mono hS fun v h27 hv => ?_))
     obtain ⟨rfl, hS⟩ := hv
     refine Run.region_end ?_
     refine Run.seq ?_
     refine Run.ops0 (idx := [0, 1, 2, 3, 4, 5, 6, 7, 8, 9]) rfl ?_
     refine Run.go rfl rfl rfl (sem_move ((Value.pointer p11)) rfl ?_)
     obtain ⟨A28, e29, hS⟩ := hS
     refine Run.go rfl rfl rfl (sem_nilCheck A28 (congrArg Value.pointer e29) ?_)
     refine Run.go rfl rfl rfl (sem_fieldAddr A28 0 rfl TF.fld_85_0 ?_)
     obtain ⟨p30, hl, hS⟩ := hS
     refine Run.go rfl rfl rfl (sem_load1 A28 ((Value.pointer p30)) rfl TF.agg_61 hl ?_)
     refine Run.go rfl rfl rfl (sem_callL [(Value.pointer p30), (Value.int .i64 (0))] (TF.goes_36) rfl rfl (Spec.mono hS fun v h31 hv => ?_))
     obtain ⟨p32, i33, rfl, hS⟩ := hv
     refine Run.go rfl rfl rfl (sem_move ((Value.tuple #[(Value.pointer p32), (Value.int .i64 (i33))])) rfl ?_)
     refine Run.go rfl rfl rfl (sem_extract #[(Value.pointer p32), (Value.int .i64 (i33))] ((Value.pointer p32)) rfl rfl ?_)
     refine Run.go rfl rfl rfl (sem_extract #[(Value.pointer p32), (Value.int .i64 (i33))] ((Value.int .i64 (i33))) rfl rfl ?_)
     refine Run.go rfl rfl rfl (sem_assign ((Value.pointer p32)) rfl ?_)
     refine Run.go rfl rfl rfl (sem_assign ((Value.int .i64 (i33))) rfl ?_)
     refine Run.region_end ?_
     refine Run.seq ?_
     refine Run.ops0 (idx := [0, 1, 2, 3, 4, 5, 6, 7, 8, 9, 10]) rfl ?_
     refine Run.go rfl rfl rfl (sem_move ((Value.pointer p32)) rfl ?_)
     refine Run.go rfl rfl rfl (sem_callL [(Value.pointer p32)] (TF.goes_39) rfl rfl (Spec.mono hS fun v h34 hv => ?_))
     obtain ⟨a35, n36, c37, rfl, hS⟩ := hv
     refine Run.go rfl rfl rfl (sem_move ((Value.string s4)) rfl ?_)
     refine Run.go rfl rfl rfl (sem_buildSliceL [(0, (Value.string s4))] [(Value.string s4)] TF.slc_55 TF.zero_9 rfl (by decide) (by decide) rfl rfl (fun k38 hb1 hb2 h39 hb3 => ?_))
     have hS := hS k38 hb1 hb2 h39 hb3
     refine Run.go rfl rfl rfl (sem_callL [(Value.slice a35 n36 c37), (Value.slice (some ⟨k38, 0, none⟩) 1 1)] (TF.goes_50) rfl rfl (Spec.mono hS fun v h40 hv => ?_))
     obtain ⟨b41, rfl, hS⟩ := hv
     obtain ⟨hT, hF⟩ := hS
     cases b41
     ·have hS := hF rfl; clear hT hF
      refine Run.go rfl rfl rfl (sem_move ((Value.bool false)) rfl ?_)
      refine Run.no rfl rfl rfl ?_
      refine Run.no rfl rfl rfl ?_
      refine Run.no rfl rfl rfl ?_
      refine Run.go rfl rfl rfl (sem_pick false ((Value.bool false)) rfl rfl ?_)
      refine Run.go rfl rfl rfl (sem_assign ((Value.bool false)) rfl ?_)
      refine Run.region_end ?_
      refine Run.ret ⟨.inr rfl, ?_⟩
      exact hS.imp fun h' hq => ⟨(false), rfl, hq⟩
     ·have hS := hT rfl; clear hT hF
      refine Run.go rfl rfl rfl (sem_move ((Value.bool true)) rfl ?_)
      refine Run.go rfl rfl rfl (sem_move ((Value.pointer p32)) rfl ?_)
      refine Run.go rfl rfl rfl (sem_callL [(Value.pointer p32)] (TF.goes_49) rfl rfl (Spec.mono hS fun v h42 hv => ?_))
      obtain ⟨i43, rfl, hS⟩ := hv
      refine Run.go rfl rfl rfl (sem_binI .i64 (i43) (1) ((Value.bool ((i43 : Int) == (1)))) rfl rfl rfl ?_)
      refine Run.go rfl rfl rfl (sem_pick true ((Value.bool ((i43 : Int) == (1)))) rfl rfl ?_)
      refine Run.go rfl rfl rfl (sem_assign ((Value.bool ((i43 : Int) == (1)))) rfl ?_)
      refine Run.region_end ?_
      refine Run.ret ⟨.inr rfl, ?_⟩
      exact hS.imp fun h' hq => ⟨(((i43 : Int) == (1))), rfl, hq⟩
    refine Run.seq ?_
    refine Run.ops0 (idx := [0, 1, 2, 3, 4, 5, 6, 7, 8, 9, 10, 11, 12, 13, 14, 15, 16, 17, 18, 19, 20, 21, 22, 23, 24, 25, 26, 27, 28, 29, 30]) rfl ?_
    refine Run.go rfl rfl rfl (sem_move ((Value.pointer p11)) rfl ?_)
    obtain ⟨A44, e45, hS⟩ := hS
    refine Run.go rfl rfl rfl (sem_nilCheck A44 (congrArg Value.pointer e45) ?_)
    refine Run.go rfl rfl rfl (sem_fieldAddr A44 1 rfl TF.fld_85_1 ?_)
    obtain ⟨p46, hl, hS⟩ := hS
    refine Run.go rfl rfl rfl (sem_load1 (Addr.add A44 1) ((Value.pointer p46)) rfl TF.agg_57 hl ?_)
    refine Run.go rfl rfl rfl (sem_callL [(Value.pointer p46)] (TF.goes_53) rfl rfl (Spec.mono hS fun v h47 hv => ?_))
    obtain ⟨i48, rfl, hS⟩ := hv
    obtain ⟨hT, hF⟩ := hS
    by_cases hb49 : (i48 : Int) = 0
    ·have hS := hT hb49; clear hT hF
     refine Run.go rfl rfl rfl (sem_binI .i64 (i48) (0) (.bool false) rfl rfl (binI_neq_t hb49) ?_)
     refine Run.go rfl rfl rfl (sem_move ((Value.bool false)) rfl ?_)
     refine Run.go rfl rfl rfl (sem_move ((Value.pointer p11)) rfl ?_)
     obtain ⟨A50, e51, hS⟩ := hS
     refine Run.go rfl rfl rfl (sem_nilCheck A50 (congrArg Value.pointer e51) ?_)
     refine Run.go rfl rfl rfl (sem_fieldAddr A50 1 rfl TF.fld_85_1 ?_)
     obtain ⟨p52, hl, hS⟩ := hS
     refine Run.go rfl rfl rfl (sem_load1 (Addr.add A50 1) ((Value.pointer p52)) rfl TF.agg_57 hl ?_)
     refine Run.go rfl rfl rfl (sem_callL [(Value.pointer p52)] (TF.goes_54) rfl rfl (Spec.mono hS fun v h53 hv => ?_))
     obtain ⟨b54, rfl, hS⟩ := hv
     obtain ⟨hT, hF⟩ := hS
     cases b54
     ·have hS := hF rfl; clear hT hF
      refine Run.go rfl rfl rfl (sem_pick false ((Value.bool false)) rfl rfl ?_)
      refine Run.go rfl rfl rfl (sem_move ((Value.bool false)) rfl ?_)
      refine Run.go rfl rfl rfl (sem_move ((Value.pointer p11)) rfl ?_)
      obtain ⟨A55, e56, hS⟩ := hS
      refine Run.go rfl rfl rfl (sem_nilCheck A55 (congrArg Value.pointer e56) ?_)
      refine Run.go rfl rfl rfl (sem_fieldAddr A55 1 rfl TF.fld_85_1 ?_)
      obtain ⟨p57, hl, hS⟩ := hS
      refine Run.go rfl rfl rfl (sem_load1 (Addr.add A55 1) ((Value.pointer p57)) rfl TF.agg_57 hl ?_)
      refine Run.go rfl rfl rfl (sem_callL [(Value.pointer p57)] (TF.goes_39) rfl rfl (Spec.mono hS fun v h58 hv => ?_))
      obtain ⟨a59, n60, c61, rfl, hS⟩ := hv
      refine Run.go rfl rfl rfl (sem_lenSl a59 n60 c61 rfl TF.sl_55 ?_)
      obtain ⟨hT, hF⟩ := hS
      by_cases hb62 : ((n60 : Nat) : Int) = 0
      ·have hS := hT hb62; clear hT hF
       refine Run.go rfl rfl rfl (sem_binI .i64 ((n60 : Nat)) (0) (.bool false) rfl rfl (binI_neq_t hb62) ?_)
       refine Run.go rfl rfl rfl (sem_pick false ((Value.bool false)) rfl rfl ?_)
       refine Run.go rfl rfl rfl (sem_move ((Value.bool false)) rfl ?_)
       refine Run.go rfl rfl rfl (sem_move ((Value.pointer p11)) rfl ?_)
       obtain ⟨A63, e64, hS⟩ := hS
       refine Run.go rfl rfl rfl (sem_nilCheck A63 (congrArg Value.pointer e64) ?_)
       refine Run.go rfl rfl rfl (sem_fieldAddr A63 1 rfl TF.fld_85_1 ?_)
       obtain ⟨p65, hl, hS⟩ := hS
       refine Run.go rfl rfl rfl (sem_load1 (Addr.add A63 1) ((Value.pointer p65)) rfl TF.agg_57 hl ?_)
       refine Run.go rfl rfl rfl (sem_move ((Value.string s4)) rfl ?_)
       refine Run.go rfl rfl rfl (sem_callL [(Value.pointer p65), (Value.string s4)] (TF.goes_38) rfl rfl (Spec.mono hS fun v h66 hv => ?_))
       obtain ⟨i67, rfl, hS⟩ := hv
       obtain ⟨hT, hF⟩ := hS
       by_cases hb68 : (i67 : Int) = 0
       ·have hS := hT hb68; clear hT hF
        refine Run.go rfl rfl rfl (sem_binI .i64 (i67) (0) (.bool false) rfl rfl (binI_neq_t hb68) ?_)
        refine Run.go rfl rfl rfl (sem_pick false ((Value.bool false)) rfl rfl ?_)
        refine Run.region_end ?_
        refine Run.condF rfl ?_
        refine Run.skip ?_
        exact Run.of_fin (hS.imp fun h' hS => j18 _ _ ⟨⟨rfl, rfl, trivial⟩, hS⟩)
       ·have hS := hF hb68; clear hT hF
        refine Run.go rfl rfl rfl (sem_binI .i64 (i67) (0) (.bool true) rfl rfl (binI_neq_f hb68) ?_)
        refine Run.go rfl rfl rfl (sem_pick false ((Value.bool true)) rfl rfl ?_)
        refine Run.region_end ?_
        refine Run.condT rfl ?_
        refine Run.seq ?_
        refine Run.ops0 (idx := [0]) rfl ?_
        refine Run.go rfl rfl rfl (sem_assign ((Value.bool false)) rfl ?_)
        refine Run.region_end ?_
        refine Run.ret ⟨.inr rfl, ?_⟩
        exact hS.imp fun h' hq => ⟨(false), rfl, hq⟩
      ·have hS := hF hb62; clear hT hF
       refine Run.go rfl rfl rfl (sem_binI .i64 ((n60 : Nat)) (0) (.bool true) rfl rfl (binI_neq_f hb62) ?_)
       refine Run.go rfl rfl rfl (sem_pick false ((Value.bool true)) rfl rfl ?_)
       refine Run.go rfl rfl rfl (sem_move ((Value.bool true)) rfl ?_)
       refine Run.no rfl rfl rfl ?_
       refine Run.no rfl rfl rfl ?_
       refine Run.no rfl rfl rfl ?_
       refine Run.no rfl rfl rfl ?_
       refine Run.no rfl rfl rfl ?_
       refine Run.no rfl rfl rfl ?_
       refine Run.no rfl rfl rfl ?_
       refine Run.go rfl rfl rfl (sem_pick true ((Value.bool true)) rfl rfl ?_)
       refine Run.region_end ?_
       refine Run.condT rfl ?_
       refine Run.seq ?_
       refine Run.ops0 (idx := [0]) rfl ?_
       refine Run.go rfl rfl rfl (sem_assign ((Value.bool false)) rfl ?_)
       refine Run.region_end ?_
       refine Run.ret ⟨.inr rfl, ?_⟩
       exact hS.imp fun h' hq => ⟨(false), rfl, hq⟩
     ·have hS := hT rfl; clear hT hF
      refine Run.go rfl rfl rfl (sem_pick false ((Value.bool true)) rfl rfl ?_)
      refine Run.go rfl rfl rfl (sem_move ((Value.bool true)) rfl ?_)
      refine Run.no rfl rfl rfl ?_
      refine Run.no rfl rfl rfl ?_
      refine Run.no rfl rfl rfl ?_
      refine Run.no rfl rfl rfl ?_
      refine Run.no rfl rfl rfl ?_
      refine Run.no rfl rfl rfl ?_
      refine Run.no rfl rfl rfl ?_
      refine Run.go rfl rfl rfl (sem_pick true ((Value.bool true)) rfl rfl ?_)
      refine Run.go rfl rfl rfl (sem_move ((Value.bool true)) rfl ?_)
      refine Run.no rfl rfl rfl ?_
      refine Run.no rfl rfl rfl ?_
      refine Run.no rfl rfl rfl ?_
      refine Run.no rfl rfl rfl ?_
      refine Run.no rfl rfl rfl ?_
      refine Run.no rfl rfl rfl ?_
      refine Run.no rfl rfl rfl ?_
      refine Run.go rfl rfl rfl (sem_pick true ((Value.bool true)) rfl rfl ?_)
      refine Run.region_end ?_
      refine Run.condT rfl ?_
      refine Run.seq ?_
      refine Run.ops0 (idx := [0]) rfl ?_
      refine Run.go rfl rfl rfl (sem_assign ((Value.bool false)) rfl ?_)
      refine Run.region_end ?_
      refine Run.ret ⟨.inr rfl, ?_⟩
      exact hS.imp fun h' hq => ⟨(false), rfl, hq⟩
    ·have hS := hF hb49; clear hT hF
     refine Run.go rfl rfl rfl (sem_binI .i64 (i48) (0) (.bool true) rfl rfl (binI_neq_f hb49) ?_)
     refine Run.go rfl rfl rfl (sem_move ((Value.bool true)) rfl ?_)
     refine Run.no rfl rfl rfl ?_
     refine Run.no rfl rfl rfl ?_
     refine Run.no rfl rfl rfl ?_
     refine Run.no rfl rfl rfl ?_
     refine Run.no rfl rfl rfl ?_
     refine Run.go rfl rfl rfl (sem_pick true ((Value.bool true)) rfl rfl ?_)
     refine Run.go rfl rfl rfl (sem_move ((Value.bool true)) rfl ?_)
     refine Run.no rfl rfl rfl ?_
     refine Run.no rfl rfl rfl ?_
     refine Run.no rfl rfl rfl ?_
     refine Run.no rfl rfl rfl ?_
     refine Run.no rfl rfl rfl ?_
     refine Run.no rfl rfl rfl ?_
     refine Run.no rfl rfl rfl ?_
     refine Run.go rfl rfl rfl (sem_pick true ((Value.bool true)) rfl rfl ?_)
     refine Run.go rfl rfl rfl (sem_move ((Value.bool true)) rfl ?_)
     refine Run.no rfl rfl rfl ?_
     refine Run.no rfl rfl rfl ?_
     refine Run.no rfl rfl rfl ?_
     refine Run.no rfl rfl rfl ?_
     refine Run.no rfl rfl rfl ?_
     refine Run.no rfl rfl rfl ?_
     refine Run.no rfl rfl rfl ?_
     refine Run.go rfl rfl rfl (sem_pick true ((Value.bool true)) rfl rfl ?_)
     refine Run.region_end ?_
     refine Run.condT rfl ?_
     refine Run.seq ?_
     refine Run.ops0 (idx := [0]) rfl ?_
     refine Run.go rfl rfl rfl (sem_assign ((Value.bool false)) rfl ?_)
     refine Run.region_end ?_
     refine Run.ret ⟨.inr rfl, ?_⟩
     exact hS.imp fun h' hq => ⟨(false), rfl, hq⟩
   refine Run.seq ?_
   refine Run.ops0 (idx := [0, 1, 2]) rfl ?_
   refine Run.go rfl rfl rfl (sem_move ((Value.slice a1 n2 c3)) rfl ?_)
   refine Run.go rfl rfl rfl (sem_lenSl a1 n2 c3 rfl TF.sl_69 ?_)
   refine Run.go rfl rfl rfl (sem_move ((Value.int .i64 (0))) rfl ?_)
   refine Run.region_end ?_
   refine Run.block ?_
   obtain ⟨J74, m72, h0, hS⟩ := hS
   refine Run.of_fin (h0.imp fun h' h0 => ?_)
   refine Run.loop (σ := Int × Nat) (fun x e h => J74 x.1 x.2 h ∧ Agree [(1, (Value.string s4)), (5, (Value.pointer p11)), (20, (Value.slice a1 n2 c3)), (21, (Value.int .i64 ((n2 : Nat)))), (22, (Value.int .i64 (x.1)))] e) (fun x => x.2) ((0), m72) ⟨h0, ⟨rfl, rfl, rfl, rfl, rfl, trivial⟩⟩ ?_; clear h0
   rintro ⟨i69, m71⟩ e h70 ⟨hJ, hag⟩ ih73
   have hS := hS i69 m71 h70 hJ; clear hJ
   refine Run.env hag ?_; clear hag
   refine Run.seq ?_
   refine Run.ops0 (idx := [0]) rfl ?_
   obtain ⟨hT, hF⟩ := hS
   by_cases hb75 : (i69 : Int) < ((n2 : Nat))
   ·have hS := hT hb75; clear hT hF
    refine Run.go rfl rfl rfl (sem_binI .i64 (i69) ((n2 : Nat)) (.bool true) rfl rfl (binI_lss_t hb75) ?_)
    refine Run.region_end ?_
    refine Run.seq ?_
    refine Run.condT rfl ?_
    refine Run.skip ?_
    refine Run.seq ?_
    refine Run.block ?_
    refine Run.seq ?_
    refine Run.ops0 (idx := [0, 1, 2, 3]) rfl ?_
    obtain ⟨A76, e77, hi0, hi1, hS⟩ := hS
    refine Run.go rfl rfl rfl (sem_indexAddrS A76 n2 c3 .i64 (i69) (congrArg (fun a => Value.slice a n2 c3) e77) rfl TF.slc_69 hi0 hi1 ?_)
    obtain ⟨i78, s79, i80, i81, hl, hS⟩ := hS
    refine Run.go rfl rfl rfl (sem_loadN (Addr.add A76 (Int.toNat (i69) * 4)) [(Value.int .i64 (i78)), (Value.string s79), (Value.int .i64 (i80)), (Value.int .i64 (i81))] rfl TF.agg_73 TF.sz_73 hl ?_)
    refine Run.go rfl rfl rfl (sem_allocN [(Value.int .i64 (0)), (Value.string ByteArray.empty), (Value.int .i64 (0)), (Value.int .i64 (0))] TF.zero_73 (fun k82 hb1 hb2 h83 hb3 => ?_))
    have hS := hS k82 hb1 hb2 h83 hb3
    obtain ⟨h84, hst, hS⟩ := hS
    refine Run.go rfl rfl rfl (sem_storeN ⟨k82, 0, none⟩ [(Value.int .i64 (i78)), (Value.string s79), (Value.int .i64 (i80)), (Value.int .i64 (i81))] h84 rfl rfl TF.sz_73 hst ?_)
    refine Run.region_end ?_
    refine Run.ops0 (idx := [0, 1, 2]) rfl ?_
    refine Run.go rfl rfl rfl (sem_move ((Value.pointer p11)) rfl ?_)
    obtain ⟨i85, s86, i87, i88, hl, hS⟩ := hS
    refine Run.go rfl rfl rfl (sem_loadN ⟨k82, 0, none⟩ [(Value.int .i64 (i85)), (Value.string s86), (Value.int .i64 (i87)), (Value.int .i64 (i88))] rfl TF.agg_73 TF.sz_73 hl ?_)
    refine Run.go rfl rfl rfl (sem_callL [(Value.pointer p11), (Value.agg #[(Value.int .i64 (i85)), (Value.string s86), (Value.int .i64 (i87)), (Value.int .i64 (i88))])] (TF.goes_52) rfl rfl (Spec.mono hS fun v h89 hv => ?_))
    obtain ⟨b90, rfl, hS⟩ := hv
    refine Run.region_end ?_
    refine Run.inBlock ?_
    refine Run.ops0 (idx := [0, 1]) rfl ?_
    refine Run.go rfl rfl rfl (sem_binI .i64 (i69) (1) ((Value.int .i64 (IntKind.wrap .i64 ((i69) + (1))))) rfl rfl rfl ?_)
    refine Run.go rfl rfl rfl (sem_move ((Value.int .i64 (IntKind.wrap .i64 ((i69) + (1))))) rfl ?_)
    refine Run.region_end ?_
    exact Run.of_fin (hS.imp fun h' ⟨m', hm, hS⟩ => ih73 ((IntKind.wrap .i64 ((i69) + (1))), m') _ _ ⟨hS, ⟨rfl, rfl, rfl, rfl, rfl, trivial⟩⟩ hm)
   ·have hS := hF hb75; clear hT hF
    refine Run.go rfl rfl rfl (sem_binI .i64 (i69) ((n2 : Nat)) (.bool false) rfl rfl (binI_lss_f hb75) ?_)
    refine Run.region_end ?_
    refine Run.seq ?_
    refine Run.condF rfl ?_
    refine Run.exit rfl ?_
    exact Run.of_fin (hS.imp fun h' hS => j12 _ _ ⟨⟨rfl, rfl, trivial⟩, hS⟩)
  refine Run.seq ?_
  refine Run.ops0 (idx := [0, 1, 2, 3, 4, 5, 6]) rfl ?_
  refine Run.go rfl rfl rfl (sem_move ((Value.slice a1 n2 c3)) rfl ?_)
  refine Run.go rfl rfl rfl (sem_callL [(Value.slice a1 n2 c3)] (TF.goes_41) rfl rfl (Spec.mono hS fun v h91 hv => ?_))
  obtain ⟨b92, rfl, hS⟩ := hv
  obtain ⟨hT, hF⟩ := hS
  cases b92
  ·have hS := hF rfl; clear hT hF
   refine Run.go rfl rfl rfl (sem_move ((Value.bool false)) rfl ?_)
   refine Run.go rfl rfl rfl (sem_move ((Value.string s4)) rfl ?_)
   refine Run.go rfl rfl rfl (sem_lenStr s4 rfl TF.isStr_9 ?_)
   obtain ⟨hT, hF⟩ := hS
   by_cases hb93 : ((ByteArray.size s4 : Nat) : Int) > (1024)
   ·have hS := hT hb93; clear hT hF
    refine Run.go rfl rfl rfl (sem_binI .i64 ((ByteArray.size s4 : Nat)) (1024) (.bool true) rfl rfl (binI_gtr_t hb93) ?_)
    refine Run.go rfl rfl rfl (sem_pick false ((Value.bool true)) rfl rfl ?_)
    refine Run.region_end ?_
    refine Run.condT rfl ?_
    refine Run.seq ?_
    refine Run.ops0 (idx := [0]) rfl ?_
    refine Run.go rfl rfl rfl (sem_assign ((Value.bool true)) rfl ?_)
    refine Run.region_end ?_
    refine Run.ret ⟨.inr rfl, ?_⟩
    exact hS.imp fun h' hq => ⟨(true), rfl, hq⟩
   ·have hS := hF hb93; clear hT hF
    refine Run.go rfl rfl rfl (sem_binI .i64 ((ByteArray.size s4 : Nat)) (1024) (.bool false) rfl rfl (binI_gtr_f hb93) ?_)
    refine Run.go rfl rfl rfl (sem_pick false ((Value.bool false)) rfl rfl ?_)
    refine Run.region_end ?_
    refine Run.condF rfl ?_
    refine Run.skip ?_
    exact Run.of_fin (hS.imp fun h' hS => j8 _ _ ⟨⟨rfl, rfl, trivial⟩, hS⟩)
  ·have hS := hT rfl; clear hT hF
   refine Run.go rfl rfl rfl (sem_move ((Value.bool true)) rfl ?_)
   refine Run.no rfl rfl rfl ?_
   refine Run.no rfl rfl rfl ?_
   refine Run.no rfl rfl rfl ?_
   refine Run.go rfl rfl rfl (sem_pick true ((Value.bool true)) rfl rfl ?_)
   refine Run.region_end ?_
   refine Run.condT rfl ?_
   refine Run.seq ?_
   refine Run.ops0 (idx := [0]) rfl ?_
   refine Run.go rfl rfl rfl (sem_assign ((Value.bool true)) rfl ?_)
   refine Run.region_end ?_
   refine Run.ret ⟨.inr rfl, ?_⟩
   exact hS.imp fun h' hq => ⟨(true), rfl, hq⟩
set_option maxHeartbeats 4000000 in
theorem C_countermandlaw04_WalDoes.of {B : RO} {i1 : Int} {a2 : Option Addr} {n3 : Nat} {c4 : Nat} {h : Heap} {Q : Bool → Heap → Prop} (hS : S_countermandlaw04_WalDoes B i1 a2 n3 c4 h Q) : C_countermandlaw04_WalDoes B i1 a2 n3 c4 h Q := by
 unfold S_countermandlaw04_WalDoes at hS
 unfold C_countermandlaw04_WalDoes
 refine Spec.of_run Try.func8 (N := 171) (rs := [ResultVar.tmp 4]) rfl rfl rfl (Nat.le_of_ble_eq_true rfl) ?_
 refine Run.seq ?_
 refine Run.ops0 (idx := [0]) rfl ?_
 refine Run.go rfl rfl rfl (sem_assign ((Value.bool false)) rfl ?_)
 refine Run.region_end ?_
 refine Run.seq ?_
 refine Run.seq ?_
 refine Run.ops0 (idx := [0, 1]) rfl ?_
 refine Run.go rfl rfl rfl (sem_callL [] (TF.goes_34) rfl rfl (Spec.mono hS fun v h6 hv => ?_))
 obtain ⟨b7, rfl, hS⟩ := hv
 obtain ⟨hT, hF⟩ := hS
 cases b7
 ·have hS := hF rfl; clear hT hF
  refine Run.go rfl rfl rfl (sem_not false rfl ?_)
  refine Run.region_end ?_
  refine Run.condT rfl ?_
  refine Run.seq ?_
  refine Run.ops0 (idx := [0]) rfl ?_
  refine Run.go rfl rfl rfl (sem_assign ((Value.bool false)) rfl ?_)
  refine Run.region_end ?_
  refine Run.ret ⟨.inr rfl, ?_⟩
  exact hS.imp fun h' hq => ⟨(false), rfl, hq⟩
 ·have hS := hT rfl; clear hT hF
  refine Run.go rfl rfl rfl (sem_not true rfl ?_)
  refine Run.region_end ?_
  refine Run.condF rfl ?_
  refine Run.skip ?_
  refine Run.seq ?_
  refine Run.seq ?_
  refine Run.ops0 (idx := [0, 1]) rfl ?_
  refine Run.go rfl rfl rfl (sem_move ((Value.slice a2 n3 c4)) rfl ?_)
  refine Run.go rfl rfl rfl (sem_callL [(Value.slice a2 n3 c4)] (TF.goes_41) rfl rfl (Spec.mono hS fun v h8 hv => ?_))
  obtain ⟨b9, rfl, hS⟩ := hv
  obtain ⟨hT, hF⟩ := hS
  cases b9
  ·have hS := hF rfl; clear hT hF
   refine Run.region_end ?_
   refine Run.condF rfl ?_
   refine Run.skip ?_
   refine Run.seq ?_
   refine Run.ops0 (idx := [0, 1, 2, 3, 4, 5, 6]) rfl ?_
   refine Run.go rfl rfl rfl (sem_move ((Value.int .i64 (i1))) rfl ?_)
   refine Run.go rfl rfl rfl (sem_callL [(Value.pointer none), (Value.int .i64 (i1))] (TF.goes_36) rfl rfl (Spec.mono hS fun v h10 hv => ?_))
   obtain ⟨p11, i12, rfl, hS⟩ := hv
   refine Run.go rfl rfl rfl (sem_move ((Value.tuple #[(Value.pointer p11), (Value.int .i64 (i12))])) rfl ?_)
   refine Run.go rfl rfl rfl (sem_extract #[(Value.pointer p11), (Value.int .i64 (i12))] ((Value.pointer p11)) rfl rfl ?_)
   refine Run.go rfl rfl rfl (sem_extract #[(Value.pointer p11), (Value.int .i64 (i12))] ((Value.int .i64 (i12))) rfl rfl ?_)
   refine Run.go rfl rfl rfl (sem_assign ((Value.pointer p11)) rfl ?_)
   refine Run.go rfl rfl rfl (sem_assign ((Value.int .i64 (i12))) rfl ?_)
   refine Run.region_end ?_
   refine Run.seq ?_
   refine Run.ops0 (idx := [0, 1, 2, 3, 4, 5, 6, 7]) rfl ?_
   refine Run.go rfl rfl rfl (sem_callL [] (TF.goes_37) rfl rfl (Spec.mono hS fun v h13 hv => ?_))
   obtain ⟨p14, rfl, hS⟩ := hv
   refine Run.go rfl rfl rfl (sem_move ((Value.int .i64 (i1))) rfl ?_)
   refine Run.go rfl rfl rfl (sem_callL [(Value.pointer p14), (Value.int .i64 (i1))] (TF.goes_36) rfl rfl (Spec.mono hS fun v h15 hv => ?_))
   obtain ⟨p16, i17, rfl, hS⟩ := hv
   refine Run.go rfl rfl rfl (sem_move ((Value.tuple #[(Value.pointer p16), (Value.int .i64 (i17))])) rfl ?_)
   refine Run.go rfl rfl rfl (sem_extract #[(Value.pointer p16), (Value.int .i64 (i17))] ((Value.pointer p16)) rfl rfl ?_)
   refine Run.go rfl rfl rfl (sem_extract #[(Value.pointer p16), (Value.int .i64 (i17))] ((Value.int .i64 (i17))) rfl rfl ?_)
   refine Run.go rfl rfl rfl (sem_assign ((Value.pointer p16)) rfl ?_)
   refine Run.go rfl rfl rfl (sem_assign ((Value.int .i64 (i17))) rfl ?_)
   refine Run.region_end ?_
   refine Run.seq ?_
   refine Run.ops0 (idx := [0]) rfl ?_
   refine Run.go rfl rfl rfl (sem_assign ((Value.pointer none)) rfl ?_)
   refine Run.region_end ?_
   refine Run.seq ?_
   refine Run.ops0 (idx := [0, 1]) rfl ?_
   refine Run.go rfl rfl rfl (sem_move ((Value.pointer none)) rfl ?_)
   refine Run.go rfl rfl rfl (sem_callL [(Value.pointer none)] (TF.goes_44) rfl rfl (Spec.mono hS fun v h18 hv => ?_))
   obtain ⟨rfl, hS⟩ := hv
   refine Run.region_end ?_
   refine Run.seq ?_
   refine Run.ops0 (idx := [0, 1]) rfl ?_
   refine Run.go rfl rfl rfl (sem_move ((Value.pointer none)) rfl ?_)
   refine Run.go rfl rfl rfl (sem_callL [(Value.pointer none)] (TF.goes_45) rfl rfl (Spec.mono hS fun v h19 hv => ?_))
   obtain ⟨rfl, hS⟩ := hv
   refine Run.region_end ?_
   refine Run.seqJ (fun e h21 => Agree [(0, (Value.int .i64 (i1))), (1, (Value.slice a2 n3 c4)), (8, (Value.int .i64 (i17)))] e ∧ S_countermandlaw04_WalDoes_J1 B i1 a2 n3 c4 i17 h21 Q) ?_ fun j20 => ?_
   ·rintro e h21 ⟨hag, hS⟩
    refine Run.env hag ?_; clear hag
    refine Run.seq ?_
    refine Run.seq ?_
    refine Run.ops0 (idx := [0, 1]) rfl ?_
    refine Run.go rfl rfl rfl (sem_move ((Value.int .i64 (i17))) rfl ?_)
    obtain ⟨hT, hF⟩ := hS
    by_cases hb22 : (i17 : Int) = 0
    ·have hS := hT hb22; clear hT hF
     refine Run.go rfl rfl rfl (sem_binI .i64 (i17) (0) (.bool false) rfl rfl (binI_neq_t hb22) ?_)
     refine Run.region_end ?_
     refine Run.condF rfl ?_
     refine Run.skip ?_
     refine Run.seq ?_
     refine Run.ops0 (idx := [0, 1, 2]) rfl ?_
     refine Run.go rfl rfl rfl (sem_move ((Value.int .i64 (i1))) rfl ?_)
     refine Run.go rfl rfl rfl (sem_callL [(Value.int .i64 (i1))] (TF.goes_51) rfl rfl (Spec.mono hS fun v h23 hv => ?_))
     obtain ⟨p24, rfl, hS⟩ := hv
     refine Run.go rfl rfl rfl (sem_assign ((Value.pointer p24)) rfl ?_)
     refine Run.region_end ?_
     refine Run.seq ?_
     refine Run.seq ?_
     refine Run.ops0 (idx := [0, 1, 2]) rfl ?_
     refine Run.go rfl rfl rfl (sem_move ((Value.slice a2 n3 c4)) rfl ?_)
     refine Run.go rfl rfl rfl (sem_lenSl a2 n3 c4 rfl TF.sl_69 ?_)
     refine Run.go rfl rfl rfl (sem_move ((Value.int .i64 (0))) rfl ?_)
     refine Run.region_end ?_
     refine Run.block ?_
     obtain ⟨J30, m28, h0, hS⟩ := hS
     refine Run.of_fin (h0.imp fun h' h0 => ?_)
     refine Run.loop (σ := Int × Nat) (fun x e h => J30 x.1 x.2 h ∧ Agree [(0, (Value.int .i64 (i1))), (10, (Value.pointer p24)), (79, (Value.slice a2 n3 c4)), (80, (Value.int .i64 ((n3 : Nat)))), (81, (Value.int .i64 (x.1)))] e) (fun x => x.2) ((0), m28) ⟨h0, ⟨rfl, rfl, rfl, rfl, rfl, trivial⟩⟩ ?_; clear h0
     rintro ⟨i25, m27⟩ e h26 ⟨hJ, hag⟩ ih29
     have hS := hS i25 m27 h26 hJ; clear hJ
     refine Run.env hag ?_; clear hag
     refine Run.seq ?_
     refine Run.ops0 (idx := [0]) rfl ?_
     obtain ⟨hT, hF⟩ := hS
     by_cases hb31 : (i25 : Int) < ((n3 : Nat))
     ·have hS := hT hb31; clear hT hF
      refine Run.go rfl rfl rfl (sem_binI .i64 (i25) ((n3 : Nat)) (.bool true) rfl rfl (binI_lss_t hb31) ?_)
      refine Run.region_end ?_
      refine Run.seq ?_
      refine Run.condT rfl ?_
      refine Run.skip ?_
      refine Run.seq ?_
      refine Run.block ?_
      refine Run.seq ?_
      refine Run.ops0 (idx := [0, 1, 2, 3]) rfl ?_
      obtain ⟨A32, e33, hi0, hi1, hS⟩ := hS
      refine Run.go rfl rfl rfl (sem_indexAddrS A32 n3 c4 .i64 (i25) (congrArg (fun a => Value.slice a n3 c4) e33) rfl TF.slc_69 hi0 hi1 ?_)
      obtain ⟨i34, s35, i36, i37, hl, hS⟩ := hS
      refine Run.go rfl rfl rfl (sem_loadN (Addr.add A32 (Int.toNat (i25) * 4)) [(Value.int .i64 (i34)), (Value.string s35), (Value.int .i64 (i36)), (Value.int .i64 (i37))] rfl TF.agg_73 TF.sz_73 hl ?_)
      refine Run.go rfl rfl rfl (sem_allocN [(Value.int .i64 (0)), (Value.string ByteArray.empty), (Value.int .i64 (0)), (Value.int .i64 (0))] TF.zero_73 (fun k38 hb1 hb2 h39 hb3 => ?_))
      have hS := hS k38 hb1 hb2 h39 hb3
      obtain ⟨h40, hst, hS⟩ := hS
      refine Run.go rfl rfl rfl (sem_storeN ⟨k38, 0, none⟩ [(Value.int .i64 (i34)), (Value.string s35), (Value.int .i64 (i36)), (Value.int .i64 (i37))] h40 rfl rfl TF.sz_73 hst ?_)
      refine Run.region_end ?_
      refine Run.seq ?_
      refine Run.seq ?_
      refine Run.ops0 (idx := [0, 1, 2, 3]) rfl ?_
      refine Run.go rfl rfl rfl (sem_move ((Value.pointer p24)) rfl ?_)
      obtain ⟨i41, s42, i43, i44, hl, hS⟩ := hS
      refine Run.go rfl rfl rfl (sem_loadN ⟨k38, 0, none⟩ [(Value.int .i64 (i41)), (Value.string s42), (Value.int .i64 (i43)), (Value.int .i64 (i44))] rfl TF.agg_73 TF.sz_73 hl ?_)
      refine Run.go rfl rfl rfl (sem_callL [(Value.pointer p24), (Value.agg #[(Value.int .i64 (i41)), (Value.string s42), (Value.int .i64 (i43)), (Value.int .i64 (i44))])] (TF.goes_52) rfl rfl (Spec.mono hS fun v h45 hv => ?_))
      obtain ⟨b46, rfl, hS⟩ := hv
      obtain ⟨hT, hF⟩ := hS
      cases b46
      ·have hS := hF rfl; clear hT hF
       refine Run.go rfl rfl rfl (sem_not false rfl ?_)
       refine Run.region_end ?_
       refine Run.condT rfl ?_
       refine Run.seq ?_
       refine Run.ops0 (idx := [0]) rfl ?_
       refine Run.go rfl rfl rfl (sem_assign ((Value.bool false)) rfl ?_)
       refine Run.region_end ?_
       refine Run.ret ⟨.inr rfl, ?_⟩
       exact hS.imp fun h' hq => ⟨(false), rfl, hq⟩
      ·have hS := hT rfl; clear hT hF
       refine Run.go rfl rfl rfl (sem_not true rfl ?_)
       refine Run.region_end ?_
       refine Run.condF rfl ?_
       refine Run.skip ?_
       refine Run.seq ?_
       refine Run.ops0 (idx := [0, 1, 2, 3, 4, 5]) rfl ?_
       refine Run.go rfl rfl rfl (sem_move ((Value.pointer p24)) rfl ?_)
       obtain ⟨A47, e48, hS⟩ := hS
       refine Run.go rfl rfl rfl (sem_nilCheck A47 (congrArg Value.pointer e48) ?_)
       refine Run.go rfl rfl rfl (sem_fieldAddr A47 2 rfl TF.fld_85_2 ?_)
       obtain ⟨p49, hl, hS⟩ := hS
       refine Run.go rfl rfl rfl (sem_load1 (Addr.add A47 2) ((Value.pointer p49)) rfl TF.agg_83 hl ?_)
       refine Run.go rfl rfl rfl (sem_callL [(Value.pointer p49)] (TF.goes_56) rfl rfl (Spec.mono hS fun v h50 hv => ?_))
       obtain ⟨s51, rfl, hS⟩ := hv
       refine Run.go rfl rfl rfl (sem_assign ((Value.string s51)) rfl ?_)
       refine Run.region_end ?_
       refine Run.seq ?_
       skip
       obtain ⟨A53, e54, hS⟩ := hS
       skip
       skip
       obtain ⟨p57, hl, hS⟩ := hS
       have f58 := hl
       obtain ⟨A59, e60, hS⟩ := hS
       skip
       skip
       obtain ⟨p63, hl, hS⟩ := hS
       have f64 := hl
       skip
       skip
       obtain ⟨A67, e68, hS⟩ := hS
       skip
       skip
       obtain ⟨p71, hl, hS⟩ := hS
       have f72 := hl
       obtain ⟨A73, e74, hS⟩ := hS
       skip
       skip
       obtain ⟨p77, hl, hS⟩ := hS
       have f78 := hl
       obtain ⟨A79, e80, hS⟩ := hS
       skip
       skip
       obtain ⟨i83, hl, hS⟩ := hS
       have f84 := hl
       refine Run.drawM (fun h' => cellH B h' (Addr.add A53 2) = some (Value.pointer p57) ∧ cellH B h' A59 = some (Value.pointer p63) ∧ cellH B h' (Addr.add A67 2) = some (Value.pointer p71) ∧ cellH B h' A73 = some (Value.pointer p77) ∧ cellH B h' (Addr.add A79 1) = some (Value.int .i64 (i83)) ∧ True) [] ⟨[0, 1, 2, 4, 8, 16, 32, 0, 0, 256, 512, 1024, 2048, 4096, 8192, 16384, 32768, 65536, 131264, 262144, 1048575], [2097151, 2097150, 2097149, 2097147, 2097143, 2097135, 2097119, 2097151, 2097151, 2096895, 2096639, 2096127, 2095103, 2093055, 2088959, 2080767, 2064383, 2031615, 1965887, 1835007, 1572863], [0, 0, 0, 0, 0, 0, 0, 0, 0, 0, 0, 0, 0, 0, 0, 0, 0, 0, 0, 0, 0], 0⟩ (.q 0 (.q 1 (.q 2 (.q 3 (.q 4 (.q 5 (.q 6 (.q 7 (.q 8 (.q 9 (.q 10 (.q 11 (.q 12 (.q 13 (.q 14 (.q 15 (.q 16 (.q 17 (.x 18 (.x 19 (.q 20 .nil) .no) .no))))))))))))))))))) TF.mixed (by kernel_rfl) ⟨f58, f64, f72, f78, f84, trivial⟩ ?_
       refine RunT.quiet rfl rfl rfl (fun h' hC => sem_move ((Value.pointer p24)) rfl ⟨rfl, rfl⟩) ?_
       refine RunT.quiet rfl rfl rfl (fun h' hC => sem_nilCheck A53 (congrArg Value.pointer e54) ⟨rfl, rfl⟩) ?_
       refine RunT.quiet rfl rfl rfl (fun h' hC => sem_fieldAddr A53 2 rfl TF.fld_85_2 ⟨rfl, rfl⟩) ?_
       refine RunT.quiet rfl rfl rfl (fun h' hC => sem_load1 (Addr.add A53 2) ((Value.pointer p57)) rfl TF.agg_83 hC.1 ⟨rfl, rfl⟩) ?_
       refine RunT.quiet rfl rfl rfl (fun h' hC => sem_nilCheck A59 (congrArg Value.pointer e60) ⟨rfl, rfl⟩) ?_
       refine RunT.quiet rfl rfl rfl (fun h' hC => sem_fieldAddr A59 0 rfl TF.fld_90_0 ⟨rfl, rfl⟩) ?_
       refine RunT.quiet rfl rfl rfl (fun h' hC => sem_load1 A59 ((Value.pointer p63)) rfl TF.agg_88 hC.2.1 ⟨rfl, rfl⟩) ?_
       refine RunT.quiet rfl rfl rfl (fun h' hC => sem_move ((Value.int .i64 (i1))) rfl ⟨rfl, rfl⟩) ?_
       refine RunT.quiet rfl rfl rfl (fun h' hC => sem_move ((Value.pointer p24)) rfl ⟨rfl, rfl⟩) ?_
       refine RunT.quiet rfl rfl rfl (fun h' hC => sem_nilCheck A67 (congrArg Value.pointer e68) ⟨rfl, rfl⟩) ?_
       refine RunT.quiet rfl rfl rfl (fun h' hC => sem_fieldAddr A67 2 rfl TF.fld_85_2 ⟨rfl, rfl⟩) ?_
       refine RunT.quiet rfl rfl rfl (fun h' hC => sem_load1 (Addr.add A67 2) ((Value.pointer p71)) rfl TF.agg_83 hC.2.2.1 ⟨rfl, rfl⟩) ?_
       refine RunT.quiet rfl rfl rfl (fun h' hC => sem_nilCheck A73 (congrArg Value.pointer e74) ⟨rfl, rfl⟩) ?_
       refine RunT.quiet rfl rfl rfl (fun h' hC => sem_fieldAddr A73 0 rfl TF.fld_90_0 ⟨rfl, rfl⟩) ?_
       refine RunT.quiet rfl rfl rfl (fun h' hC => sem_load1 A73 ((Value.pointer p77)) rfl TF.agg_88 hC.2.2.2.1 ⟨rfl, rfl⟩) ?_
       refine RunT.quiet rfl rfl rfl (fun h' hC => sem_nilCheck A79 (congrArg Value.pointer e80) ⟨rfl, rfl⟩) ?_
       refine RunT.quiet rfl rfl rfl (fun h' hC => sem_fieldAddr A79 1 rfl TF.fld_94_1 ⟨rfl, rfl⟩) ?_
       refine RunT.quiet rfl rfl rfl (fun h' hC => sem_load1 (Addr.add A79 1) ((Value.int .i64 (i83))) rfl TF.agg_3 hC.2.2.2.2.1 ⟨rfl, rfl⟩) ?_
       refine ⟨?_, trivial⟩
       refine OpH.go rfl rfl rfl (sem_callL [(Value.pointer p63), (Value.int .i64 (i1)), (Value.int .i64 (i83))] (TF.goes_58) rfl rfl (Spec.mono hS fun v h85 hv => ?_))
       obtain ⟨s86, rfl, hS⟩ := hv
       obtain ⟨g87, g88, g89, g90, g91, hS⟩ := hS
       refine ⟨fun _ => ⟨g87, g88, g89, g90, g91, trivial⟩, ?_⟩
       refine ⟨?_, trivial⟩
       refine OpH.go rfl rfl rfl (sem_callL [(Value.string s86)] (TF.goes_57) rfl rfl (Spec.mono hS fun v h92 hv => ?_))
       obtain ⟨a93, n94, c95, rfl, hS⟩ := hv
       obtain ⟨g96, g97, g98, g99, g100, hS⟩ := hS
       refine ⟨fun _ => ⟨g96, g97, g98, g99, g100, trivial⟩, ?_⟩
       refine RunT.quiet rfl rfl rfl (fun h' hC => sem_assign ((Value.slice a93 n94 c95)) rfl ⟨rfl, rfl⟩) ?_
       refine Run.seq ?_
       refine Run.anyJ (fun e h103 => ∃ b102 : Bool, Agree [(0, (Value.int .i64 (i1))), (10, (Value.pointer p24)), (79, (Value.slice a2 n3 c4)), (80, (Value.int .i64 ((n3 : Nat)))), (81, (Value.int .i64 (i25))), (169, (Value.bool b102))] e ∧ S_countermandlaw04_WalDoes_J2 B i1 a2 n3 c4 p24 i25 m27 J30 b102 h103 Q) ?_ fun j101 => ?_
       ·rintro e h103 ⟨b102, hag, hS⟩
        refine Run.env hag ?_; clear hag
        obtain ⟨hT, hF⟩ := hS
        cases b102
        ·have hS := hF rfl; clear hT hF
         refine Run.condF rfl ?_
         refine Run.skip ?_
         refine Run.inBlock ?_
         refine Run.ops0 (idx := [0, 1]) rfl ?_
         refine Run.go rfl rfl rfl (sem_binI .i64 (i25) (1) ((Value.int .i64 (IntKind.wrap .i64 ((i25) + (1))))) rfl rfl rfl ?_)
         refine Run.go rfl rfl rfl (sem_move ((Value.int .i64 (IntKind.wrap .i64 ((i25) + (1))))) rfl ?_)
         refine Run.region_end ?_
         exact Run.of_fin (hS.imp fun h' ⟨m', hm, hS⟩ => ih29 ((IntKind.wrap .i64 ((i25) + (1))), m') _ _ ⟨hS, ⟨rfl, rfl, rfl, rfl, rfl, trivial⟩⟩ hm)
        ·have hS := hT rfl; clear hT hF
         refine Run.condT rfl ?_
         refine Run.seq ?_
         refine Run.ops0 (idx := [0]) rfl ?_
         refine Run.go rfl rfl rfl (sem_assign ((Value.bool false)) rfl ?_)
         refine Run.region_end ?_
         refine Run.ret ⟨.inr rfl, ?_⟩
         exact hS.imp fun h' hq => ⟨(false), rfl, hq⟩
       skip
       obtain ⟨A105, e106, hS⟩ := hS
       skip
       skip
       obtain ⟨p109, hl, hS⟩ := hS
       have f110 := hl
       skip
       refine Run.drawM (fun h' => cellH B h' (Addr.add A105 1) = some (Value.pointer p109) ∧ True) [] ⟨[0, 1, 2, 4, 8, 0, 48, 80, 128, 384, 512, 1536, 2560, 4608, 8704, 512, 33280, 66048, 131584, 279040, 541184, 1049088, 2621440, 4194304, 12582912, 20971520, 37748736, 71303168, 4194304, 272629760, 541065216, 1077936128, 2151677952, 4299161600, 8594128896, 17318281216, 34363932672, 68853694464, 137438953472, 412316860416, 687194767360, 1236950581248, 2336462209024, 137438953472, 8933531975680, 22127671508992, 35321811042304, 74766790688768, 140737488355328, 422212465065984, 703687441776640, 1266637395197952, 2392537302040576, 140737488355328, 13651536370466816, 18155135997837312], [72057594037927935, 72057594037927934, 72057594037927933, 72057594037927931, 72057594037927927, 72057594037927935, 72057594037927903, 72057594037927855, 72057594037927807, 72057594037927679, 72057594037927423, 72057594037926399, 72057594037925375, 72057594037923327, 72057594037919231, 72057594037927423, 72057594037894655, 72057594037861887, 72057594037796351, 72057594037665279, 72057594037386751, 72057594036878847, 72057594035830783, 72057594033733631, 72057594025345023, 72057594016956415, 72057594000179199, 72057593966624767, 72057594033733631, 72057593765298175, 72057593496862719, 72057592959991807, 72057591886249983, 72057589738766335, 72057585443799039, 72057576719646719, 72057559673995263, 72057525318451199, 72057456598974463, 72057181721067519, 72056906843160575, 72056357087346687, 72055257575718911, 72057456598974463, 72048660505952255, 72035466366418943, 72022272226885631, 71987225293750271, 71916856549572607, 71635381572861951, 71353906596151295, 70790956642729983, 69665056735887359, 71916856549572607, 58406057667461119, 53902458040090623], [0, 0, 0, 0, 0, 0, 0, 0, 0, 0, 0, 0, 0, 0, 0, 0, 0, 0, 0, 0, 0, 0, 0, 0, 0, 0, 0, 0, 0, 0, 0, 0, 0, 0, 0, 0, 0, 0, 0, 0, 0, 0, 0, 0, 0, 0, 0, 0, 0, 0, 0, 0, 0, 0, 0, 0], 0⟩ (.q 0 (.q 1 (.q 2 (.q 3 (.q 5 (.x 4 (.x 6 (.x 7 (.q 8 (.q 9 (.q 10 (.q 11 (.q 12 (.q 15 (.q 16 (.q 17 (.x 13 (.x 14 (.x 18 (.x 19 (.q 20 (.q 21 (.q 22 (.q 23 (.q 24 (.q 25 (.q 28 (.q 29 (.q 30 (.x 26 (.x 27 (.x 31 (.q 32 (.q 33 (.x 34 (.q 35 (.q 36 (.q 37 (.q 38 (.q 39 (.q 40 (.q 43 (.q 44 (.x 41 (.x 42 (.q 45 (.q 46 (.q 47 (.q 48 (.q 49 (.q 50 (.q 53 (.x 51 (.x 52 (.q 54 (.q 55 .nil)) .no) .no)))))))) .no) .no))))))))) .no))) .no) (.x 31 (.q 32 (.q 33 (.x 27 (.x 34 (.q 35 (.q 36 (.q 37 (.q 38 (.q 39 (.q 40 (.q 43 (.q 44 (.x 41 (.x 42 (.q 45 (.q 46 (.q 47 (.q 48 (.q 49 (.q 50 (.q 53 (.x 51 (.x 52 (.q 54 (.q 55 .nil)) .no) .no)))))))) .no) .no))))))))) .no) (.x 34 (.x 27 (.q 35 (.q 36 (.q 37 (.q 38 (.q 39 (.q 40 (.q 43 (.q 44 (.x 41 (.x 42 (.q 45 (.q 46 (.q 47 (.q 48 (.q 49 (.q 50 (.q 53 (.x 51 (.x 52 (.q 54 (.q 55 .nil)) .no) .no)))))))) .no) .no))))))))) .no) .no)))) .no)) (.x 31 (.q 32 (.q 33 (.x 26 (.x 27 (.x 34 (.q 35 (.q 36 (.q 37 (.q 38 (.q 39 (.q 40 (.q 43 (.q 44 (.x 41 (.x 42 (.q 45 (.q 46 (.q 47 (.q 48 (.q 49 (.q 50 (.q 53 (.x 51 (.x 52 (.q 54 (.q 55 .nil)) .no) .no)))))))) .no) .no))))))))) .no) (.x 34 (.x 27 (.q 35 (.q 36 (.q 37 (.q 38 (.q 39 (.q 40 (.q 43 (.q 44 (.x 41 (.x 42 (.q 45 (.q 46 (.q 47 (.q 48 (.q 49 (.q 50 (.q 53 (.x 51 (.x 52 (.q 54 (.q 55 .nil)) .no) .no)))))))) .no) .no))))))))) .no) .no)) (.x 34 (.x 26 (.x 27 (.q 35 (.q 36 (.q 37 (.q 38 (.q 39 (.q 40 (.q 43 (.q 44 (.x 41 (.x 42 (.q 45 (.q 46 (.q 47 (.q 48 (.q 49 (.q 50 (.q 53 (.x 51 (.x 52 (.q 54 (.q 55 .nil)) .no) .no)))))))) .no) .no))))))))) .no) .no) .no)))) .no))))))))))) .no) .no) (.x 18 (.x 14 (.x 19 (.q 20 (.q 21 (.q 22 (.q 23 (.q 24 (.q 25 (.q 28 (.q 29 (.q 30 (.x 26 (.x 27 (.x 31 (.q 32 (.q 33 (.x 34 (.q 35 (.q 36 (.q 37 (.q 38 (.q 39 (.q 40 (.q 43 (.q 44 (.x 41 (.x 42 (.q 45 (.q 46 (.q 47 (.q 48 (.q 49 (.q 50 (.q 53 (.x 51 (.x 52 (.q 54 (.q 55 .nil)) .no) .no)))))))) .no) .no))))))))) .no))) .no) (.x 31 (.q 32 (.q 33 (.x 27 (.x 34 (.q 35 (.q 36 (.q 37 (.q 38 (.q 39 (.q 40 (.q 43 (.q 44 (.x 41 (.x 42 (.q 45 (.q 46 (.q 47 (.q 48 (.q 49 (.q 50 (.q 53 (.x 51 (.x 52 (.q 54 (.q 55 .nil)) .no) .no)))))))) .no) .no))))))))) .no) (.x 34 (.x 27 (.q 35 (.q 36 (.q 37 (.q 38 (.q 39 (.q 40 (.q 43 (.q 44 (.x 41 (.x 42 (.q 45 (.q 46 (.q 47 (.q 48 (.q 49 (.q 50 (.q 53 (.x 51 (.x 52 (.q 54 (.q 55 .nil)) .no) .no)))))))) .no) .no))))))))) .no) .no)))) .no)) (.x 31 (.q 32 (.q 33 (.x 26 (.x 27 (.x 34 (.q 35 (.q 36 (.q 37 (.q 38 (.q 39 (.q 40 (.q 43 (.q 44 (.x 41 (.x 42 (.q 45 (.q 46 (.q 47 (.q 48 (.q 49 (.q 50 (.q 53 (.x 51 (.x 52 (.q 54 (.q 55 .nil)) .no) .no)))))))) .no) .no))))))))) .no) (.x 34 (.x 27 (.q 35 (.q 36 (.q 37 (.q 38 (.q 39 (.q 40 (.q 43 (.q 44 (.x 41 (.x 42 (.q 45 (.q 46 (.q 47 (.q 48 (.q 49 (.q 50 (.q 53 (.x 51 (.x 52 (.q 54 (.q 55 .nil)) .no) .no)))))))) .no) .no))))))))) .no) .no)) (.x 34 (.x 26 (.x 27 (.q 35 (.q 36 (.q 37 (.q 38 (.q 39 (.q 40 (.q 43 (.q 44 (.x 41 (.x 42 (.q 45 (.q 46 (.q 47 (.q 48 (.q 49 (.q 50 (.q 53 (.x 51 (.x 52 (.q 54 (.q 55 .nil)) .no) .no)))))))) .no) .no))))))))) .no) .no) .no)))) .no))))))))))) .no) .no) .no)) (.x 18 (.x 13 (.x 14 (.x 19 (.q 20 (.q 21 (.q 22 (.q 23 (.q 24 (.q 25 (.q 28 (.q 29 (.q 30 (.x 26 (.x 27 (.x 31 (.q 32 (.q 33 (.x 34 (.q 35 (.q 36 (.q 37 (.q 38 (.q 39 (.q 40 (.q 43 (.q 44 (.x 41 (.x 42 (.q 45 (.q 46 (.q 47 (.q 48 (.q 49 (.q 50 (.q 53 (.x 51 (.x 52 (.q 54 (.q 55 .nil)) .no) .no)))))))) .no) .no))))))))) .no))) .no) (.x 31 (.q 32 (.q 33 (.x 27 (.x 34 (.q 35 (.q 36 (.q 37 (.q 38 (.q 39 (.q 40 (.q 43 (.q 44 (.x 41 (.x 42 (.q 45 (.q 46 (.q 47 (.q 48 (.q 49 (.q 50 (.q 53 (.x 51 (.x 52 (.q 54 (.q 55 .nil)) .no) .no)))))))) .no) .no))))))))) .no) (.x 34 (.x 27 (.q 35 (.q 36 (.q 37 (.q 38 (.q 39 (.q 40 (.q 43 (.q 44 (.x 41 (.x 42 (.q 45 (.q 46 (.q 47 (.q 48 (.q 49 (.q 50 (.q 53 (.x 51 (.x 52 (.q 54 (.q 55 .nil)) .no) .no)))))))) .no) .no))))))))) .no) .no)))) .no)) (.x 31 (.q 32 (.q 33 (.x 26 (.x 27 (.x 34 (.q 35 (.q 36 (.q 37 (.q 38 (.q 39 (.q 40 (.q 43 (.q 44 (.x 41 (.x 42 (.q 45 (.q 46 (.q 47 (.q 48 (.q 49 (.q 50 (.q 53 (.x 51 (.x 52 (.q 54 (.q 55 .nil)) .no) .no)))))))) .no) .no))))))))) .no) (.x 34 (.x 27 (.q 35 (.q 36 (.q 37 (.q 38 (.q 39 (.q 40 (.q 43 (.q 44 (.x 41 (.x 42 (.q 45 (.q 46 (.q 47 (.q 48 (.q 49 (.q 50 (.q 53 (.x 51 (.x 52 (.q 54 (.q 55 .nil)) .no) .no)))))))) .no) .no))))))))) .no) .no)) (.x 34 (.x 26 (.x 27 (.q 35 (.q 36 (.q 37 (.q 38 (.q 39 (.q 40 (.q 43 (.q 44 (.x 41 (.x 42 (.q 45 (.q 46 (.q 47 (.q 48 (.q 49 (.q 50 (.q 53 (.x 51 (.x 52 (.q 54 (.q 55 .nil)) .no) .no)))))))) .no) .no))))))))) .no) .no) .no)))) .no))))))))))) .no) .no) .no) .no)))))))))) .no) .no) .no)))))) TF.mixed (by kernel_rfl) ⟨f110, trivial⟩ ?_
       refine RunT.quiet rfl rfl rfl (fun h' hC => sem_move ((Value.pointer p24)) rfl ⟨rfl, rfl⟩) ?_
       refine RunT.quiet rfl rfl rfl (fun h' hC => sem_nilCheck A105 (congrArg Value.pointer e106) ⟨rfl, rfl⟩) ?_
       refine RunT.quiet rfl rfl rfl (fun h' hC => sem_fieldAddr A105 1 rfl TF.fld_85_1 ⟨rfl, rfl⟩) ?_
       refine RunT.quiet rfl rfl rfl (fun h' hC => sem_load1 (Addr.add A105 1) ((Value.pointer p109)) rfl TF.agg_57 hC.1 ⟨rfl, rfl⟩) ?_
       refine RunT.quiet rfl rfl rfl (fun h' hC => sem_move ((Value.string s51)) rfl ⟨rfl, rfl⟩) ?_
       refine ⟨?_, trivial⟩
       refine OpH.go rfl rfl rfl (sem_callL [(Value.pointer p109)] (TF.goes_39) rfl rfl (Spec.mono hS fun v h112 hv => ?_))
       obtain ⟨a113, n114, c115, rfl, hS⟩ := hv
       obtain ⟨g116, hS⟩ := hS
       refine ⟨fun _ => ⟨g116, trivial⟩, ?_⟩
       refine ⟨?_, trivial⟩
       refine OpH.go rfl rfl rfl (sem_callL [(Value.string s51)] (TF.goes_57) rfl rfl (Spec.mono hS fun v h117 hv => ?_))
       obtain ⟨a118, n119, c120, rfl, hS⟩ := hv
       obtain ⟨g121, hS⟩ := hS
       refine ⟨fun _ => ⟨g121, trivial⟩, ?_⟩
       refine ⟨?_, trivial⟩
       refine OpH.go rfl rfl rfl (sem_callL [(Value.slice a113 n114 c115), (Value.slice a118 n119 c120)] (TF.goes_50) rfl rfl (Spec.mono hS fun v h122 hv => ?_))
       obtain ⟨b123, rfl, hS⟩ := hv
       obtain ⟨hT, hF⟩ := hS
       cases b123
       ·have hS := hF rfl; clear hT hF
        obtain ⟨g124, hS⟩ := hS
        refine ⟨fun _ => ⟨g124, trivial⟩, ?_⟩
        refine RunT.quiet rfl rfl rfl (fun h' hC => sem_not false rfl ⟨rfl, rfl⟩) ?_
        refine RunT.quiet rfl rfl rfl (fun h' hC => sem_move ((Value.bool true)) rfl ⟨rfl, rfl⟩) ?_
        refine RunT.skip rfl rfl rfl ?_
        refine RunT.skip rfl rfl rfl ?_
        refine RunT.skip rfl rfl rfl ?_
        refine RunT.skip rfl rfl rfl ?_
        refine RunT.skip rfl rfl rfl ?_
        refine RunT.skip rfl rfl rfl ?_
        refine RunT.joinJ (t := (.x 19 (.q 20 (.q 21 (.q 22 (.q 23 (.q 24 (.q 25 (.q 28 (.q 29 (.q 30 (.x 26 (.x 27 (.x 31 (.q 32 (.q 33 (.x 34 (.q 35 (.q 36 (.q 37 (.q 38 (.q 39 (.q 40 (.q 43 (.q 44 (.x 41 (.x 42 (.q 45 (.q 46 (.q 47 (.q 48 (.q 49 (.q 50 (.q 53 (.x 51 (.x 52 (.q 54 (.q 55 .nil)) .no) .no)))))))) .no) .no))))))))) .no))) .no) (.x 31 (.q 32 (.q 33 (.x 27 (.x 34 (.q 35 (.q 36 (.q 37 (.q 38 (.q 39 (.q 40 (.q 43 (.q 44 (.x 41 (.x 42 (.q 45 (.q 46 (.q 47 (.q 48 (.q 49 (.q 50 (.q 53 (.x 51 (.x 52 (.q 54 (.q 55 .nil)) .no) .no)))))))) .no) .no))))))))) .no) (.x 34 (.x 27 (.q 35 (.q 36 (.q 37 (.q 38 (.q 39 (.q 40 (.q 43 (.q 44 (.x 41 (.x 42 (.q 45 (.q 46 (.q 47 (.q 48 (.q 49 (.q 50 (.q 53 (.x 51 (.x 52 (.q 54 (.q 55 .nil)) .no) .no)))))))) .no) .no))))))))) .no) .no)))) .no)) (.x 31 (.q 32 (.q 33 (.x 26 (.x 27 (.x 34 (.q 35 (.q 36 (.q 37 (.q 38 (.q 39 (.q 40 (.q 43 (.q 44 (.x 41 (.x 42 (.q 45 (.q 46 (.q 47 (.q 48 (.q 49 (.q 50 (.q 53 (.x 51 (.x 52 (.q 54 (.q 55 .nil)) .no) .no)))))))) .no) .no))))))))) .no) (.x 34 (.x 27 (.q 35 (.q 36 (.q 37 (.q 38 (.q 39 (.q 40 (.q 43 (.q 44 (.x 41 (.x 42 (.q 45 (.q 46 (.q 47 (.q 48 (.q 49 (.q 50 (.q 53 (.x 51 (.x 52 (.q 54 (.q 55 .nil)) .no) .no)))))))) .no) .no))))))))) .no) .no)) (.x 34 (.x 26 (.x 27 (.q 35 (.q 36 (.q 37 (.q 38 (.q 39 (.q 40 (.q 43 (.q 44 (.x 41 (.x 42 (.q 45 (.q 46 (.q 47 (.q 48 (.q 49 (.q 50 (.q 53 (.x 51 (.x 52 (.q 54 (.q 55 .nil)) .no) .no)))))))) .no) .no))))))))) .no) .no) .no)))) .no))))))))))) .no)) (fun e h126 => Agree [(0, (Value.int .i64 (i1))), (10, (Value.pointer p24)), (14, (Value.slice a93 n94 c95)), (79, (Value.slice a2 n3 c4)), (80, (Value.int .i64 ((n3 : Nat)))), (81, (Value.int .i64 (i25))), (123, (Value.bool true))] e ∧ cellH B h126 (Addr.add A105 1) = some (Value.pointer p109) ∧ S_countermandlaw04_WalDoes_J3 B i1 a2 n3 c4 p24 i25 m27 J30 a93 n94 c95 A105 p109 h126 Q) ?_ fun j125 => ?_
        ·rintro e h126 ⟨hag, g127, hS⟩
         refine RunT.env hag ?_; clear hag
         refine ⟨?_, trivial⟩
         refine OpH.no rfl rfl rfl ⟨fun _ => ⟨g127, trivial⟩, ?_⟩
         refine RunT.skip rfl rfl rfl ?_
         refine RunT.quiet rfl rfl rfl (fun h' hC => sem_pick true ((Value.bool true)) rfl rfl ⟨rfl, rfl⟩) ?_
         refine RunT.quiet rfl rfl rfl (fun h' hC => sem_move ((Value.bool true)) rfl ⟨rfl, rfl⟩) ?_
         refine RunT.skip rfl rfl rfl ?_
         refine RunT.skip rfl rfl rfl ?_
         refine RunT.skip rfl rfl rfl ?_
         refine RunT.skip rfl rfl rfl ?_
         refine RunT.skip rfl rfl rfl ?_
         refine RunT.skip rfl rfl rfl ?_
         refine RunT.joinJ (t := (.q 35 (.q 36 (.q 37 (.q 38 (.q 39 (.q 40 (.q 43 (.q 44 (.x 41 (.x 42 (.q 45 (.q 46 (.q 47 (.q 48 (.q 49 (.q 50 (.q 53 (.x 51 (.x 52 (.q 54 (.q 55 .nil)) .no) .no)))))))) .no) .no)))))))))) (fun e h129 => Agree [(0, (Value.int .i64 (i1))), (10, (Value.pointer p24)), (14, (Value.slice a93 n94 c95)), (79, (Value.slice a2 n3 c4)), (80, (Value.int .i64 ((n3 : Nat)))), (81, (Value.int .i64 (i25))), (136, (Value.bool true))] e ∧ cellH B h129 (Addr.add A105 1) = some (Value.pointer p109) ∧ S_countermandlaw04_WalDoes_J4 B i1 a2 n3 c4 p24 i25 m27 J30 a93 n94 c95 A105 p109 h129 Q) ?_ fun j128 => ?_
         ·rintro e h129 ⟨hag, g130, hS⟩
          refine RunT.env hag ?_; clear hag
          refine RunT.skip rfl rfl rfl ?_
          refine RunT.quiet rfl rfl rfl (fun h' hC => sem_pick true ((Value.bool true)) rfl rfl ⟨rfl, rfl⟩) ?_
          refine RunT.quiet rfl rfl rfl (fun h' hC => sem_move ((Value.bool true)) rfl ⟨rfl, rfl⟩) ?_
          refine RunT.skip rfl rfl rfl ?_
          refine RunT.skip rfl rfl rfl ?_
          refine RunT.skip rfl rfl rfl ?_
          refine RunT.skip rfl rfl rfl ?_
          refine RunT.skip rfl rfl rfl ?_
          refine ⟨?_, trivial⟩
          refine OpH.no rfl rfl rfl ⟨fun _ => ⟨g130, trivial⟩, ?_⟩
          refine ⟨?_, trivial⟩
          refine OpH.no rfl rfl rfl ⟨fun _ => ⟨g130, trivial⟩, ?_⟩
          refine RunT.skip rfl rfl rfl ?_
          refine RunT.quiet rfl rfl rfl (fun h' hC => sem_pick true ((Value.bool true)) rfl rfl ⟨rfl, rfl⟩) ?_
          refine RunT.quiet rfl rfl rfl (fun h' hC => sem_move ((Value.bool true)) rfl ⟨rfl, rfl⟩) ?_
          refine RunT.skip rfl rfl rfl ?_
          refine RunT.skip rfl rfl rfl ?_
          refine RunT.skip rfl rfl rfl ?_
          refine RunT.skip rfl rfl rfl ?_
          refine ⟨?_, trivial⟩
          refine OpH.no rfl rfl rfl ⟨fun _ => ⟨g130, trivial⟩, ?_⟩
          refine ⟨?_, trivial⟩
          refine OpH.no rfl rfl rfl ⟨fun _ => ⟨g130, trivial⟩, ?_⟩
          refine RunT.skip rfl rfl rfl ?_
          refine RunT.quiet rfl rfl rfl (fun h' hC => sem_pick true ((Value.bool true)) rfl rfl ⟨rfl, rfl⟩) ?_
          exact Run.of_fin (hS.imp fun h' hS => j101 _ _ ⟨(true), ⟨rfl, rfl, rfl, rfl, rfl, rfl, trivial⟩, hS⟩)
         refine ⟨?_, ?_, trivial⟩
         ·have hS := hS.1
          refine OpH.no rfl rfl rfl ⟨fun _ => ⟨g127, trivial⟩, ?_⟩
          refine ⟨?_, ?_, trivial⟩
          ·have hS := hS.1
           refine OpH.no rfl rfl rfl ⟨fun _ => ⟨g127, trivial⟩, ?_⟩
           refine ⟨?_, trivial⟩
           refine OpH.no rfl rfl rfl ⟨fun _ => ⟨g127, trivial⟩, ?_⟩
           refine RunT.skip rfl rfl rfl ?_
           refine RunT.skip rfl rfl rfl ?_
           refine ⟨?_, trivial⟩
           refine OpH.no rfl rfl rfl ⟨fun _ => ⟨g127, trivial⟩, ?_⟩
           exact j128 _ _ ⟨⟨rfl, rfl, rfl, rfl, rfl, rfl, rfl, trivial⟩, g127, hS⟩
          ·have hS := hS.2
           refine OpH.no rfl rfl rfl ⟨fun _ => ⟨g127, trivial⟩, ?_⟩
           refine RunT.skip rfl rfl rfl ?_
           refine RunT.skip rfl rfl rfl ?_
           refine ⟨?_, ?_, trivial⟩
           ·have hS := hS.1
            refine OpH.no rfl rfl rfl ⟨fun _ => ⟨g127, trivial⟩, ?_⟩
            refine ⟨?_, trivial⟩
            refine OpH.no rfl rfl rfl ⟨fun _ => ⟨g127, trivial⟩, ?_⟩
            exact j128 _ _ ⟨⟨rfl, rfl, rfl, rfl, rfl, rfl, rfl, trivial⟩, g127, hS⟩
           ·have hS := hS.2
            refine OpH.no rfl rfl rfl ⟨fun _ => ⟨g127, trivial⟩, ?_⟩
            refine ⟨?_, trivial⟩
            refine OpH.no rfl rfl rfl ⟨fun _ => ⟨g127, trivial⟩, ?_⟩
            exact j128 _ _ ⟨⟨rfl, rfl, rfl, rfl, rfl, rfl, rfl, trivial⟩, g127, hS⟩
         ·have hS := hS.2
          refine OpH.no rfl rfl rfl ⟨fun _ => ⟨g127, trivial⟩, ?_⟩
          refine RunT.skip rfl rfl rfl ?_
          refine RunT.skip rfl rfl rfl ?_
          refine ⟨?_, ?_, trivial⟩
          ·have hS := hS.1
           refine OpH.no rfl rfl rfl ⟨fun _ => ⟨g127, trivial⟩, ?_⟩
           refine ⟨?_, ?_, trivial⟩
           ·have hS := hS.1
            refine OpH.no rfl rfl rfl ⟨fun _ => ⟨g127, trivial⟩, ?_⟩
            refine ⟨?_, trivial⟩
            refine OpH.no rfl rfl rfl ⟨fun _ => ⟨g127, trivial⟩, ?_⟩
            exact j128 _ _ ⟨⟨rfl, rfl, rfl, rfl, rfl, rfl, rfl, trivial⟩, g127, hS⟩
           ·have hS := hS.2
            refine OpH.no rfl rfl rfl ⟨fun _ => ⟨g127, trivial⟩, ?_⟩
            refine ⟨?_, trivial⟩
            refine OpH.no rfl rfl rfl ⟨fun _ => ⟨g127, trivial⟩, ?_⟩
            exact j128 _ _ ⟨⟨rfl, rfl, rfl, rfl, rfl, rfl, rfl, trivial⟩, g127, hS⟩
          ·have hS := hS.2
           refine OpH.no rfl rfl rfl ⟨fun _ => ⟨g127, trivial⟩, ?_⟩
           refine ⟨?_, trivial⟩
           refine OpH.no rfl rfl rfl ⟨fun _ => ⟨g127, trivial⟩, ?_⟩
           refine ⟨?_, trivial⟩
           refine OpH.no rfl rfl rfl ⟨fun _ => ⟨g127, trivial⟩, ?_⟩
           exact j128 _ _ ⟨⟨rfl, rfl, rfl, rfl, rfl, rfl, rfl, trivial⟩, g127, hS⟩
        refine ⟨?_, ?_, trivial⟩
        ·have hS := hS.1
         refine OpH.no rfl rfl rfl ⟨fun _ => ⟨g124, trivial⟩, ?_⟩
         refine ⟨?_, ?_, trivial⟩
         ·have hS := hS.1
          refine OpH.no rfl rfl rfl ⟨fun _ => ⟨g124, trivial⟩, ?_⟩
          refine ⟨?_, trivial⟩
          refine OpH.no rfl rfl rfl ⟨fun _ => ⟨g124, trivial⟩, ?_⟩
          exact j125 _ _ ⟨⟨rfl, rfl, rfl, rfl, rfl, rfl, rfl, trivial⟩, g124, hS⟩
         ·have hS := hS.2
          refine OpH.no rfl rfl rfl ⟨fun _ => ⟨g124, trivial⟩, ?_⟩
          refine ⟨?_, trivial⟩
          refine OpH.no rfl rfl rfl ⟨fun _ => ⟨g124, trivial⟩, ?_⟩
          exact j125 _ _ ⟨⟨rfl, rfl, rfl, rfl, rfl, rfl, rfl, trivial⟩, g124, hS⟩
        ·have hS := hS.2
         refine OpH.no rfl rfl rfl ⟨fun _ => ⟨g124, trivial⟩, ?_⟩
         refine ⟨?_, trivial⟩
         refine OpH.no rfl rfl rfl ⟨fun _ => ⟨g124, trivial⟩, ?_⟩
         refine ⟨?_, trivial⟩
         refine OpH.no rfl rfl rfl ⟨fun _ => ⟨g124, trivial⟩, ?_⟩
         exact j125 _ _ ⟨⟨rfl, rfl, rfl, rfl, rfl, rfl, rfl, trivial⟩, g124, hS⟩
       ·have hS := hT rfl; clear hT hF
        obtain ⟨g131, hS⟩ := hS
        refine ⟨fun _ => ⟨g131, trivial⟩, ?_⟩
        refine RunT.quiet rfl rfl rfl (fun h' hC => sem_not true rfl ⟨rfl, rfl⟩) ?_
        refine RunT.quiet rfl rfl rfl (fun h' hC => sem_move ((Value.bool false)) rfl ⟨rfl, rfl⟩) ?_
        refine RunT.quiet rfl rfl rfl (fun h' hC => sem_move ((Value.pointer p24)) rfl ⟨rfl, rfl⟩) ?_
        obtain ⟨A132, e133, hS⟩ := hS
        refine RunT.quiet rfl rfl rfl (fun h' hC => sem_nilCheck A132 (congrArg Value.pointer e133) ⟨rfl, rfl⟩) ?_
        refine RunT.quiet rfl rfl rfl (fun h' hC => sem_fieldAddr A132 1 rfl TF.fld_85_1 ⟨rfl, rfl⟩) ?_
        refine RunT.quiet rfl rfl rfl (fun h' hC => sem_move ((Value.pointer p24)) rfl ⟨rfl, rfl⟩) ?_
        obtain ⟨A134, e135, hS⟩ := hS
        refine RunT.quiet rfl rfl rfl (fun h' hC => sem_nilCheck A134 (congrArg Value.pointer e135) ⟨rfl, rfl⟩) ?_
        refine RunT.quiet rfl rfl rfl (fun h' hC => sem_fieldAddr A134 2 rfl TF.fld_85_2 ⟨rfl, rfl⟩) ?_
        refine RunT.joinJ (t := (.x 19 (.q 20 (.q 21 (.q 22 (.q 23 (.q 24 (.q 25 (.q 28 (.q 29 (.q 30 (.x 26 (.x 27 (.x 31 (.q 32 (.q 33 (.x 34 (.q 35 (.q 36 (.q 37 (.q 38 (.q 39 (.q 40 (.q 43 (.q 44 (.x 41 (.x 42 (.q 45 (.q 46 (.q 47 (.q 48 (.q 49 (.q 50 (.q 53 (.x 51 (.x 52 (.q 54 (.q 55 .nil)) .no) .no)))))))) .no) .no))))))))) .no))) .no) (.x 31 (.q 32 (.q 33 (.x 27 (.x 34 (.q 35 (.q 36 (.q 37 (.q 38 (.q 39 (.q 40 (.q 43 (.q 44 (.x 41 (.x 42 (.q 45 (.q 46 (.q 47 (.q 48 (.q 49 (.q 50 (.q 53 (.x 51 (.x 52 (.q 54 (.q 55 .nil)) .no) .no)))))))) .no) .no))))))))) .no) (.x 34 (.x 27 (.q 35 (.q 36 (.q 37 (.q 38 (.q 39 (.q 40 (.q 43 (.q 44 (.x 41 (.x 42 (.q 45 (.q 46 (.q 47 (.q 48 (.q 49 (.q 50 (.q 53 (.x 51 (.x 52 (.q 54 (.q 55 .nil)) .no) .no)))))))) .no) .no))))))))) .no) .no)))) .no)) (.x 31 (.q 32 (.q 33 (.x 26 (.x 27 (.x 34 (.q 35 (.q 36 (.q 37 (.q 38 (.q 39 (.q 40 (.q 43 (.q 44 (.x 41 (.x 42 (.q 45 (.q 46 (.q 47 (.q 48 (.q 49 (.q 50 (.q 53 (.x 51 (.x 52 (.q 54 (.q 55 .nil)) .no) .no)))))))) .no) .no))))))))) .no) (.x 34 (.x 27 (.q 35 (.q 36 (.q 37 (.q 38 (.q 39 (.q 40 (.q 43 (.q 44 (.x 41 (.x 42 (.q 45 (.q 46 (.q 47 (.q 48 (.q 49 (.q 50 (.q 53 (.x 51 (.x 52 (.q 54 (.q 55 .nil)) .no) .no)))))))) .no) .no))))))))) .no) .no)) (.x 34 (.x 26 (.x 27 (.q 35 (.q 36 (.q 37 (.q 38 (.q 39 (.q 40 (.q 43 (.q 44 (.x 41 (.x 42 (.q 45 (.q 46 (.q 47 (.q 48 (.q 49 (.q 50 (.q 53 (.x 51 (.x 52 (.q 54 (.q 55 .nil)) .no) .no)))))))) .no) .no))))))))) .no) .no) .no)))) .no))))))))))) .no)) (fun e h153 => ∃ i151 : Int, ∃ p152 : Option Addr, Agree [(0, (Value.int .i64 (i1))), (10, (Value.pointer p24)), (14, (Value.slice a93 n94 c95)), (79, (Value.slice a2 n3 c4)), (80, (Value.int .i64 ((n3 : Nat)))), (81, (Value.int .i64 (i25))), (123, (Value.bool false)), (128, (Value.int .i64 (i151))), (132, (Value.pointer p152))] e ∧ cellH B h153 (Addr.add A105 1) = some (Value.pointer p109) ∧ S_countermandlaw04_WalDoes_J5 B i1 a2 n3 c4 p24 i25 m27 J30 a93 n94 c95 A105 p109 i151 p152 h153 Q) ?_ fun j150 => ?_
        ·rintro e h153 ⟨i151, p152, hag, g154, hS⟩
         refine RunT.env hag ?_; clear hag
         refine ⟨?_, trivial⟩
         refine OpH.go rfl rfl rfl (sem_callL [(Value.pointer p152)] (TF.goes_59) rfl rfl (Spec.mono hS fun v h155 hv => ?_))
         obtain ⟨i156, rfl, hS⟩ := hv
         obtain ⟨g157, hS⟩ := hS
         refine ⟨fun _ => ⟨g157, trivial⟩, ?_⟩
         obtain ⟨hT, hF⟩ := hS
         by_cases hb158 : (i151 : Int) = i156
         ·have hS := hT hb158; clear hT hF
          refine RunT.quiet rfl rfl rfl (fun h' hC => sem_binI .i64 (i151) (i156) (.bool false) rfl rfl (binI_neq_t hb158) ⟨rfl, rfl⟩) ?_
          refine RunT.quiet rfl rfl rfl (fun h' hC => sem_pick false ((Value.bool false)) rfl rfl ⟨rfl, rfl⟩) ?_
          refine RunT.quiet rfl rfl rfl (fun h' hC => sem_move ((Value.bool false)) rfl ⟨rfl, rfl⟩) ?_
          refine RunT.quiet rfl rfl rfl (fun h' hC => sem_move ((Value.pointer p24)) rfl ⟨rfl, rfl⟩) ?_
          obtain ⟨A159, e160, hS⟩ := hS
          refine RunT.quiet rfl rfl rfl (fun h' hC => sem_nilCheck A159 (congrArg Value.pointer e160) ⟨rfl, rfl⟩) ?_
          refine RunT.quiet rfl rfl rfl (fun h' hC => sem_fieldAddr A159 1 rfl TF.fld_85_1 ⟨rfl, rfl⟩) ?_
          refine RunT.quiet rfl rfl rfl (fun h' hC => sem_move ((Value.pointer p24)) rfl ⟨rfl, rfl⟩) ?_
          obtain ⟨A161, e162, hS⟩ := hS
          refine RunT.quiet rfl rfl rfl (fun h' hC => sem_nilCheck A161 (congrArg Value.pointer e162) ⟨rfl, rfl⟩) ?_
          refine RunT.quiet rfl rfl rfl (fun h' hC => sem_fieldAddr A161 2 rfl TF.fld_85_2 ⟨rfl, rfl⟩) ?_
          refine RunT.joinJ (t := (.q 35 (.q 36 (.q 37 (.q 38 (.q 39 (.q 40 (.q 43 (.q 44 (.x 41 (.x 42 (.q 45 (.q 46 (.q 47 (.q 48 (.q 49 (.q 50 (.q 53 (.x 51 (.x 52 (.q 54 (.q 55 .nil)) .no) .no)))))))) .no) .no)))))))))) (fun e h202 => ∃ b200 : Bool, ∃ b201 : Bool, Agree [(0, (Value.int .i64 (i1))), (10, (Value.pointer p24)), (14, (Value.slice a93 n94 c95)), (79, (Value.slice a2 n3 c4)), (80, (Value.int .i64 ((n3 : Nat)))), (81, (Value.int .i64 (i25))), (136, (Value.bool false)), (141, (Value.bool b200)), (148, (Value.bool b201))] e ∧ cellH B h202 (Addr.add A105 1) = some (Value.pointer p109) ∧ S_countermandlaw04_WalDoes_J6 B i1 a2 n3 c4 p24 i25 m27 J30 a93 n94 c95 A105 p109 b200 b201 h202 Q) ?_ fun j199 => ?_
          ·rintro e h202 ⟨b200, b201, hag, g203, hS⟩
           refine RunT.env hag ?_; clear hag
           obtain ⟨hT, hF⟩ := hS
           by_cases hb204 : b200 = b201
           ·have hS := hT hb204; clear hT hF
            refine RunT.quiet rfl rfl rfl (fun h' hC => sem_boolEqT b200 b201 (.inr rfl) false rfl rfl TF.bool_4 hb204 rfl ⟨rfl, rfl⟩) ?_
            refine RunT.quiet rfl rfl rfl (fun h' hC => sem_pick false ((Value.bool false)) rfl rfl ⟨rfl, rfl⟩) ?_
            refine RunT.quiet rfl rfl rfl (fun h' hC => sem_move ((Value.bool false)) rfl ⟨rfl, rfl⟩) ?_
            refine RunT.quiet rfl rfl rfl (fun h' hC => sem_move ((Value.pointer p24)) rfl ⟨rfl, rfl⟩) ?_
            obtain ⟨A205, e206, hS⟩ := hS
            refine RunT.quiet rfl rfl rfl (fun h' hC => sem_nilCheck A205 (congrArg Value.pointer e206) ⟨rfl, rfl⟩) ?_
            refine RunT.quiet rfl rfl rfl (fun h' hC => sem_fieldAddr A205 1 rfl TF.fld_85_1 ⟨rfl, rfl⟩) ?_
            refine RunT.quiet rfl rfl rfl (fun h' hC => sem_move ((Value.slice a93 n94 c95)) rfl ⟨rfl, rfl⟩) ?_
            refine RunT.quiet rfl rfl rfl (fun h' hC => sem_lenSl a93 n94 c95 rfl TF.sl_55 ⟨rfl, rfl⟩) ?_
            refine ⟨?_, trivial⟩
            obtain ⟨p207, hl, hS⟩ := hS
            refine OpH.go rfl rfl rfl (sem_load1 (Addr.add A205 1) ((Value.pointer p207)) rfl TF.agg_57 hl ?_)
            refine ⟨fun _ => ⟨g203, trivial⟩, ?_⟩
            refine ⟨?_, trivial⟩
            refine OpH.go rfl rfl rfl (sem_callL [(Value.pointer p207)] (TF.goes_49) rfl rfl (Spec.mono hS fun v h208 hv => ?_))
            obtain ⟨i209, rfl, hS⟩ := hv
            obtain ⟨g210, hS⟩ := hS
            refine ⟨fun _ => ⟨g210, trivial⟩, ?_⟩
            obtain ⟨hT, hF⟩ := hS
            by_cases hb211 : (i209 : Int) = (n94 : Nat)
            ·have hS := hT hb211; clear hT hF
             refine RunT.quiet rfl rfl rfl (fun h' hC => sem_binI .i64 (i209) ((n94 : Nat)) (.bool false) rfl rfl (binI_neq_t hb211) ⟨rfl, rfl⟩) ?_
             refine RunT.quiet rfl rfl rfl (fun h' hC => sem_pick false ((Value.bool false)) rfl rfl ⟨rfl, rfl⟩) ?_
             refine RunT.quiet rfl rfl rfl (fun h' hC => sem_move ((Value.bool false)) rfl ⟨rfl, rfl⟩) ?_
             refine RunT.quiet rfl rfl rfl (fun h' hC => sem_move ((Value.pointer p24)) rfl ⟨rfl, rfl⟩) ?_
             obtain ⟨A212, e213, hS⟩ := hS
             refine RunT.quiet rfl rfl rfl (fun h' hC => sem_nilCheck A212 (congrArg Value.pointer e213) ⟨rfl, rfl⟩) ?_
             refine RunT.quiet rfl rfl rfl (fun h' hC => sem_fieldAddr A212 1 rfl TF.fld_85_1 ⟨rfl, rfl⟩) ?_
             refine RunT.quiet rfl rfl rfl (fun h' hC => sem_move ((Value.int .i64 (i1))) rfl ⟨rfl, rfl⟩) ?_
             refine ⟨?_, trivial⟩
             obtain ⟨p214, hl, hS⟩ := hS
             refine OpH.go rfl rfl rfl (sem_load1 (Addr.add A212 1) ((Value.pointer p214)) rfl TF.agg_57 hl ?_)
             refine ⟨fun _ => ⟨g210, trivial⟩, ?_⟩
             refine ⟨?_, trivial⟩
             refine OpH.go rfl rfl rfl (sem_callL [(Value.pointer p214)] (TF.goes_55) rfl rfl (Spec.mono hS fun v h215 hv => ?_))
             obtain ⟨i216, rfl, hS⟩ := hv
             obtain ⟨g217, hS⟩ := hS
             refine ⟨fun _ => ⟨g217, trivial⟩, ?_⟩
             obtain ⟨hT, hF⟩ := hS
             by_cases hb218 : (i216 : Int) = i1
             ·have hS := hT hb218; clear hT hF
              refine RunT.quiet rfl rfl rfl (fun h' hC => sem_binI .i64 (i216) (i1) (.bool false) rfl rfl (binI_neq_t hb218) ⟨rfl, rfl⟩) ?_
              refine RunT.quiet rfl rfl rfl (fun h' hC => sem_pick false ((Value.bool false)) rfl rfl ⟨rfl, rfl⟩) ?_
              exact Run.of_fin (hS.imp fun h' hS => j101 _ _ ⟨(false), ⟨rfl, rfl, rfl, rfl, rfl, rfl, trivial⟩, hS⟩)
             ·have hS := hF hb218; clear hT hF
              refine RunT.quiet rfl rfl rfl (fun h' hC => sem_binI .i64 (i216) (i1) (.bool true) rfl rfl (binI_neq_f hb218) ⟨rfl, rfl⟩) ?_
              refine RunT.quiet rfl rfl rfl (fun h' hC => sem_pick false ((Value.bool true)) rfl rfl ⟨rfl, rfl⟩) ?_
              exact Run.of_fin (hS.imp fun h' hS => j101 _ _ ⟨(true), ⟨rfl, rfl, rfl, rfl, rfl, rfl, trivial⟩, hS⟩)
            ·have hS := hF hb211; clear hT hF
             refine RunT.quiet rfl rfl rfl (fun h' hC => sem_binI .i64 (i209) ((n94 : Nat)) (.bool true) rfl rfl (binI_neq_f hb211) ⟨rfl, rfl⟩) ?_
             refine RunT.quiet rfl rfl rfl (fun h' hC => sem_pick false ((Value.bool true)) rfl rfl ⟨rfl, rfl⟩) ?_
             refine RunT.quiet rfl rfl rfl (fun h' hC => sem_move ((Value.bool true)) rfl ⟨rfl, rfl⟩) ?_
             refine RunT.skip rfl rfl rfl ?_
             refine RunT.skip rfl rfl rfl ?_
             refine RunT.skip rfl rfl rfl ?_
             refine RunT.skip rfl rfl rfl ?_
             refine ⟨?_, trivial⟩
             refine OpH.no rfl rfl rfl ⟨fun _ => ⟨g210, trivial⟩, ?_⟩
             refine ⟨?_, trivial⟩
             refine OpH.no rfl rfl rfl ⟨fun _ => ⟨g210, trivial⟩, ?_⟩
             refine RunT.skip rfl rfl rfl ?_
             refine RunT.quiet rfl rfl rfl (fun h' hC => sem_pick true ((Value.bool true)) rfl rfl ⟨rfl, rfl⟩) ?_
             exact Run.of_fin (hS.imp fun h' hS => j101 _ _ ⟨(true), ⟨rfl, rfl, rfl, rfl, rfl, rfl, trivial⟩, hS⟩)
           ·have hS := hF hb204; clear hT hF
            refine RunT.quiet rfl rfl rfl (fun h' hC => sem_boolEqF b200 b201 (.inr rfl) true rfl rfl TF.bool_4 hb204 rfl ⟨rfl, rfl⟩) ?_
            refine RunT.quiet rfl rfl rfl (fun h' hC => sem_pick false ((Value.bool true)) rfl rfl ⟨rfl, rfl⟩) ?_
            refine RunT.quiet rfl rfl rfl (fun h' hC => sem_move ((Value.bool true)) rfl ⟨rfl, rfl⟩) ?_
            refine RunT.skip rfl rfl rfl ?_
            refine RunT.skip rfl rfl rfl ?_
            refine RunT.skip rfl rfl rfl ?_
            refine RunT.skip rfl rfl rfl ?_
            refine RunT.skip rfl rfl rfl ?_
            refine ⟨?_, trivial⟩
            refine OpH.no rfl rfl rfl ⟨fun _ => ⟨g203, trivial⟩, ?_⟩
            refine ⟨?_, trivial⟩
            refine OpH.no rfl rfl rfl ⟨fun _ => ⟨g203, trivial⟩, ?_⟩
            refine RunT.skip rfl rfl rfl ?_
            refine RunT.quiet rfl rfl rfl (fun h' hC => sem_pick true ((Value.bool true)) rfl rfl ⟨rfl, rfl⟩) ?_
            refine RunT.quiet rfl rfl rfl (fun h' hC => sem_move ((Value.bool true)) rfl ⟨rfl, rfl⟩) ?_
            refine RunT.skip rfl rfl rfl ?_
            refine RunT.skip rfl rfl rfl ?_
            refine RunT.skip rfl rfl rfl ?_
            refine RunT.skip rfl rfl rfl ?_
            refine ⟨?_, trivial⟩
            refine OpH.no rfl rfl rfl ⟨fun _ => ⟨g203, trivial⟩, ?_⟩
            refine ⟨?_, trivial⟩
            refine OpH.no rfl rfl rfl ⟨fun _ => ⟨g203, trivial⟩, ?_⟩
            refine RunT.skip rfl rfl rfl ?_
            refine RunT.quiet rfl rfl rfl (fun h' hC => sem_pick true ((Value.bool true)) rfl rfl ⟨rfl, rfl⟩) ?_
            exact Run.of_fin (hS.imp fun h' hS => j101 _ _ ⟨(true), ⟨rfl, rfl, rfl, rfl, rfl, rfl, trivial⟩, hS⟩)
          refine ⟨?_, ?_, trivial⟩
          ·have hS := hS.1
           obtain ⟨p219, hl, hS⟩ := hS
           refine OpH.go rfl rfl rfl (sem_load1 (Addr.add A159 1) ((Value.pointer p219)) rfl TF.agg_57 hl ?_)
           refine ⟨fun _ => ⟨g157, trivial⟩, ?_⟩
           refine ⟨?_, ?_, trivial⟩
           ·have hS := hS.1
            refine OpH.go rfl rfl rfl (sem_callL [(Value.pointer p219)] (TF.goes_54) rfl rfl (Spec.mono hS fun v h220 hv => ?_))
            obtain ⟨b221, rfl, hS⟩ := hv
            obtain ⟨g222, hS⟩ := hS
            refine ⟨fun _ => ⟨g222, trivial⟩, ?_⟩
            refine ⟨?_, trivial⟩
            obtain ⟨p223, hl, hS⟩ := hS
            refine OpH.go rfl rfl rfl (sem_load1 (Addr.add A161 2) ((Value.pointer p223)) rfl TF.agg_83 hl ?_)
            refine ⟨fun _ => ⟨g222, trivial⟩, ?_⟩
            obtain ⟨A224, e225, hS⟩ := hS
            refine RunT.quiet rfl rfl rfl (fun h' hC => sem_nilCheck A224 (congrArg Value.pointer e225) ⟨rfl, rfl⟩) ?_
            refine RunT.quiet rfl rfl rfl (fun h' hC => sem_fieldAddr A224 2 rfl TF.fld_90_2 ⟨rfl, rfl⟩) ?_
            refine ⟨?_, trivial⟩
            obtain ⟨b226, hl, hS⟩ := hS
            refine OpH.go rfl rfl rfl (sem_load1 (Addr.add A224 2) ((Value.bool b226)) rfl TF.agg_4 hl ?_)
            refine ⟨fun _ => ⟨g222, trivial⟩, ?_⟩
            exact j199 _ _ ⟨(b221), (b226), ⟨rfl, rfl, rfl, rfl, rfl, rfl, rfl, rfl, rfl, trivial⟩, g222, hS⟩
           ·have hS := hS.2
            obtain ⟨p227, hl, hS⟩ := hS
            refine OpH.go rfl rfl rfl (sem_load1 (Addr.add A161 2) ((Value.pointer p227)) rfl TF.agg_83 hl ?_)
            refine ⟨fun _ => ⟨g157, trivial⟩, ?_⟩
            obtain ⟨A228, e229, hS⟩ := hS
            refine RunT.quiet rfl rfl rfl (fun h' hC => sem_nilCheck A228 (congrArg Value.pointer e229) ⟨rfl, rfl⟩) ?_
            refine RunT.quiet rfl rfl rfl (fun h' hC => sem_fieldAddr A228 2 rfl TF.fld_90_2 ⟨rfl, rfl⟩) ?_
            refine ⟨?_, ?_, trivial⟩
            ·have hS := hS.1
             refine OpH.go rfl rfl rfl (sem_callL [(Value.pointer p219)] (TF.goes_54) rfl rfl (Spec.mono hS fun v h230 hv => ?_))
             obtain ⟨b231, rfl, hS⟩ := hv
             obtain ⟨g232, hS⟩ := hS
             refine ⟨fun _ => ⟨g232, trivial⟩, ?_⟩
             refine ⟨?_, trivial⟩
             obtain ⟨b233, hl, hS⟩ := hS
             refine OpH.go rfl rfl rfl (sem_load1 (Addr.add A228 2) ((Value.bool b233)) rfl TF.agg_4 hl ?_)
             refine ⟨fun _ => ⟨g232, trivial⟩, ?_⟩
             exact j199 _ _ ⟨(b231), (b233), ⟨rfl, rfl, rfl, rfl, rfl, rfl, rfl, rfl, rfl, trivial⟩, g232, hS⟩
            ·have hS := hS.2
             obtain ⟨b234, hl, hS⟩ := hS
             refine OpH.go rfl rfl rfl (sem_load1 (Addr.add A228 2) ((Value.bool b234)) rfl TF.agg_4 hl ?_)
             refine ⟨fun _ => ⟨g157, trivial⟩, ?_⟩
             refine ⟨?_, trivial⟩
             refine OpH.go rfl rfl rfl (sem_callL [(Value.pointer p219)] (TF.goes_54) rfl rfl (Spec.mono hS fun v h235 hv => ?_))
             obtain ⟨b236, rfl, hS⟩ := hv
             obtain ⟨g237, hS⟩ := hS
             refine ⟨fun _ => ⟨g237, trivial⟩, ?_⟩
             exact j199 _ _ ⟨(b236), (b234), ⟨rfl, rfl, rfl, rfl, rfl, rfl, rfl, rfl, rfl, trivial⟩, g237, hS⟩
          ·have hS := hS.2
           obtain ⟨p238, hl, hS⟩ := hS
           refine OpH.go rfl rfl rfl (sem_load1 (Addr.add A161 2) ((Value.pointer p238)) rfl TF.agg_83 hl ?_)
           refine ⟨fun _ => ⟨g157, trivial⟩, ?_⟩
           obtain ⟨A239, e240, hS⟩ := hS
           refine RunT.quiet rfl rfl rfl (fun h' hC => sem_nilCheck A239 (congrArg Value.pointer e240) ⟨rfl, rfl⟩) ?_
           refine RunT.quiet rfl rfl rfl (fun h' hC => sem_fieldAddr A239 2 rfl TF.fld_90_2 ⟨rfl, rfl⟩) ?_
           refine ⟨?_, ?_, trivial⟩
           ·have hS := hS.1
            obtain ⟨p241, hl, hS⟩ := hS
            refine OpH.go rfl rfl rfl (sem_load1 (Addr.add A159 1) ((Value.pointer p241)) rfl TF.agg_57 hl ?_)
            refine ⟨fun _ => ⟨g157, trivial⟩, ?_⟩
            refine ⟨?_, ?_, trivial⟩
            ·have hS := hS.1
             refine OpH.go rfl rfl rfl (sem_callL [(Value.pointer p241)] (TF.goes_54) rfl rfl (Spec.mono hS fun v h242 hv => ?_))
             obtain ⟨b243, rfl, hS⟩ := hv
             obtain ⟨g244, hS⟩ := hS
             refine ⟨fun _ => ⟨g244, trivial⟩, ?_⟩
             refine ⟨?_, trivial⟩
             obtain ⟨b245, hl, hS⟩ := hS
             refine OpH.go rfl rfl rfl (sem_load1 (Addr.add A239 2) ((Value.bool b245)) rfl TF.agg_4 hl ?_)
             refine ⟨fun _ => ⟨g244, trivial⟩, ?_⟩
             exact j199 _ _ ⟨(b243), (b245), ⟨rfl, rfl, rfl, rfl, rfl, rfl, rfl, rfl, rfl, trivial⟩, g244, hS⟩
            ·have hS := hS.2
             obtain ⟨b246, hl, hS⟩ := hS
             refine OpH.go rfl rfl rfl (sem_load1 (Addr.add A239 2) ((Value.bool b246)) rfl TF.agg_4 hl ?_)
             refine ⟨fun _ => ⟨g157, trivial⟩, ?_⟩
             refine ⟨?_, trivial⟩
             refine OpH.go rfl rfl rfl (sem_callL [(Value.pointer p241)] (TF.goes_54) rfl rfl (Spec.mono hS fun v h247 hv => ?_))
             obtain ⟨b248, rfl, hS⟩ := hv
             obtain ⟨g249, hS⟩ := hS
             refine ⟨fun _ => ⟨g249, trivial⟩, ?_⟩
             exact j199 _ _ ⟨(b248), (b246), ⟨rfl, rfl, rfl, rfl, rfl, rfl, rfl, rfl, rfl, trivial⟩, g249, hS⟩
           ·have hS := hS.2
            obtain ⟨b250, hl, hS⟩ := hS
            refine OpH.go rfl rfl rfl (sem_load1 (Addr.add A239 2) ((Value.bool b250)) rfl TF.agg_4 hl ?_)
            refine ⟨fun _ => ⟨g157, trivial⟩, ?_⟩
            refine ⟨?_, trivial⟩
            obtain ⟨p251, hl, hS⟩ := hS
            refine OpH.go rfl rfl rfl (sem_load1 (Addr.add A159 1) ((Value.pointer p251)) rfl TF.agg_57 hl ?_)
            refine ⟨fun _ => ⟨g157, trivial⟩, ?_⟩
            refine ⟨?_, trivial⟩
            refine OpH.go rfl rfl rfl (sem_callL [(Value.pointer p251)] (TF.goes_54) rfl rfl (Spec.mono hS fun v h252 hv => ?_))
            obtain ⟨b253, rfl, hS⟩ := hv
            obtain ⟨g254, hS⟩ := hS
            refine ⟨fun _ => ⟨g254, trivial⟩, ?_⟩
            exact j199 _ _ ⟨(b253), (b250), ⟨rfl, rfl, rfl, rfl, rfl, rfl, rfl, rfl, rfl, trivial⟩, g254, hS⟩
         ·have hS := hF hb158; clear hT hF
          refine RunT.quiet rfl rfl rfl (fun h' hC => sem_binI .i64 (i151) (i156) (.bool true) rfl rfl (binI_neq_f hb158) ⟨rfl, rfl⟩) ?_
          refine RunT.quiet rfl rfl rfl (fun h' hC => sem_pick false ((Value.bool true)) rfl rfl ⟨rfl, rfl⟩) ?_
          refine RunT.quiet rfl rfl rfl (fun h' hC => sem_move ((Value.bool true)) rfl ⟨rfl, rfl⟩) ?_
          refine RunT.skip rfl rfl rfl ?_
          refine RunT.skip rfl rfl rfl ?_
          refine RunT.skip rfl rfl rfl ?_
          refine RunT.skip rfl rfl rfl ?_
          refine RunT.skip rfl rfl rfl ?_
          refine RunT.skip rfl rfl rfl ?_
          refine RunT.joinJ (t := (.q 35 (.q 36 (.q 37 (.q 38 (.q 39 (.q 40 (.q 43 (.q 44 (.x 41 (.x 42 (.q 45 (.q 46 (.q 47 (.q 48 (.q 49 (.q 50 (.q 53 (.x 51 (.x 52 (.q 54 (.q 55 .nil)) .no) .no)))))))) .no) .no)))))))))) (fun e h256 => Agree [(0, (Value.int .i64 (i1))), (10, (Value.pointer p24)), (14, (Value.slice a93 n94 c95)), (79, (Value.slice a2 n3 c4)), (80, (Value.int .i64 ((n3 : Nat)))), (81, (Value.int .i64 (i25))), (136, (Value.bool true))] e ∧ cellH B h256 (Addr.add A105 1) = some (Value.pointer p109) ∧ S_countermandlaw04_WalDoes_J7 B i1 a2 n3 c4 p24 i25 m27 J30 a93 n94 c95 A105 p109 h256 Q) ?_ fun j255 => ?_
          ·rintro e h256 ⟨hag, g257, hS⟩
           refine RunT.env hag ?_; clear hag
           refine RunT.skip rfl rfl rfl ?_
           refine RunT.quiet rfl rfl rfl (fun h' hC => sem_pick true ((Value.bool true)) rfl rfl ⟨rfl, rfl⟩) ?_
           refine RunT.quiet rfl rfl rfl (fun h' hC => sem_move ((Value.bool true)) rfl ⟨rfl, rfl⟩) ?_
           refine RunT.skip rfl rfl rfl ?_
           refine RunT.skip rfl rfl rfl ?_
           refine RunT.skip rfl rfl rfl ?_
           refine RunT.skip rfl rfl rfl ?_
           refine RunT.skip rfl rfl rfl ?_
           refine ⟨?_, trivial⟩
           refine OpH.no rfl rfl rfl ⟨fun _ => ⟨g257, trivial⟩, ?_⟩
           refine ⟨?_, trivial⟩
           refine OpH.no rfl rfl rfl ⟨fun _ => ⟨g257, trivial⟩, ?_⟩
           refine RunT.skip rfl rfl rfl ?_
           refine RunT.quiet rfl rfl rfl (fun h' hC => sem_pick true ((Value.bool true)) rfl rfl ⟨rfl, rfl⟩) ?_
           refine RunT.quiet rfl rfl rfl (fun h' hC => sem_move ((Value.bool true)) rfl ⟨rfl, rfl⟩) ?_
           refine RunT.skip rfl rfl rfl ?_
           refine RunT.skip rfl rfl rfl ?_
           refine RunT.skip rfl rfl rfl ?_
           refine RunT.skip rfl rfl rfl ?_
           refine ⟨?_, trivial⟩
           refine OpH.no rfl rfl rfl ⟨fun _ => ⟨g257, trivial⟩, ?_⟩
           refine ⟨?_, trivial⟩
           refine OpH.no rfl rfl rfl ⟨fun _ => ⟨g257, trivial⟩, ?_⟩
           refine RunT.skip rfl rfl rfl ?_
           refine RunT.quiet rfl rfl rfl (fun h' hC => sem_pick true ((Value.bool true)) rfl rfl ⟨rfl, rfl⟩) ?_
           exact Run.of_fin (hS.imp fun h' hS => j101 _ _ ⟨(true), ⟨rfl, rfl, rfl, rfl, rfl, rfl, trivial⟩, hS⟩)
          refine ⟨?_, ?_, trivial⟩
          ·have hS := hS.1
           refine OpH.no rfl rfl rfl ⟨fun _ => ⟨g157, trivial⟩, ?_⟩
           refine ⟨?_, ?_, trivial⟩
           ·have hS := hS.1
            refine OpH.no rfl rfl rfl ⟨fun _ => ⟨g157, trivial⟩, ?_⟩
            refine ⟨?_, trivial⟩
            refine OpH.no rfl rfl rfl ⟨fun _ => ⟨g157, trivial⟩, ?_⟩
            refine RunT.skip rfl rfl rfl ?_
            refine RunT.skip rfl rfl rfl ?_
            refine ⟨?_, trivial⟩
            refine OpH.no rfl rfl rfl ⟨fun _ => ⟨g157, trivial⟩, ?_⟩
            exact j255 _ _ ⟨⟨rfl, rfl, rfl, rfl, rfl, rfl, rfl, trivial⟩, g157, hS⟩
           ·have hS := hS.2
            refine OpH.no rfl rfl rfl ⟨fun _ => ⟨g157, trivial⟩, ?_⟩
            refine RunT.skip rfl rfl rfl ?_
            refine RunT.skip rfl rfl rfl ?_
            refine ⟨?_, ?_, trivial⟩
            ·have hS := hS.1
             refine OpH.no rfl rfl rfl ⟨fun _ => ⟨g157, trivial⟩, ?_⟩
             refine ⟨?_, trivial⟩
             refine OpH.no rfl rfl rfl ⟨fun _ => ⟨g157, trivial⟩, ?_⟩
             exact j255 _ _ ⟨⟨rfl, rfl, rfl, rfl, rfl, rfl, rfl, trivial⟩, g157, hS⟩
            ·have hS := hS.2
             refine OpH.no rfl rfl rfl ⟨fun _ => ⟨g157, trivial⟩, ?_⟩
             refine ⟨?_, trivial⟩
             refine OpH.no rfl rfl rfl ⟨fun _ => ⟨g157, trivial⟩, ?_⟩
             exact j255 _ _ ⟨⟨rfl, rfl, rfl, rfl, rfl, rfl, rfl, trivial⟩, g157, hS⟩
          ·have hS := hS.2
           refine OpH.no rfl rfl rfl ⟨fun _ => ⟨g157, trivial⟩, ?_⟩
           refine RunT.skip rfl rfl rfl ?_
           refine RunT.skip rfl rfl rfl ?_
           refine ⟨?_, ?_, trivial⟩
           ·have hS := hS.1
            refine OpH.no rfl rfl rfl ⟨fun _ => ⟨g157, trivial⟩, ?_⟩
            refine ⟨?_, ?_, trivial⟩
            ·have hS := hS.1
             refine OpH.no rfl rfl rfl ⟨fun _ => ⟨g157, trivial⟩, ?_⟩
             refine ⟨?_, trivial⟩
             refine OpH.no rfl rfl rfl ⟨fun _ => ⟨g157, trivial⟩, ?_⟩
             exact j255 _ _ ⟨⟨rfl, rfl, rfl, rfl, rfl, rfl, rfl, trivial⟩, g157, hS⟩
            ·have hS := hS.2
             refine OpH.no rfl rfl rfl ⟨fun _ => ⟨g157, trivial⟩, ?_⟩
             refine ⟨?_, trivial⟩
             refine OpH.no rfl rfl rfl ⟨fun _ => ⟨g157, trivial⟩, ?_⟩
             exact j255 _ _ ⟨⟨rfl, rfl, rfl, rfl, rfl, rfl, rfl, trivial⟩, g157, hS⟩
           ·have hS := hS.2
            refine OpH.no rfl rfl rfl ⟨fun _ => ⟨g157, trivial⟩, ?_⟩
            refine ⟨?_, trivial⟩
            refine OpH.no rfl rfl rfl ⟨fun _ => ⟨g157, trivial⟩, ?_⟩
            refine ⟨?_, trivial⟩
            refine OpH.no rfl rfl rfl ⟨fun _ => ⟨g157, trivial⟩, ?_⟩
            exact j255 _ _ ⟨⟨rfl, rfl, rfl, rfl, rfl, rfl, rfl, trivial⟩, g157, hS⟩
        refine ⟨?_, ?_, trivial⟩
        ·have hS := hS.1
         obtain ⟨p258, hl, hS⟩ := hS
         refine OpH.go rfl rfl rfl (sem_load1 (Addr.add A132 1) ((Value.pointer p258)) rfl TF.agg_57 hl ?_)
         refine ⟨fun _ => ⟨g131, trivial⟩, ?_⟩
         refine ⟨?_, ?_, trivial⟩
         ·have hS := hS.1
          refine OpH.go rfl rfl rfl (sem_callL [(Value.pointer p258)] (TF.goes_53) rfl rfl (Spec.mono hS fun v h259 hv => ?_))
          obtain ⟨i260, rfl, hS⟩ := hv
          obtain ⟨g261, hS⟩ := hS
          refine ⟨fun _ => ⟨g261, trivial⟩, ?_⟩
          refine ⟨?_, trivial⟩
          obtain ⟨p262, hl, hS⟩ := hS
          refine OpH.go rfl rfl rfl (sem_load1 (Addr.add A134 2) ((Value.pointer p262)) rfl TF.agg_83 hl ?_)
          refine ⟨fun _ => ⟨g261, trivial⟩, ?_⟩
          exact j150 _ _ ⟨(i260), p262, ⟨rfl, rfl, rfl, rfl, rfl, rfl, rfl, rfl, rfl, trivial⟩, g261, hS⟩
         ·have hS := hS.2
          obtain ⟨p263, hl, hS⟩ := hS
          refine OpH.go rfl rfl rfl (sem_load1 (Addr.add A134 2) ((Value.pointer p263)) rfl TF.agg_83 hl ?_)
          refine ⟨fun _ => ⟨g131, trivial⟩, ?_⟩
          refine ⟨?_, trivial⟩
          refine OpH.go rfl rfl rfl (sem_callL [(Value.pointer p258)] (TF.goes_53) rfl rfl (Spec.mono hS fun v h264 hv => ?_))
          obtain ⟨i265, rfl, hS⟩ := hv
          obtain ⟨g266, hS⟩ := hS
          refine ⟨fun _ => ⟨g266, trivial⟩, ?_⟩
          exact j150 _ _ ⟨(i265), p263, ⟨rfl, rfl, rfl, rfl, rfl, rfl, rfl, rfl, rfl, trivial⟩, g266, hS⟩
        ·have hS := hS.2
         obtain ⟨p267, hl, hS⟩ := hS
         refine OpH.go rfl rfl rfl (sem_load1 (Addr.add A134 2) ((Value.pointer p267)) rfl TF.agg_83 hl ?_)
         refine ⟨fun _ => ⟨g131, trivial⟩, ?_⟩
         refine ⟨?_, trivial⟩
         obtain ⟨p268, hl, hS⟩ := hS
         refine OpH.go rfl rfl rfl (sem_load1 (Addr.add A132 1) ((Value.pointer p268)) rfl TF.agg_57 hl ?_)
         refine ⟨fun _ => ⟨g131, trivial⟩, ?_⟩
         refine ⟨?_, trivial⟩
         refine OpH.go rfl rfl rfl (sem_callL [(Value.pointer p268)] (TF.goes_53) rfl rfl (Spec.mono hS fun v h269 hv => ?_))
         obtain ⟨i270, rfl, hS⟩ := hv
         obtain ⟨g271, hS⟩ := hS
         refine ⟨fun _ => ⟨g271, trivial⟩, ?_⟩
         exact j150 _ _ ⟨(i270), p267, ⟨rfl, rfl, rfl, rfl, rfl, rfl, rfl, rfl, rfl, trivial⟩, g271, hS⟩
     ·have hS := hF hb31; clear hT hF
      refine Run.go rfl rfl rfl (sem_binI .i64 (i25) ((n3 : Nat)) (.bool false) rfl rfl (binI_lss_f hb31) ?_)
      refine Run.region_end ?_
      refine Run.seq ?_
      refine Run.condF rfl ?_
      refine Run.exit rfl ?_
      refine Run.seq ?_
      refine Run.ops0 (idx := [0]) rfl ?_
      refine Run.go rfl rfl rfl (sem_assign ((Value.bool true)) rfl ?_)
      refine Run.region_end ?_
      refine Run.ret ⟨.inr rfl, ?_⟩
      exact hS.imp fun h' hq => ⟨(true), rfl, hq⟩
    ·have hS := hF hb22; clear hT hF
     refine Run.go rfl rfl rfl (sem_binI .i64 (i17) (0) (.bool true) rfl rfl (binI_neq_f hb22) ?_)
     refine Run.region_end ?_
     refine Run.condT rfl ?_
     refine Run.seq ?_
     refine Run.ops0 (idx := [0, 1, 2]) rfl ?_
     refine Run.go rfl rfl rfl (sem_move ((Value.int .i64 (i17))) rfl ?_)
     refine Run.go rfl rfl rfl (sem_binI .i64 (i17) (1) ((Value.bool ((i17 : Int) == (1)))) rfl rfl rfl ?_)
     refine Run.go rfl rfl rfl (sem_assign ((Value.bool ((i17 : Int) == (1)))) rfl ?_)
     refine Run.region_end ?_
     refine Run.ret ⟨.inr rfl, ?_⟩
     exact hS.imp fun h' hq => ⟨(((i17 : Int) == (1))), rfl, hq⟩
   refine Run.seq ?_
   refine Run.ops0 (idx := [0, 1, 2, 3, 4, 5, 6, 7, 8, 9, 10, 11, 12, 13, 14, 15, 16, 17, 18, 19, 20, 21, 22, 23, 24, 25, 26, 27, 28, 29, 30, 31, 32, 33, 34, 35, 36, 37, 38]) rfl ?_
   refine Run.go rfl rfl rfl (sem_move ((Value.int .i64 (i12))) rfl ?_)
   obtain ⟨hT, hF⟩ := hS
   by_cases hb272 : (i12 : Int) = 2
   ·have hS := hT hb272; clear hT hF
    refine Run.go rfl rfl rfl (sem_binI .i64 (i12) (2) (.bool false) rfl rfl (binI_neq_t hb272) ?_)
    refine Run.go rfl rfl rfl (sem_move ((Value.bool false)) rfl ?_)
    refine Run.go rfl rfl rfl (sem_move ((Value.int .i64 (i17))) rfl ?_)
    refine Run.go rfl rfl rfl (sem_binI .i64 (i17) (0) ((Value.bool ((i17 : Int) == (0)))) rfl rfl rfl ?_)
    refine Run.go rfl rfl rfl (sem_move ((Value.int .i64 (i1))) rfl ?_)
    obtain ⟨hT, hF⟩ := hS
    by_cases hb273 : (i1 : Int) = 0
    ·have hS := hT hb273; clear hT hF
     refine Run.go rfl rfl rfl (sem_binI .i64 (i1) (0) (.bool true) rfl rfl (binI_eql_t hb273) ?_)
     refine Run.go rfl rfl rfl (sem_move ((Value.bool true)) rfl ?_)
     refine Run.no rfl rfl rfl ?_
     refine Run.no rfl rfl rfl ?_
     refine Run.go rfl rfl rfl (sem_pick true ((Value.bool true)) rfl rfl ?_)
     obtain ⟨hT, hF⟩ := hS
     by_cases hb274 : ((i17 : Int) == (0)) = true
     ·have hS := hT hb274; clear hT hF
      refine Run.go rfl rfl rfl (sem_boolEqT ((i17 : Int) == (0)) true (.inr rfl) false rfl rfl TF.bool_4 hb274 rfl ?_)
      refine Run.go rfl rfl rfl (sem_pick false ((Value.bool false)) rfl rfl ?_)
      refine Run.go rfl rfl rfl (sem_move ((Value.bool false)) rfl ?_)
      refine Run.go rfl rfl rfl (sem_move ((Value.pointer none)) rfl ?_)
      refine Run.go rfl rfl rfl (sem_callL [(Value.pointer none), (Value.string (ByteArray.mk #[]))] (TF.goes_38) rfl rfl (Spec.mono hS fun v h275 hv => ?_))
      obtain ⟨i276, rfl, hS⟩ := hv
      obtain ⟨hT, hF⟩ := hS
      by_cases hb277 : (i276 : Int) = 2
      ·have hS := hT hb277; clear hT hF
       refine Run.go rfl rfl rfl (sem_binI .i64 (i276) (2) (.bool false) rfl rfl (binI_neq_t hb277) ?_)
       refine Run.go rfl rfl rfl (sem_pick false ((Value.bool false)) rfl rfl ?_)
       refine Run.go rfl rfl rfl (sem_move ((Value.bool false)) rfl ?_)
       refine Run.go rfl rfl rfl (sem_move ((Value.pointer none)) rfl ?_)
       refine Run.go rfl rfl rfl (sem_callL [(Value.pointer none)] (TF.goes_39) rfl rfl (Spec.mono hS fun v h278 hv => ?_))
       obtain ⟨a279, n280, c281, rfl, hS⟩ := hv
       refine Run.go rfl rfl rfl (sem_lenSl a279 n280 c281 rfl TF.sl_55 ?_)
       obtain ⟨hT, hF⟩ := hS
       by_cases hb282 : ((n280 : Nat) : Int) = 0
       ·have hS := hT hb282; clear hT hF
        refine Run.go rfl rfl rfl (sem_binI .i64 ((n280 : Nat)) (0) (.bool false) rfl rfl (binI_neq_t hb282) ?_)
        refine Run.go rfl rfl rfl (sem_pick false ((Value.bool false)) rfl rfl ?_)
        refine Run.go rfl rfl rfl (sem_move ((Value.bool false)) rfl ?_)
        refine Run.go rfl rfl rfl (sem_move ((Value.pointer none)) rfl ?_)
        refine Run.go rfl rfl rfl (sem_callL [(Value.pointer none)] (TF.goes_49) rfl rfl (Spec.mono hS fun v h283 hv => ?_))
        obtain ⟨i284, rfl, hS⟩ := hv
        refine Run.go rfl rfl rfl (sem_move ((Value.pointer none)) rfl ?_)
        refine Run.go rfl rfl rfl (sem_callL [(Value.pointer none)] (TF.goes_53) rfl rfl (Spec.mono hS fun v h285 hv => ?_))
        obtain ⟨i286, rfl, hS⟩ := hv
        refine Run.go rfl rfl rfl (sem_binI .i64 (i284) (i286) ((Value.int .i64 (IntKind.wrap .i64 ((i284) + (i286))))) rfl rfl rfl ?_)
        refine Run.go rfl rfl rfl (sem_move ((Value.pointer none)) rfl ?_)
        refine Run.go rfl rfl rfl (sem_callL [(Value.pointer none)] (TF.goes_55) rfl rfl (Spec.mono hS fun v h287 hv => ?_))
        obtain ⟨i288, rfl, hS⟩ := hv
        refine Run.go rfl rfl rfl (sem_binI .i64 (IntKind.wrap .i64 ((i284) + (i286))) (i288) ((Value.int .i64 (IntKind.wrap .i64 ((IntKind.wrap .i64 ((i284) + (i286))) + (i288))))) rfl rfl rfl ?_)
        obtain ⟨hT, hF⟩ := hS
        by_cases hb289 : (IntKind.wrap .i64 ((IntKind.wrap .i64 ((i284) + (i286))) + (i288)) : Int) = 0
        ·have hS := hT hb289; clear hT hF
         refine Run.go rfl rfl rfl (sem_binI .i64 (IntKind.wrap .i64 ((IntKind.wrap .i64 ((i284) + (i286))) + (i288))) (0) (.bool false) rfl rfl (binI_neq_t hb289) ?_)
         refine Run.go rfl rfl rfl (sem_pick false ((Value.bool false)) rfl rfl ?_)
         refine Run.go rfl rfl rfl (sem_move ((Value.bool false)) rfl ?_)
         refine Run.go rfl rfl rfl (sem_move ((Value.pointer none)) rfl ?_)
         refine Run.go rfl rfl rfl (sem_callL [(Value.pointer none)] (TF.goes_54) rfl rfl (Spec.mono hS fun v h290 hv => ?_))
         obtain ⟨b291, rfl, hS⟩ := hv
         obtain ⟨hT, hF⟩ := hS
         cases b291
         ·have hS := hF rfl; clear hT hF
          refine Run.go rfl rfl rfl (sem_pick false ((Value.bool false)) rfl rfl ?_)
          refine Run.region_end ?_
          refine Run.condF rfl ?_
          refine Run.skip ?_
          exact Run.of_fin (hS.imp fun h' hS => j20 _ _ ⟨⟨rfl, rfl, rfl, trivial⟩, hS⟩)
         ·have hS := hT rfl; clear hT hF
          refine Run.go rfl rfl rfl (sem_pick false ((Value.bool true)) rfl rfl ?_)
          refine Run.region_end ?_
          refine Run.condT rfl ?_
          refine Run.seq ?_
          refine Run.ops0 (idx := [0]) rfl ?_
          refine Run.go rfl rfl rfl (sem_assign ((Value.bool false)) rfl ?_)
          refine Run.region_end ?_
          refine Run.ret ⟨.inr rfl, ?_⟩
          exact hS.imp fun h' hq => ⟨(false), rfl, hq⟩
        ·have hS := hF hb289; clear hT hF
         refine Run.go rfl rfl rfl (sem_binI .i64 (IntKind.wrap .i64 ((IntKind.wrap .i64 ((i284) + (i286))) + (i288))) (0) (.bool true) rfl rfl (binI_neq_f hb289) ?_)
         refine Run.go rfl rfl rfl (sem_pick false ((Value.bool true)) rfl rfl ?_)
         refine Run.go rfl rfl rfl (sem_move ((Value.bool true)) rfl ?_)
         refine Run.no rfl rfl rfl ?_
         refine Run.no rfl rfl rfl ?_
         refine Run.go rfl rfl rfl (sem_pick true ((Value.bool true)) rfl rfl ?_)
         refine Run.region_end ?_
         refine Run.condT rfl ?_
         refine Run.seq ?_
         refine Run.ops0 (idx := [0]) rfl ?_
         refine Run.go rfl rfl rfl (sem_assign ((Value.bool false)) rfl ?_)
         refine Run.region_end ?_
         refine Run.ret ⟨.inr rfl, ?_⟩
         exact hS.imp fun h' hq => ⟨(false), rfl, hq⟩
       ·have hS := hF hb282; clear hT hF
        refine Run.go rfl rfl rfl (sem_binI .i64 ((n280 : Nat)) (0) (.bool true) rfl rfl (binI_neq_f hb282) ?_)
        refine Run.go rfl rfl rfl (sem_pick false ((Value.bool true)) rfl rfl ?_)
        refine Run.go rfl rfl rfl (sem_move ((Value.bool true)) rfl ?_)
        refine Run.no rfl rfl rfl ?_
        refine Run.no rfl rfl rfl ?_
        refine Run.no rfl rfl rfl ?_
        refine Run.no rfl rfl rfl ?_
        refine Run.no rfl rfl rfl ?_
        refine Run.no rfl rfl rfl ?_
        refine Run.no rfl rfl rfl ?_
        refine Run.no rfl rfl rfl ?_
        refine Run.no rfl rfl rfl ?_
        refine Run.go rfl rfl rfl (sem_pick true ((Value.bool true)) rfl rfl ?_)
        refine Run.go rfl rfl rfl (sem_move ((Value.bool true)) rfl ?_)
        refine Run.no rfl rfl rfl ?_
        refine Run.no rfl rfl rfl ?_
        refine Run.go rfl rfl rfl (sem_pick true ((Value.bool true)) rfl rfl ?_)
        refine Run.region_end ?_
        refine Run.condT rfl ?_
        refine Run.seq ?_
        refine Run.ops0 (idx := [0]) rfl ?_
        refine Run.go rfl rfl rfl (sem_assign ((Value.bool false)) rfl ?_)
        refine Run.region_end ?_
        refine Run.ret ⟨.inr rfl, ?_⟩
        exact hS.imp fun h' hq => ⟨(false), rfl, hq⟩
      ·have hS := hF hb277; clear hT hF
       refine Run.go rfl rfl rfl (sem_binI .i64 (i276) (2) (.bool true) rfl rfl (binI_neq_f hb277) ?_)
       refine Run.go rfl rfl rfl (sem_pick false ((Value.bool true)) rfl rfl ?_)
       refine Run.go rfl rfl rfl (sem_move ((Value.bool true)) rfl ?_)
       refine Run.no rfl rfl rfl ?_
       refine Run.no rfl rfl rfl ?_
       refine Run.no rfl rfl rfl ?_
       refine Run.no rfl rfl rfl ?_
       refine Run.go rfl rfl rfl (sem_pick true ((Value.bool true)) rfl rfl ?_)
       refine Run.go rfl rfl rfl (sem_move ((Value.bool true)) rfl ?_)
       refine Run.no rfl rfl rfl ?_
       refine Run.no rfl rfl rfl ?_
       refine Run.no rfl rfl rfl ?_
       refine Run.no rfl rfl rfl ?_
       refine Run.no rfl rfl rfl ?_
       refine Run.no rfl rfl rfl ?_
       refine Run.no rfl rfl rfl ?_
       refine Run.no rfl rfl rfl ?_
       refine Run.no rfl rfl rfl ?_
       refine Run.go rfl rfl rfl (sem_pick true ((Value.bool true)) rfl rfl ?_)
       refine Run.go rfl rfl rfl (sem_move ((Value.bool true)) rfl ?_)
       refine Run.no rfl rfl rfl ?_
       refine Run.no rfl rfl rfl ?_
       refine Run.go rfl rfl rfl (sem_pick true ((Value.bool true)) rfl rfl ?_)
       refine Run.region_end ?_
       refine Run.condT rfl ?_
       refine Run.seq ?_
       refine Run.ops0 (idx := [0]) rfl ?_
       refine Run.go rfl rfl rfl (sem_assign ((Value.bool false)) rfl ?_)
       refine Run.region_end ?_
       refine Run.ret ⟨.inr rfl, ?_⟩
       exact hS.imp fun h' hq => ⟨(false), rfl, hq⟩
     ·have hS := hF hb274; clear hT hF
      refine Run.go rfl rfl rfl (sem_boolEqF ((i17 : Int) == (0)) true (.inr rfl) true rfl rfl TF.bool_4 hb274 rfl ?_)
      refine Run.go rfl rfl rfl (sem_pick false ((Value.bool true)) rfl rfl ?_)
      refine Run.go rfl rfl rfl (sem_move ((Value.bool true)) rfl ?_)
      refine Run.no rfl rfl rfl ?_
      refine Run.no rfl rfl rfl ?_
      refine Run.no rfl rfl rfl ?_
      refine Run.go rfl rfl rfl (sem_pick true ((Value.bool true)) rfl rfl ?_)
      refine Run.go rfl rfl rfl (sem_move ((Value.bool true)) rfl ?_)
      refine Run.no rfl rfl rfl ?_
      refine Run.no rfl rfl rfl ?_
      refine Run.no rfl rfl rfl ?_
      refine Run.no rfl rfl rfl ?_
      refine Run.go rfl rfl rfl (sem_pick true ((Value.bool true)) rfl rfl ?_)
      refine Run.go rfl rfl rfl (sem_move ((Value.bool true)) rfl ?_)
      refine Run.no rfl rfl rfl ?_
      refine Run.no rfl rfl rfl ?_
      refine Run.no rfl rfl rfl ?_
      refine Run.no rfl rfl rfl ?_
      refine Run.no rfl rfl rfl ?_
      refine Run.no rfl rfl rfl ?_
      refine Run.no rfl rfl rfl ?_
      refine Run.no rfl rfl rfl ?_
      refine Run.no rfl rfl rfl ?_
      refine Run.go rfl rfl rfl (sem_pick true ((Value.bool true)) rfl rfl ?_)
      refine Run.go rfl rfl rfl (sem_move ((Value.bool true)) rfl ?_)
      refine Run.no rfl rfl rfl ?_
      refine Run.no rfl rfl rfl ?_
      refine Run.go rfl rfl rfl (sem_pick true ((Value.bool true)) rfl rfl ?_)
      refine Run.region_end ?_
      refine Run.condT rfl ?_
      refine Run.seq ?_
      refine Run.ops0 (idx := [0]) rfl ?_
      refine Run.go rfl rfl rfl (sem_assign ((Value.bool false)) rfl ?_)
      refine Run.region_end ?_
      refine Run.ret ⟨.inr rfl, ?_⟩
      exact hS.imp fun h' hq => ⟨(false), rfl, hq⟩
    ·have hS := hF hb273; clear hT hF
     refine Run.go rfl rfl rfl (sem_binI .i64 (i1) (0) (.bool false) rfl rfl (binI_eql_f hb273) ?_)
     refine Run.go rfl rfl rfl (sem_move ((Value.bool false)) rfl ?_)
     refine Run.go rfl rfl rfl (sem_move ((Value.int .i64 (i1))) rfl ?_)
     refine Run.go rfl rfl rfl (sem_binI .i64 (i1) (1) ((Value.bool ((i1 : Int) == (1)))) rfl rfl rfl ?_)
     refine Run.go rfl rfl rfl (sem_pick false ((Value.bool ((i1 : Int) == (1)))) rfl rfl ?_)
     obtain ⟨hT, hF⟩ := hS
     by_cases hb292 : ((i17 : Int) == (0)) = ((i1 : Int) == (1))
     ·have hS := hT hb292; clear hT hF
      refine Run.go rfl rfl rfl (sem_boolEqT ((i17 : Int) == (0)) ((i1 : Int) == (1)) (.inr rfl) false rfl rfl TF.bool_4 hb292 rfl ?_)
      refine Run.go rfl rfl rfl (sem_pick false ((Value.bool false)) rfl rfl ?_)
      refine Run.go rfl rfl rfl (sem_move ((Value.bool false)) rfl ?_)
      refine Run.go rfl rfl rfl (sem_move ((Value.pointer none)) rfl ?_)
      refine Run.go rfl rfl rfl (sem_callL [(Value.pointer none), (Value.string (ByteArray.mk #[]))] (TF.goes_38) rfl rfl (Spec.mono hS fun v h293 hv => ?_))
      obtain ⟨i294, rfl, hS⟩ := hv
      obtain ⟨hT, hF⟩ := hS
      by_cases hb295 : (i294 : Int) = 2
      ·have hS := hT hb295; clear hT hF
       refine Run.go rfl rfl rfl (sem_binI .i64 (i294) (2) (.bool false) rfl rfl (binI_neq_t hb295) ?_)
       refine Run.go rfl rfl rfl (sem_pick false ((Value.bool false)) rfl rfl ?_)
       refine Run.go rfl rfl rfl (sem_move ((Value.bool false)) rfl ?_)
       refine Run.go rfl rfl rfl (sem_move ((Value.pointer none)) rfl ?_)
       refine Run.go rfl rfl rfl (sem_callL [(Value.pointer none)] (TF.goes_39) rfl rfl (Spec.mono hS fun v h296 hv => ?_))
       obtain ⟨a297, n298, c299, rfl, hS⟩ := hv
       refine Run.go rfl rfl rfl (sem_lenSl a297 n298 c299 rfl TF.sl_55 ?_)
       obtain ⟨hT, hF⟩ := hS
       by_cases hb300 : ((n298 : Nat) : Int) = 0
       ·have hS := hT hb300; clear hT hF
        refine Run.go rfl rfl rfl (sem_binI .i64 ((n298 : Nat)) (0) (.bool false) rfl rfl (binI_neq_t hb300) ?_)
        refine Run.go rfl rfl rfl (sem_pick false ((Value.bool false)) rfl rfl ?_)
        refine Run.go rfl rfl rfl (sem_move ((Value.bool false)) rfl ?_)
        refine Run.go rfl rfl rfl (sem_move ((Value.pointer none)) rfl ?_)
        refine Run.go rfl rfl rfl (sem_callL [(Value.pointer none)] (TF.goes_49) rfl rfl (Spec.mono hS fun v h301 hv => ?_))
        obtain ⟨i302, rfl, hS⟩ := hv
        refine Run.go rfl rfl rfl (sem_move ((Value.pointer none)) rfl ?_)
        refine Run.go rfl rfl rfl (sem_callL [(Value.pointer none)] (TF.goes_53) rfl rfl (Spec.mono hS fun v h303 hv => ?_))
        obtain ⟨i304, rfl, hS⟩ := hv
        refine Run.go rfl rfl rfl (sem_binI .i64 (i302) (i304) ((Value.int .i64 (IntKind.wrap .i64 ((i302) + (i304))))) rfl rfl rfl ?_)
        refine Run.go rfl rfl rfl (sem_move ((Value.pointer none)) rfl ?_)
        refine Run.go rfl rfl rfl (sem_callL [(Value.pointer none)] (TF.goes_55) rfl rfl (Spec.mono hS fun v h305 hv => ?_))
        obtain ⟨i306, rfl, hS⟩ := hv
        refine Run.go rfl rfl rfl (sem_binI .i64 (IntKind.wrap .i64 ((i302) + (i304))) (i306) ((Value.int .i64 (IntKind.wrap .i64 ((IntKind.wrap .i64 ((i302) + (i304))) + (i306))))) rfl rfl rfl ?_)
        obtain ⟨hT, hF⟩ := hS
        by_cases hb307 : (IntKind.wrap .i64 ((IntKind.wrap .i64 ((i302) + (i304))) + (i306)) : Int) = 0
        ·have hS := hT hb307; clear hT hF
         refine Run.go rfl rfl rfl (sem_binI .i64 (IntKind.wrap .i64 ((IntKind.wrap .i64 ((i302) + (i304))) + (i306))) (0) (.bool false) rfl rfl (binI_neq_t hb307) ?_)
         refine Run.go rfl rfl rfl (sem_pick false ((Value.bool false)) rfl rfl ?_)
         refine Run.go rfl rfl rfl (sem_move ((Value.bool false)) rfl ?_)
         refine Run.go rfl rfl rfl (sem_move ((Value.pointer none)) rfl ?_)
         refine Run.go rfl rfl rfl (sem_callL [(Value.pointer none)] (TF.goes_54) rfl rfl (Spec.mono hS fun v h308 hv => ?_))
         obtain ⟨b309, rfl, hS⟩ := hv
         obtain ⟨hT, hF⟩ := hS
         cases b309
         ·have hS := hF rfl; clear hT hF
          refine Run.go rfl rfl rfl (sem_pick false ((Value.bool false)) rfl rfl ?_)
          refine Run.region_end ?_
          refine Run.condF rfl ?_
          refine Run.skip ?_
          exact Run.of_fin (hS.imp fun h' hS => j20 _ _ ⟨⟨rfl, rfl, rfl, trivial⟩, hS⟩)
         ·have hS := hT rfl; clear hT hF
          refine Run.go rfl rfl rfl (sem_pick false ((Value.bool true)) rfl rfl ?_)
          refine Run.region_end ?_
          refine Run.condT rfl ?_
          refine Run.seq ?_
          refine Run.ops0 (idx := [0]) rfl ?_
          refine Run.go rfl rfl rfl (sem_assign ((Value.bool false)) rfl ?_)
          refine Run.region_end ?_
          refine Run.ret ⟨.inr rfl, ?_⟩
          exact hS.imp fun h' hq => ⟨(false), rfl, hq⟩
        ·have hS := hF hb307; clear hT hF
         refine Run.go rfl rfl rfl (sem_binI .i64 (IntKind.wrap .i64 ((IntKind.wrap .i64 ((i302) + (i304))) + (i306))) (0) (.bool true) rfl rfl (binI_neq_f hb307) ?_)
         refine Run.go rfl rfl rfl (sem_pick false ((Value.bool true)) rfl rfl ?_)
         refine Run.go rfl rfl rfl (sem_move ((Value.bool true)) rfl ?_)
         refine Run.no rfl rfl rfl ?_
         refine Run.no rfl rfl rfl ?_
         refine Run.go rfl rfl rfl (sem_pick true ((Value.bool true)) rfl rfl ?_)
         refine Run.region_end ?_
         refine Run.condT rfl ?_
         refine Run.seq ?_
         refine Run.ops0 (idx := [0]) rfl ?_
         refine Run.go rfl rfl rfl (sem_assign ((Value.bool false)) rfl ?_)
         refine Run.region_end ?_
         refine Run.ret ⟨.inr rfl, ?_⟩
         exact hS.imp fun h' hq => ⟨(false), rfl, hq⟩
       ·have hS := hF hb300; clear hT hF
        refine Run.go rfl rfl rfl (sem_binI .i64 ((n298 : Nat)) (0) (.bool true) rfl rfl (binI_neq_f hb300) ?_)
        refine Run.go rfl rfl rfl (sem_pick false ((Value.bool true)) rfl rfl ?_)
        refine Run.go rfl rfl rfl (sem_move ((Value.bool true)) rfl ?_)
        refine Run.no rfl rfl rfl ?_
        refine Run.no rfl rfl rfl ?_
        refine Run.no rfl rfl rfl ?_
        refine Run.no rfl rfl rfl ?_
        refine Run.no rfl rfl rfl ?_
        refine Run.no rfl rfl rfl ?_
        refine Run.no rfl rfl rfl ?_
        refine Run.no rfl rfl rfl ?_
        refine Run.no rfl rfl rfl ?_
        refine Run.go rfl rfl rfl (sem_pick true ((Value.bool true)) rfl rfl ?_)
        refine Run.go rfl rfl rfl (sem_move ((Value.bool true)) rfl ?_)
        refine Run.no rfl rfl rfl ?_
        refine Run.no rfl rfl rfl ?_
        refine Run.go rfl rfl rfl (sem_pick true ((Value.bool true)) rfl rfl ?_)
        refine Run.region_end ?_
        refine Run.condT rfl ?_
        refine Run.seq ?_
        refine Run.ops0 (idx := [0]) rfl ?_
        refine Run.go rfl rfl rfl (sem_assign ((Value.bool false)) rfl ?_)
        refine Run.region_end ?_
        refine Run.ret ⟨.inr rfl, ?_⟩
        exact hS.imp fun h' hq => ⟨(false), rfl, hq⟩
      ·have hS := hF hb295; clear hT hF
       refine Run.go rfl rfl rfl (sem_binI .i64 (i294) (2) (.bool true) rfl rfl (binI_neq_f hb295) ?_)
       refine Run.go rfl rfl rfl (sem_pick false ((Value.bool true)) rfl rfl ?_)
       refine Run.go rfl rfl rfl (sem_move ((Value.bool true)) rfl ?_)
       refine Run.no rfl rfl rfl ?_
       refine Run.no rfl rfl rfl ?_
       refine Run.no rfl rfl rfl ?_
       refine Run.no rfl rfl rfl ?_
       refine Run.go rfl rfl rfl (sem_pick true ((Value.bool true)) rfl rfl ?_)
       refine Run.go rfl rfl rfl (sem_move ((Value.bool true)) rfl ?_)
       refine Run.no rfl rfl rfl ?_
       refine Run.no rfl rfl rfl ?_
       refine Run.no rfl rfl rfl ?_
       refine Run.no rfl rfl rfl ?_
       refine Run.no rfl rfl rfl ?_
       refine Run.no rfl rfl rfl ?_
       refine Run.no rfl rfl rfl ?_
       refine Run.no rfl rfl rfl ?_
       refine Run.no rfl rfl rfl ?_
       refine Run.go rfl rfl rfl (sem_pick true ((Value.bool true)) rfl rfl ?_)
       refine Run.go rfl rfl rfl (sem_move ((Value.bool true)) rfl ?_)
       refine Run.no rfl rfl rfl ?_
       refine Run.no rfl rfl rfl ?_
       refine Run.go rfl rfl rfl (sem_pick true ((Value.bool true)) rfl rfl ?_)
       refine Run.region_end ?_
       refine Run.condT rfl ?_
       refine Run.seq ?_
       refine Run.ops0 (idx := [0]) rfl ?_
       refine Run.go rfl rfl rfl (sem_assign ((Value.bool false)) rfl ?_)
       refine Run.region_end ?_
       refine Run.ret ⟨.inr rfl, ?_⟩
       exact hS.imp fun h' hq => ⟨(false), rfl, hq⟩
     ·have hS := hF hb292; clear hT hF
      refine Run.go rfl rfl rfl (sem_boolEqF ((i17 : Int) == (0)) ((i1 : Int) == (1)) (.inr rfl) true rfl rfl TF.bool_4 hb292 rfl ?_)
      refine Run.go rfl rfl rfl (sem_pick false ((Value.bool true)) rfl rfl ?_)
      refine Run.go rfl rfl rfl (sem_move ((Value.bool true)) rfl ?_)
      refine Run.no rfl rfl rfl ?_
      refine Run.no rfl rfl rfl ?_
      refine Run.no rfl rfl rfl ?_
      refine Run.go rfl rfl rfl (sem_pick true ((Value.bool true)) rfl rfl ?_)
      refine Run.go rfl rfl rfl (sem_move ((Value.bool true)) rfl ?_)
      refine Run.no rfl rfl rfl ?_
      refine Run.no rfl rfl rfl ?_
      refine Run.no rfl rfl rfl ?_
      refine Run.no rfl rfl rfl ?_
      refine Run.go rfl rfl rfl (sem_pick true ((Value.bool true)) rfl rfl ?_)
      refine Run.go rfl rfl rfl (sem_move ((Value.bool true)) rfl ?_)
      refine Run.no rfl rfl rfl ?_
      refine Run.no rfl rfl rfl ?_
      refine Run.no rfl rfl rfl ?_
      refine Run.no rfl rfl rfl ?_
      refine Run.no rfl rfl rfl ?_
      refine Run.no rfl rfl rfl ?_
      refine Run.no rfl rfl rfl ?_
      refine Run.no rfl rfl rfl ?_
      refine Run.no rfl rfl rfl ?_
      refine Run.go rfl rfl rfl (sem_pick true ((Value.bool true)) rfl rfl ?_)
      refine Run.go rfl rfl rfl (sem_move ((Value.bool true)) rfl ?_)
      refine Run.no rfl rfl rfl ?_
      refine Run.no rfl rfl rfl ?_
      refine Run.go rfl rfl rfl (sem_pick true ((Value.bool true)) rfl rfl ?_)
      refine Run.region_end ?_
      refine Run.condT rfl ?_
      refine Run.seq ?_
      refine Run.ops0 (idx := [0]) rfl ?_
      refine Run.go rfl rfl rfl (sem_assign ((Value.bool false)) rfl ?_)
      refine Run.region_end ?_
      refine Run.ret ⟨.inr rfl, ?_⟩
      exact hS.imp fun h' hq => ⟨(false), rfl, hq⟩
   ·have hS := hF hb272; clear hT hF
    refine Run.go rfl rfl rfl (sem_binI .i64 (i12) (2) (.bool true) rfl rfl (binI_neq_f hb272) ?_)
    refine Run.go rfl rfl rfl (sem_move ((Value.bool true)) rfl ?_)
    refine Run.no rfl rfl rfl ?_
    refine Run.no rfl rfl rfl ?_
    refine Run.no rfl rfl rfl ?_
    refine Run.no rfl rfl rfl ?_
    refine Run.no rfl rfl rfl ?_
    refine Run.no rfl rfl rfl ?_
    refine Run.no rfl rfl rfl ?_
    refine Run.no rfl rfl rfl ?_
    refine Run.no rfl rfl rfl ?_
    refine Run.go rfl rfl rfl (sem_pick true ((Value.bool true)) rfl rfl ?_)
    refine Run.go rfl rfl rfl (sem_move ((Value.bool true)) rfl ?_)
    refine Run.no rfl rfl rfl ?_
    refine Run.no rfl rfl rfl ?_
    refine Run.no rfl rfl rfl ?_
    refine Run.go rfl rfl rfl (sem_pick true ((Value.bool true)) rfl rfl ?_)
    refine Run.go rfl rfl rfl (sem_move ((Value.bool true)) rfl ?_)
    refine Run.no rfl rfl rfl ?_
    refine Run.no rfl rfl rfl ?_
    refine Run.no rfl rfl rfl ?_
    refine Run.no rfl rfl rfl ?_
    refine Run.go rfl rfl rfl (sem_pick true ((Value.bool true)) rfl rfl ?_)
    refine Run.go rfl rfl rfl (sem_move ((Value.bool true)) rfl ?_)
    refine Run.no rfl rfl rfl ?_
    refine Run.no rfl rfl rfl ?_
    refine Run.no rfl rfl rfl ?_
    refine Run.no rfl rfl rfl ?_
    refine Run.no rfl rfl rfl ?_
    refine Run.no rfl rfl rfl ?_
    refine Run.no rfl rfl rfl ?_
    refine Run.no rfl rfl rfl ?_
    refine Run.no rfl rfl rfl ?_
    refine Run.go rfl rfl rfl (sem_pick true ((Value.bool true)) rfl rfl ?_)
    refine Run.go rfl rfl rfl (sem_move ((Value.bool true)) rfl ?_)
    refine Run.no rfl rfl rfl ?_
    refine Run.no rfl rfl rfl ?_
    refine Run.go rfl rfl rfl (sem_pick true ((Value.bool true)) rfl rfl ?_)
    refine Run.region_end ?_
    refine Run.condT rfl ?_
    refine Run.seq ?_
    refine Run.ops0 (idx := [0]) rfl ?_
    refine Run.go rfl rfl rfl (sem_assign ((Value.bool false)) rfl ?_)
    refine Run.region_end ?_
    refine Run.ret ⟨.inr rfl, ?_⟩
    exact hS.imp fun h' hq => ⟨(false), rfl, hq⟩
  ·have hS := hT rfl; clear hT hF
   refine Run.region_end ?_
   refine Run.condT rfl ?_
   refine Run.seq ?_
   refine Run.ops0 (idx := [0]) rfl ?_
   refine Run.go rfl rfl rfl (sem_assign ((Value.bool true)) rfl ?_)
   refine Run.region_end ?_
   refine Run.ret ⟨.inr rfl, ?_⟩
   exact hS.imp fun h' hq => ⟨(true), rfl, hq⟩
set_option maxHeartbeats 4000000 in
theorem C_countermandlaw04_alive.of {B : RO} {h : Heap} {Q : Bool → Heap → Prop} (hS : S_countermandlaw04_alive B h Q) : C_countermandlaw04_alive B h Q := by
 unfold S_countermandlaw04_alive at hS
 unfold C_countermandlaw04_alive
 refine Spec.of_run Try.func34 (N := 43) (rs := [ResultVar.tmp 0]) rfl rfl rfl (Nat.le_of_ble_eq_true rfl) ?_
 refine Run.seq ?_
 refine Run.ops0 (idx := [0]) rfl ?_
 refine Run.go rfl rfl rfl (sem_assign ((Value.bool false)) rfl ?_)
 refine Run.region_end ?_
 refine Run.seq ?_
 refine Run.ops0 (idx := [0, 1]) rfl ?_
 refine Run.go rfl rfl rfl (sem_callL [] (TF.goes_37) rfl rfl (Spec.mono hS fun v h2 hv => ?_))
 obtain ⟨p3, rfl, hS⟩ := hv
 refine Run.go rfl rfl rfl (sem_assign ((Value.pointer p3)) rfl ?_)
 refine Run.region_end ?_
 refine Run.seq ?_
 refine Run.ops0 (idx := [0, 1, 2, 3, 4, 5, 6]) rfl ?_
 refine Run.go rfl rfl rfl (sem_move ((Value.pointer p3)) rfl ?_)
 refine Run.go rfl rfl rfl (sem_callL [(Value.pointer p3), (Value.int .i64 (0))] (TF.goes_36) rfl rfl (Spec.mono hS fun v h4 hv => ?_))
 obtain ⟨p5, i6, rfl, hS⟩ := hv
 refine Run.go rfl rfl rfl (sem_move ((Value.tuple #[(Value.pointer p5), (Value.int .i64 (i6))])) rfl ?_)
 refine Run.go rfl rfl rfl (sem_extract #[(Value.pointer p5), (Value.int .i64 (i6))] ((Value.pointer p5)) rfl rfl ?_)
 refine Run.go rfl rfl rfl (sem_extract #[(Value.pointer p5), (Value.int .i64 (i6))] ((Value.int .i64 (i6))) rfl rfl ?_)
 refine Run.go rfl rfl rfl (sem_assign ((Value.pointer p5)) rfl ?_)
 refine Run.go rfl rfl rfl (sem_assign ((Value.int .i64 (i6))) rfl ?_)
 refine Run.region_end ?_
 refine Run.seqJ (fun e h8 => Agree [(1, (Value.pointer p3))] e ∧ S_countermandlaw04_alive_J1 B p3 h8 Q) ?_ fun j7 => ?_
 ·rintro e h8 ⟨hag, hS⟩
  refine Run.env hag ?_; clear hag
  refine Run.seq ?_
  refine Run.ops0 (idx := [0, 1]) rfl ?_
  refine Run.go rfl rfl rfl (sem_move ((Value.pointer p3)) rfl ?_)
  refine Run.go rfl rfl rfl (sem_callL [(Value.pointer p3), (Value.int .i64 (1)), (Value.int .i64 (0))] (TF.goes_46) rfl rfl (Spec.mono hS fun v h9 hv => ?_))
  obtain ⟨rfl, hS⟩ := hv
  refine Run.region_end ?_
  refine Run.seq ?_
  refine Run.ops0 (idx := [0, 1, 2, 3, 4, 5, 6]) rfl ?_
  refine Run.go rfl rfl rfl (sem_move ((Value.pointer p3)) rfl ?_)
  refine Run.go rfl rfl rfl (sem_callL [(Value.pointer p3), (Value.int .i64 (0))] (TF.goes_36) rfl rfl (Spec.mono hS fun v h10 hv => ?_))
  obtain ⟨p11, i12, rfl, hS⟩ := hv
  refine Run.go rfl rfl rfl (sem_move ((Value.tuple #[(Value.pointer p11), (Value.int .i64 (i12))])) rfl ?_)
  refine Run.go rfl rfl rfl (sem_extract #[(Value.pointer p11), (Value.int .i64 (i12))] ((Value.pointer p11)) rfl rfl ?_)
  refine Run.go rfl rfl rfl (sem_extract #[(Value.pointer p11), (Value.int .i64 (i12))] ((Value.int .i64 (i12))) rfl rfl ?_)
  refine Run.go rfl rfl rfl (sem_assign ((Value.pointer p11)) rfl ?_)
  refine Run.go rfl rfl rfl (sem_assign ((Value.int .i64 (i12))) rfl ?_)
  refine Run.region_end ?_
  refine Run.seq ?_
  refine Run.ops0 (idx := [0, 1, 2, 3, 4, 5, 6, 7, 8, 9, 10, 11, 12]) rfl ?_
  refine Run.go rfl rfl rfl (sem_move ((Value.int .i64 (i12))) rfl ?_)
  obtain ⟨hT, hF⟩ := hS
  by_cases hb13 : (i12 : Int) = 0
  ·have hS := hT hb13; clear hT hF
   refine Run.go rfl rfl rfl (sem_binI .i64 (i12) (0) (.bool true) rfl rfl (binI_eql_t hb13) ?_)
   refine Run.go rfl rfl rfl (sem_move ((Value.bool true)) rfl ?_)
   refine Run.go rfl rfl rfl (sem_move ((Value.pointer p11)) rfl ?_)
   refine Run.go rfl rfl rfl (sem_callL [(Value.pointer p11)] (TF.goes_53) rfl rfl (Spec.mono hS fun v h14 hv => ?_))
   obtain ⟨i15, rfl, hS⟩ := hv
   obtain ⟨hT, hF⟩ := hS
   by_cases hb16 : (i15 : Int) = 7
   ·have hS := hT hb16; clear hT hF
    refine Run.go rfl rfl rfl (sem_binI .i64 (i15) (7) (.bool true) rfl rfl (binI_eql_t hb16) ?_)
    refine Run.go rfl rfl rfl (sem_pick true ((Value.bool true)) rfl rfl ?_)
    refine Run.go rfl rfl rfl (sem_move ((Value.bool true)) rfl ?_)
    refine Run.go rfl rfl rfl (sem_move ((Value.pointer p11)) rfl ?_)
    refine Run.go rfl rfl rfl (sem_callL [(Value.pointer p11)] (TF.goes_54) rfl rfl (Spec.mono hS fun v h17 hv => ?_))
    obtain ⟨b18, rfl, hS⟩ := hv
    refine Run.go rfl rfl rfl (sem_not b18 rfl ?_)
    refine Run.go rfl rfl rfl (sem_pick true ((Value.bool (!b18))) rfl rfl ?_)
    refine Run.go rfl rfl rfl (sem_assign ((Value.bool (!b18))) rfl ?_)
    refine Run.region_end ?_
    refine Run.ret ⟨.inr rfl, ?_⟩
    exact hS.imp fun h' hq => ⟨((!b18)), rfl, hq⟩
   ·have hS := hF hb16; clear hT hF
    refine Run.go rfl rfl rfl (sem_binI .i64 (i15) (7) (.bool false) rfl rfl (binI_eql_f hb16) ?_)
    refine Run.go rfl rfl rfl (sem_pick true ((Value.bool false)) rfl rfl ?_)
    refine Run.go rfl rfl rfl (sem_move ((Value.bool false)) rfl ?_)
    refine Run.no rfl rfl rfl ?_
    refine Run.no rfl rfl rfl ?_
    refine Run.no rfl rfl rfl ?_
    refine Run.go rfl rfl rfl (sem_pick false ((Value.bool false)) rfl rfl ?_)
    refine Run.go rfl rfl rfl (sem_assign ((Value.bool false)) rfl ?_)
    refine Run.region_end ?_
    refine Run.ret ⟨.inr rfl, ?_⟩
    exact hS.imp fun h' hq => ⟨(false), rfl, hq⟩
  ·have hS := hF hb13; clear hT hF
   refine Run.go rfl rfl rfl (sem_binI .i64 (i12) (0) (.bool false) rfl rfl (binI_eql_f hb13) ?_)
   refine Run.go rfl rfl rfl (sem_move ((Value.bool false)) rfl ?_)
   refine Run.no rfl rfl rfl ?_
   refine Run.no rfl rfl rfl ?_
   refine Run.no rfl rfl rfl ?_
   refine Run.go rfl rfl rfl (sem_pick false ((Value.bool false)) rfl rfl ?_)
   refine Run.go rfl rfl rfl (sem_move ((Value.bool false)) rfl ?_)
   refine Run.no rfl rfl rfl ?_
   refine Run.no rfl rfl rfl ?_
   refine Run.no rfl rfl rfl ?_
   refine Run.go rfl rfl rfl (sem_pick false ((Value.bool false)) rfl rfl ?_)
   refine Run.go rfl rfl rfl (sem_assign ((Value.bool false)) rfl ?_)
   refine Run.region_end ?_
   refine Run.ret ⟨.inr rfl, ?_⟩
   exact hS.imp fun h' hq => ⟨(false), rfl, hq⟩
 refine Run.seq ?_
 refine Run.ops0 (idx := [0, 1, 2, 3, 4, 5, 6, 7, 8, 9, 10, 11]) rfl ?_
 refine Run.go rfl rfl rfl (sem_move ((Value.int .i64 (i6))) rfl ?_)
 obtain ⟨hT, hF⟩ := hS
 by_cases hb19 : (i6 : Int) = 0
 ·have hS := hT hb19; clear hT hF
  refine Run.go rfl rfl rfl (sem_binI .i64 (i6) (0) (.bool false) rfl rfl (binI_neq_t hb19) ?_)
  refine Run.go rfl rfl rfl (sem_move ((Value.bool false)) rfl ?_)
  refine Run.go rfl rfl rfl (sem_move ((Value.pointer p5)) rfl ?_)
  refine Run.go rfl rfl rfl (sem_callL [(Value.pointer p5), (Value.string (ByteArray.mk #[97]))] (TF.goes_38) rfl rfl (Spec.mono hS fun v h20 hv => ?_))
  obtain ⟨i21, rfl, hS⟩ := hv
  obtain ⟨hT, hF⟩ := hS
  by_cases hb22 : (i21 : Int) = 0
  ·have hS := hT hb22; clear hT hF
   refine Run.go rfl rfl rfl (sem_binI .i64 (i21) (0) (.bool false) rfl rfl (binI_neq_t hb22) ?_)
   refine Run.go rfl rfl rfl (sem_pick false ((Value.bool false)) rfl rfl ?_)
   refine Run.go rfl rfl rfl (sem_move ((Value.bool false)) rfl ?_)
   refine Run.go rfl rfl rfl (sem_move ((Value.pointer p5)) rfl ?_)
   refine Run.go rfl rfl rfl (sem_callL [(Value.pointer p5), (Value.string (ByteArray.mk #[98]))] (TF.goes_38) rfl rfl (Spec.mono hS fun v h23 hv => ?_))
   obtain ⟨i24, rfl, hS⟩ := hv
   obtain ⟨hT, hF⟩ := hS
   by_cases hb25 : (i24 : Int) = 0
   ·have hS := hT hb25; clear hT hF
    refine Run.go rfl rfl rfl (sem_binI .i64 (i24) (0) (.bool false) rfl rfl (binI_neq_t hb25) ?_)
    refine Run.go rfl rfl rfl (sem_pick false ((Value.bool false)) rfl rfl ?_)
    refine Run.region_end ?_
    refine Run.condF rfl ?_
    refine Run.skip ?_
    exact Run.of_fin (hS.imp fun h' hS => j7 _ _ ⟨⟨rfl, trivial⟩, hS⟩)
   ·have hS := hF hb25; clear hT hF
    refine Run.go rfl rfl rfl (sem_binI .i64 (i24) (0) (.bool true) rfl rfl (binI_neq_f hb25) ?_)
    refine Run.go rfl rfl rfl (sem_pick false ((Value.bool true)) rfl rfl ?_)
    refine Run.region_end ?_
    refine Run.condT rfl ?_
    refine Run.seq ?_
    refine Run.ops0 (idx := [0]) rfl ?_
    refine Run.go rfl rfl rfl (sem_assign ((Value.bool false)) rfl ?_)
    refine Run.region_end ?_
    refine Run.ret ⟨.inr rfl, ?_⟩
    exact hS.imp fun h' hq => ⟨(false), rfl, hq⟩
  ·have hS := hF hb22; clear hT hF
   refine Run.go rfl rfl rfl (sem_binI .i64 (i21) (0) (.bool true) rfl rfl (binI_neq_f hb22) ?_)
   refine Run.go rfl rfl rfl (sem_pick false ((Value.bool true)) rfl rfl ?_)
   refine Run.go rfl rfl rfl (sem_move ((Value.bool true)) rfl ?_)
   refine Run.no rfl rfl rfl ?_
   refine Run.no rfl rfl rfl ?_
   refine Run.no rfl rfl rfl ?_
   refine Run.go rfl rfl rfl (sem_pick true ((Value.bool true)) rfl rfl ?_)
   refine Run.region_end ?_
   refine Run.condT rfl ?_
   refine Run.seq ?_
   refine Run.ops0 (idx := [0]) rfl ?_
   refine Run.go rfl rfl rfl (sem_assign ((Value.bool false)) rfl ?_)
   refine Run.region_end ?_
   refine Run.ret ⟨.inr rfl, ?_⟩
   exact hS.imp fun h' hq => ⟨(false), rfl, hq⟩
 ·have hS := hF hb19; clear hT hF
  refine Run.go rfl rfl rfl (sem_binI .i64 (i6) (0) (.bool true) rfl rfl (binI_neq_f hb19) ?_)
  refine Run.go rfl rfl rfl (sem_move ((Value.bool true)) rfl ?_)
  refine Run.no rfl rfl rfl ?_
  refine Run.no rfl rfl rfl ?_
  refine Run.no rfl rfl rfl ?_
  refine Run.go rfl rfl rfl (sem_pick true ((Value.bool true)) rfl rfl ?_)
  refine Run.go rfl rfl rfl (sem_move ((Value.bool true)) rfl ?_)
  refine Run.no rfl rfl rfl ?_
  refine Run.no rfl rfl rfl ?_
  refine Run.no rfl rfl rfl ?_
  refine Run.go rfl rfl rfl (sem_pick true ((Value.bool true)) rfl rfl ?_)
  refine Run.region_end ?_
  refine Run.condT rfl ?_
  refine Run.seq ?_
  refine Run.ops0 (idx := [0]) rfl ?_
  refine Run.go rfl rfl rfl (sem_assign ((Value.bool false)) rfl ?_)
  refine Run.region_end ?_
  refine Run.ret ⟨.inr rfl, ?_⟩
  exact hS.imp fun h' hq => ⟨(false), rfl, hq⟩
end Go.Proofs.Ythloobpjkeodgaa.H
