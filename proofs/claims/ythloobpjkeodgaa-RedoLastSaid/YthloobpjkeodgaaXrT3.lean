/- The functions do what they ask for. No condition. -/
import Derived.Test.YthloobpjkeodgaaXrS
namespace Go.Proofs.Ythloobpjkeodgaa.H
open Go
set_option linter.unusedVariables false
set_option maxRecDepth 100000

set_option maxHeartbeats 4000000 in
theorem C_redo_Bytes.of {B : RO} {i1 : Int} {p2 : Option Addr} {h : Heap} {Q : ByteArray → Heap → Prop} (hS : S_redo_Bytes B i1 p2 h Q) : C_redo_Bytes B i1 p2 h Q := by
 unfold S_redo_Bytes at hS
 unfold C_redo_Bytes
 refine Spec.of_run Try.func66 (N := 35) (rs := [ResultVar.tmp 4]) rfl rfl rfl (Nat.le_of_ble_eq_true rfl) ?_
 refine Run.seq ?_
 refine Run.ops0 (idx := [0]) rfl ?_
 refine Run.go rfl rfl rfl (sem_assign ((Value.string (ByteArray.mk #[]))) rfl ?_)
 refine Run.region_end ?_
 refine Run.seq ?_
 refine Run.ops0 (idx := [0, 1, 2, 3]) rfl ?_
 refine Run.go rfl rfl rfl (sem_buildSL [] [(Value.slice none 0 0)] TF.zero_210 TF.places_210 rfl rfl ?_)
 refine Run.go rfl rfl rfl (sem_boxNN [(Value.slice none 0 0)] rfl (fun k4 hb1 hb2 h5 hb3 => ?_))
 have hS := hS k4 hb1 hb2 h5 hb3
 refine Run.go rfl rfl rfl (sem_allocN [(Value.pointer none)] TF.zero_207 (fun k6 hb1 hb2 h7 hb3 => ?_))
 have hS := hS k6 hb1 hb2 h7 hb3
 obtain ⟨h8, hst, hS⟩ := hS
 refine Run.go rfl rfl rfl (sem_store1 ⟨k6, 0, none⟩ ((Value.pointer (some ⟨k4, 0, none⟩))) h8 rfl rfl rfl TF.sz_207 hst ?_)
 refine Run.region_end ?_
 refine Run.seq ?_
 refine Run.ops0 (idx := [0, 1, 2, 3]) rfl ?_
 obtain ⟨p9, hl, hS⟩ := hS
 refine Run.go rfl rfl rfl (sem_load1 ⟨k6, 0, none⟩ ((Value.pointer p9)) rfl TF.agg_207 hl ?_)
 refine Run.go rfl rfl rfl (sem_move ((Value.int .i64 (i1))) rfl ?_)
 refine Run.go rfl rfl rfl (sem_buildSliceL [(0, (Value.int .i64 (i1)))] [(Value.int .i64 (i1))] TF.slc_26 TF.zero_3 rfl (by decide) (by decide) rfl rfl (fun k10 hb1 hb2 h11 hb3 => ?_))
 have hS := hS k10 hb1 hb2 h11 hb3
 refine Run.go rfl rfl rfl (sem_callL [(Value.pointer p9), (Value.slice (some ⟨k10, 0, none⟩) 1 1)] (TF.goes_114) rfl rfl (Spec.mono hS fun v h12 hv => ?_))
 obtain ⟨rfl, hS⟩ := hv
 refine Run.region_end ?_
 refine Run.seq ?_
 refine Run.seq ?_
 refine Run.ops0 (idx := [0, 1]) rfl ?_
 refine Run.go rfl rfl rfl (sem_move ((Value.pointer p2)) rfl ?_)
 refine Run.go rfl rfl rfl (sem_callL [(Value.pointer p2)] (TF.goes_113) rfl rfl (Spec.mono hS fun v14 h13 hv => ?_))
 obtain ⟨_, rfl, hS⟩ := hv
 refine Run.region_end ?_
 refine Run.block ?_
 obtain ⟨xs22, G18, J21, hit, hins, hG, h0, hS, hR⟩ := hS
 refine Run.of_fin (h0.imp fun h' h0 => ?_)
 refine Run.range (v14) (xs22.map (fun x : Int × Bool × ByteArray => [(Value.int .i64 (x.1)), (Value.agg #[(Value.bool x.2.1), (Value.string x.2.2)])])) G18 J21 rfl hit hins hG h0 rfl (fun a ha => by obtain ⟨x, _, rfl⟩ := List.mem_map.1 ha; rfl) ?_ ?_
 ·rintro q20 args h19 ha hJ
  obtain ⟨⟨i15, b16, s17⟩, hx, rfl⟩ := Option.map_eq_some_iff.1 ((List.getElem?_map ..).symm.trans ha)
  have hS := hS q20 h19 i15 b16 s17 hx hJ; clear hJ hx ha
  refine Run.seq ?_
  refine Run.ops0 (idx := [0]) rfl ?_
  refine Run.go rfl rfl rfl (sem_assign ((Value.int .i64 (i15))) rfl ?_)
  refine Run.region_end ?_
  refine Run.ops0 (idx := [0, 1]) rfl ?_
  refine Run.go rfl rfl rfl (sem_allocN [(Value.bool false), (Value.string ByteArray.empty)] TF.zero_111 (fun k23 hb1 hb2 h24 hb3 => ?_))
  have hS := hS k23 hb1 hb2 h24 hb3
  obtain ⟨h25, hst, hS⟩ := hS
  refine Run.go rfl rfl rfl (sem_storeN ⟨k23, 0, none⟩ [(Value.bool b16), (Value.string s17)] h25 rfl rfl TF.sz_111 hst ?_)
  refine Run.region_end ?_
  refine Run.begin ⟨rfl, ?_⟩
  refine Run.block ?_
  refine Run.seq ?_
  refine Run.ops0 (idx := [0, 1]) rfl ?_
  refine Run.go rfl rfl rfl (sem_fieldAddr ⟨k23, 0, none⟩ 0 rfl TF.fld_111_0 ?_)
  obtain ⟨b26, hl, hS⟩ := hS
  obtain ⟨hT, hF⟩ := hS
  cases b26
  ·have hS := hF rfl; clear hT hF
   refine Run.go rfl rfl rfl (sem_load1 ⟨k23, 0, none⟩ (.bool false) rfl TF.agg_4 hl ?_)
   refine Run.region_end ?_
   refine Run.condF rfl ?_
   refine Run.ops0 (idx := [0, 1, 2, 3]) rfl ?_
   obtain ⟨p27, hl, hS⟩ := hS
   refine Run.go rfl rfl rfl (sem_load1 ⟨k6, 0, none⟩ ((Value.pointer p27)) rfl TF.agg_207 hl ?_)
   refine Run.go rfl rfl rfl (sem_move ((Value.int .i64 (i15))) rfl ?_)
   refine Run.go rfl rfl rfl (sem_buildSliceL [(0, (Value.int .i64 (i15))), (1, (Value.int .i64 (0)))] [(Value.int .i64 (i15)), (Value.int .i64 (0))] TF.slc_26 TF.zero_3 rfl (by decide) (by decide) rfl rfl (fun k28 hb1 hb2 h29 hb3 => ?_))
   have hS := hS k28 hb1 hb2 h29 hb3
   refine Run.go rfl rfl rfl (sem_callL [(Value.pointer p27), (Value.slice (some ⟨k28, 0, none⟩) 2 2)] (TF.goes_114) rfl rfl (Spec.mono hS fun v h30 hv => ?_))
   obtain ⟨rfl, hS⟩ := hv
   refine Run.region_end ?_
   refine Run.inBlock ?_
   refine Run.of_fin (hS.imp fun h' hS => ?_)
   exact Run.fall (.inl ⟨rfl, hS⟩)
  ·have hS := hT rfl; clear hT hF
   refine Run.go rfl rfl rfl (sem_load1 ⟨k23, 0, none⟩ (.bool true) rfl TF.agg_4 hl ?_)
   refine Run.region_end ?_
   refine Run.condT rfl ?_
   refine Run.seq ?_
   refine Run.ops0 (idx := [0, 1, 2, 3]) rfl ?_
   obtain ⟨p31, hl, hS⟩ := hS
   refine Run.go rfl rfl rfl (sem_load1 ⟨k6, 0, none⟩ ((Value.pointer p31)) rfl TF.agg_207 hl ?_)
   refine Run.go rfl rfl rfl (sem_move ((Value.int .i64 (i15))) rfl ?_)
   refine Run.go rfl rfl rfl (sem_buildSliceL [(0, (Value.int .i64 (i15))), (1, (Value.int .i64 (1)))] [(Value.int .i64 (i15)), (Value.int .i64 (1))] TF.slc_26 TF.zero_3 rfl (by decide) (by decide) rfl rfl (fun k32 hb1 hb2 h33 hb3 => ?_))
   have hS := hS k32 hb1 hb2 h33 hb3
   refine Run.go rfl rfl rfl (sem_callL [(Value.pointer p31), (Value.slice (some ⟨k32, 0, none⟩) 2 2)] (TF.goes_114) rfl rfl (Spec.mono hS fun v h34 hv => ?_))
   obtain ⟨rfl, hS⟩ := hv
   refine Run.region_end ?_
   refine Run.ops0 (idx := [0, 1, 2, 3, 4]) rfl ?_
   obtain ⟨p35, hl, hS⟩ := hS
   refine Run.go rfl rfl rfl (sem_load1 ⟨k6, 0, none⟩ ((Value.pointer p35)) rfl TF.agg_207 hl ?_)
   refine Run.go rfl rfl rfl (sem_fieldAddr ⟨k23, 0, none⟩ 1 rfl TF.fld_111_1 ?_)
   obtain ⟨s36, hl, hS⟩ := hS
   refine Run.go rfl rfl rfl (sem_load1 ⟨k23, 1, none⟩ ((Value.string s36)) rfl TF.agg_9 hl ?_)
   refine Run.go rfl rfl rfl (sem_buildSliceL [(0, (Value.string s36))] [(Value.string s36)] TF.slc_55 TF.zero_9 rfl (by decide) (by decide) rfl rfl (fun k37 hb1 hb2 h38 hb3 => ?_))
   have hS := hS k37 hb1 hb2 h38 hb3
   refine Run.go rfl rfl rfl (sem_callL [(Value.pointer p35), (Value.slice (some ⟨k37, 0, none⟩) 1 1)] (TF.goes_115) rfl rfl (Spec.mono hS fun v h39 hv => ?_))
   obtain ⟨rfl, hS⟩ := hv
   refine Run.region_end ?_
   refine Run.inBlock ?_
   refine Run.of_fin (hS.imp fun h' hS => ?_)
   exact Run.fall (.inl ⟨rfl, hS⟩)
 ·intro h19 hJ
  have hS := hR h19 (by simpa using hJ); clear hJ hR
  refine Run.inBlock ?_
  refine Run.seq ?_
  refine Run.ops0 (idx := [0, 1, 2]) rfl ?_
  obtain ⟨p40, hl, hS⟩ := hS
  refine Run.go rfl rfl rfl (sem_load1 ⟨k6, 0, none⟩ ((Value.pointer p40)) rfl TF.agg_207 hl ?_)
  refine Run.go rfl rfl rfl (sem_callL [(Value.pointer p40)] (TF.goes_116) rfl rfl (Spec.mono hS fun v h41 hv => ?_))
  obtain ⟨s42, rfl, hS⟩ := hv
  refine Run.go rfl rfl rfl (sem_assign ((Value.string s42)) rfl ?_)
  refine Run.region_end ?_
  refine Run.ret ⟨.inr rfl, ?_⟩
  exact hS.imp fun h' hq => ⟨s42, rfl, hq⟩
set_option maxHeartbeats 4000000 in
theorem C_countermandlaw18_tomes.of {B : RO} {l1 : List Value} {h : Heap} {Q : Option Addr → List Value → Bool → Heap → Prop} (hS : S_countermandlaw18_tomes B l1 h Q) : C_countermandlaw18_tomes B l1 h Q := by
 unfold S_countermandlaw18_tomes at hS
 unfold C_countermandlaw18_tomes
 refine Spec.of_run Try.func67 (N := 28) (rs := [ResultVar.tmp 2, ResultVar.cell 3 115, ResultVar.tmp 4]) rfl rfl rfl (Nat.le_of_ble_eq_true rfl) ?_
 refine Run.seq ?_
 refine Run.ops0 (idx := [0, 1, 2, 3]) rfl ?_
 refine Run.go rfl rfl rfl (sem_boxNN l1 rfl (fun k5 hb1 hb2 h6 hb3 => ?_))
 have hS := hS k5 hb1 hb2 h6 hb3
 refine Run.go rfl rfl rfl (sem_assign ((Value.pointer none)) rfl ?_)
 refine Run.go rfl rfl rfl (sem_allocN [(Value.bool false), (Value.string ByteArray.empty), (Value.bool false), (Value.string ByteArray.empty), (Value.bool false), (Value.string ByteArray.empty), (Value.bool false), (Value.string ByteArray.empty), (Value.bool false), (Value.string ByteArray.empty), (Value.bool false), (Value.string ByteArray.empty)] TF.zero_115 (fun k7 hb1 hb2 h8 hb3 => ?_))
 have hS := hS k7 hb1 hb2 h8 hb3
 refine Run.go rfl rfl rfl (sem_assign ((Value.bool false)) rfl ?_)
 refine Run.region_end ?_
 refine Run.seq ?_
 refine Run.ops0 (idx := [0, 1]) rfl ?_
 refine Run.go rfl rfl rfl (sem_callL [] (TF.goes_117) rfl rfl (Spec.mono hS fun v h9 hv => ?_))
 obtain ⟨p10, rfl, hS⟩ := hv
 refine Run.go rfl rfl rfl (sem_assign ((Value.pointer p10)) rfl ?_)
 refine Run.region_end ?_
 refine Run.seq ?_
 refine Run.ops0 (idx := [0]) rfl ?_
 refine Run.go rfl rfl rfl (sem_allocN [(Value.bool false), (Value.string ByteArray.empty), (Value.bool false), (Value.string ByteArray.empty), (Value.bool false), (Value.string ByteArray.empty), (Value.bool false), (Value.string ByteArray.empty), (Value.bool false), (Value.string ByteArray.empty), (Value.bool false), (Value.string ByteArray.empty)] TF.zero_115 (fun k11 hb1 hb2 h12 hb3 => ?_))
 have hS := hS k11 hb1 hb2 h12 hb3
 refine Run.region_end ?_
 refine Run.seq ?_
 refine Run.seq ?_
 refine Run.ops0 (idx := [0, 1]) rfl ?_
 obtain ⟨l13, hln, hl, hS⟩ := hS
 refine Run.go rfl rfl rfl (sem_loadN ⟨k5, 0, none⟩ l13 rfl TF.agg_112 (TF.sz_112.trans (congrArg some hln.symm)) hl ?_)
 refine Run.go rfl rfl rfl (sem_move ((Value.int .i64 (0))) rfl ?_)
 refine Run.region_end ?_
 refine Run.block ?_
 obtain ⟨J19, m17, h0, hS⟩ := hS
 refine Run.of_fin (h0.imp fun h' h0 => ?_)
 refine Run.loop (σ := Int × Nat) (fun x e h => J19 x.1 x.2 h ∧ Agree [(3, (Value.pointer (some ⟨k7, 0, none⟩))), (5, (Value.pointer p10)), (6, (Value.pointer (some ⟨k11, 0, none⟩))), (10, (Value.agg (List.toArray l13))), (11, (Value.int .i64 (x.1)))] e) (fun x => x.2) ((0), m17) ⟨h0, ⟨rfl, rfl, rfl, rfl, rfl, trivial⟩⟩ ?_; clear h0
 rintro ⟨i14, m16⟩ e h15 ⟨hJ, hag⟩ ih18
 have hS := hS i14 m16 h15 hJ; clear hJ
 refine Run.env hag ?_; clear hag
 refine Run.seq ?_
 refine Run.ops0 (idx := [0]) rfl ?_
 obtain ⟨hT, hF⟩ := hS
 by_cases hb20 : (i14 : Int) < (6)
 ·have hS := hT hb20; clear hT hF
  refine Run.go rfl rfl rfl (sem_binI .i64 (i14) (6) (.bool true) rfl rfl (binI_lss_t hb20) ?_)
  refine Run.region_end ?_
  refine Run.seq ?_
  refine Run.condT rfl ?_
  refine Run.skip ?_
  refine Run.seq ?_
  refine Run.block ?_
  refine Run.seq ?_
  refine Run.ops0 (idx := [0, 1, 2, 3, 4]) rfl ?_
  refine Run.go rfl rfl rfl (sem_move ((Value.int .i64 (i14))) rfl ?_)
  obtain ⟨hi0, hi1, b21, s22, hix, hS⟩ := hS
  refine Run.go rfl rfl rfl (sem_indexArr (List.toArray l13) (Value.agg #[(Value.bool b21), (Value.string s22)]) .i64 (i14) rfl rfl TF.arr_112 hi0 hi1 (congrArg (fun a => some (Value.agg a)) hix) ?_)
  refine Run.go rfl rfl rfl (sem_allocN [(Value.bool false), (Value.string ByteArray.empty)] TF.zero_111 (fun k23 hb1 hb2 h24 hb3 => ?_))
  have hS := hS k23 hb1 hb2 h24 hb3
  refine Run.go rfl rfl rfl (sem_assign ((Value.int .i64 (i14))) rfl ?_)
  obtain ⟨h25, hst, hS⟩ := hS
  refine Run.go rfl rfl rfl (sem_storeN ⟨k23, 0, none⟩ [(Value.bool b21), (Value.string s22)] h25 rfl rfl TF.sz_111 hst ?_)
  refine Run.region_end ?_
  refine Run.seq ?_
  refine Run.seq ?_
  refine Run.ops0 (idx := [0, 1, 2, 3, 4]) rfl ?_
  refine Run.go rfl rfl rfl (sem_move ((Value.pointer p10)) rfl ?_)
  refine Run.go rfl rfl rfl (sem_move ((Value.int .i64 (i14))) rfl ?_)
  obtain ⟨b26, s27, hl, hS⟩ := hS
  refine Run.go rfl rfl rfl (sem_loadN ⟨k23, 0, none⟩ [(Value.bool b26), (Value.string s27)] rfl TF.agg_111 TF.sz_111 hl ?_)
  refine Run.go rfl rfl rfl (sem_callL [(Value.pointer p10), (Value.int .i64 (i14)), (Value.agg #[(Value.bool b26), (Value.string s27)]), (Value.int .i64 (0))] (TF.goes_118) rfl rfl (Spec.mono hS fun v h28 hv => ?_))
  obtain ⟨b29, rfl, hS⟩ := hv
  obtain ⟨hT, hF⟩ := hS
  cases b29
  ·have hS := hF rfl; clear hT hF
   refine Run.go rfl rfl rfl (sem_not false rfl ?_)
   refine Run.region_end ?_
   refine Run.condT rfl ?_
   refine Run.seq ?_
   skip
   obtain ⟨l31, hln, hl, hS⟩ := hS
   have f32 := hl
   skip
   refine Run.drawM (fun h' => CellsAt B h' ⟨k11, 0, none⟩ 0 l31 ∧ True) [] ⟨[0, 0, 1, 7, 15], [31, 31, 30, 29, 31], [0, 0, 0, 0, 0], 0⟩ (.q 0 (.q 1 (.q 2 (.x 3 (.q 4 .nil) .no)))) TF.mixed (by kernel_rfl) ⟨f32, trivial⟩ ?_
   refine RunT.quiet rfl rfl rfl (fun h' hC => sem_move ((Value.pointer p10)) rfl ⟨rfl, rfl⟩) ?_
   refine RunT.quiet rfl rfl rfl (fun h' hC => sem_loadN ⟨k11, 0, none⟩ l31 rfl TF.agg_115 (TF.sz_115.trans (congrArg some hln.symm)) hC.1 ⟨rfl, rfl⟩) ?_
   refine RunT.quiet rfl rfl rfl (fun h' hC => sem_assign ((Value.pointer p10)) rfl ⟨rfl, rfl⟩) ?_
   refine ⟨?_, trivial⟩
   obtain ⟨hln, h34, hst, hS⟩ := hS
   refine OpH.go rfl rfl rfl (sem_storeN ⟨k7, 0, none⟩ l31 h34 rfl rfl (TF.sz_115.trans (congrArg some hln.symm)) hst ?_)
   obtain ⟨g35, hS⟩ := hS
   refine ⟨fun _ => ⟨g35, trivial⟩, ?_⟩
   refine RunT.quiet rfl rfl rfl (fun h' hC => sem_assign ((Value.bool false)) rfl ⟨rfl, rfl⟩) ?_
   obtain ⟨l36, hln1, hl1, hS⟩ := hS
   refine Run.ret ⟨.inr rfl, ?_⟩
   exact ⟨⟨k7, 0, none⟩, (Value.agg (List.toArray l36)), rfl, loadHN TF.agg_115 (TF.sz_115.trans (congrArg some hln1.symm)) hl1, hS.imp fun h' hq => ⟨p10, l36, (false), rfl, hq⟩⟩
  ·have hS := hT rfl; clear hT hF
   refine Run.go rfl rfl rfl (sem_not true rfl ?_)
   refine Run.region_end ?_
   refine Run.condF rfl ?_
   refine Run.skip ?_
   refine Run.ops0 (idx := [0, 1, 2, 3]) rfl ?_
   refine Run.go rfl rfl rfl (sem_move ((Value.int .i64 (i14))) rfl ?_)
   obtain ⟨b37, s38, hl, hS⟩ := hS
   refine Run.go rfl rfl rfl (sem_loadN ⟨k23, 0, none⟩ [(Value.bool b37), (Value.string s38)] rfl TF.agg_111 TF.sz_111 hl ?_)
   obtain ⟨hi0, hi1, hS⟩ := hS
   refine Run.go rfl rfl rfl (sem_indexAddrA ⟨k11, 0, none⟩ .i64 (i14) rfl rfl TF.arr_115 hi0 hi1 ?_)
   obtain ⟨h39, hst, hS⟩ := hS
   refine Run.go rfl rfl rfl (sem_storeN (Addr.add ⟨k11, 0, none⟩ (Int.toNat (i14) * 2)) [(Value.bool b37), (Value.string s38)] h39 rfl rfl TF.sz_114 hst ?_)
   refine Run.region_end ?_
   refine Run.inBlock ?_
   refine Run.ops0 (idx := [0, 1]) rfl ?_
   refine Run.go rfl rfl rfl (sem_binI .i64 (i14) (1) ((Value.int .i64 (IntKind.wrap .i64 ((i14) + (1))))) rfl rfl rfl ?_)
   refine Run.go rfl rfl rfl (sem_move ((Value.int .i64 (IntKind.wrap .i64 ((i14) + (1))))) rfl ?_)
   refine Run.region_end ?_
   exact Run.of_fin (hS.imp fun h' ⟨m', hm, hS⟩ => ih18 ((IntKind.wrap .i64 ((i14) + (1))), m') _ _ ⟨hS, ⟨rfl, rfl, rfl, rfl, rfl, trivial⟩⟩ hm)
 ·have hS := hF hb20; clear hT hF
  refine Run.go rfl rfl rfl (sem_binI .i64 (i14) (6) (.bool false) rfl rfl (binI_lss_f hb20) ?_)
  refine Run.region_end ?_
  refine Run.seq ?_
  refine Run.condF rfl ?_
  refine Run.exit rfl ?_
  refine Run.seq ?_
  skip
  obtain ⟨l41, hln, hl, hS⟩ := hS
  have f42 := hl
  skip
  refine Run.drawM (fun h' => CellsAt B h' ⟨k11, 0, none⟩ 0 l41 ∧ True) [] ⟨[0, 0, 1, 7, 15], [31, 31, 30, 29, 31], [0, 0, 0, 0, 0], 0⟩ (.q 0 (.q 1 (.q 2 (.x 3 (.q 4 .nil) .no)))) TF.mixed (by kernel_rfl) ⟨f42, trivial⟩ ?_
  refine RunT.quiet rfl rfl rfl (fun h' hC => sem_move ((Value.pointer p10)) rfl ⟨rfl, rfl⟩) ?_
  refine RunT.quiet rfl rfl rfl (fun h' hC => sem_loadN ⟨k11, 0, none⟩ l41 rfl TF.agg_115 (TF.sz_115.trans (congrArg some hln.symm)) hC.1 ⟨rfl, rfl⟩) ?_
  refine RunT.quiet rfl rfl rfl (fun h' hC => sem_assign ((Value.pointer p10)) rfl ⟨rfl, rfl⟩) ?_
  refine ⟨?_, trivial⟩
  obtain ⟨hln, h44, hst, hS⟩ := hS
  refine OpH.go rfl rfl rfl (sem_storeN ⟨k7, 0, none⟩ l41 h44 rfl rfl (TF.sz_115.trans (congrArg some hln.symm)) hst ?_)
  obtain ⟨g45, hS⟩ := hS
  refine ⟨fun _ => ⟨g45, trivial⟩, ?_⟩
  refine RunT.quiet rfl rfl rfl (fun h' hC => sem_assign ((Value.bool true)) rfl ⟨rfl, rfl⟩) ?_
  obtain ⟨l46, hln1, hl1, hS⟩ := hS
  refine Run.ret ⟨.inr rfl, ?_⟩
  exact ⟨⟨k7, 0, none⟩, (Value.agg (List.toArray l46)), rfl, loadHN TF.agg_115 (TF.sz_115.trans (congrArg some hln1.symm)) hl1, hS.imp fun h' hq => ⟨p10, l46, (true), rfl, hq⟩⟩
set_option maxHeartbeats 4000000 in
theorem C_redo_Apply.of {B : RO} {p1 : Option Addr} {a2 : Option Addr} {n3 : Nat} {c4 : Nat} {i5 : Int} {h : Heap} {Q : Heap → Prop} (hS : S_redo_Apply B p1 a2 n3 c4 i5 h Q) : C_redo_Apply B p1 a2 n3 c4 i5 h Q := by
 unfold S_redo_Apply at hS
 unfold C_redo_Apply
 refine Spec.of_run Try.func68 (N := 22) (rs := []) rfl rfl rfl (Nat.le_of_ble_eq_true rfl) ?_
 refine Run.seq ?_
 refine Run.ops0 (idx := [0, 1, 2]) rfl ?_
 refine Run.go rfl rfl rfl (sem_move ((Value.slice a2 n3 c4)) rfl ?_)
 refine Run.go rfl rfl rfl (sem_lenSl a2 n3 c4 rfl TF.sl_96 ?_)
 refine Run.go rfl rfl rfl (sem_move ((Value.int .i64 (0))) rfl ?_)
 refine Run.region_end ?_
 refine Run.block ?_
 obtain ⟨J11, m9, h0, hS⟩ := hS
 refine Run.of_fin (h0.imp fun h' h0 => ?_)
 refine Run.loop (σ := Int × Nat) (fun x e h => J11 x.1 x.2 h ∧ Agree [(0, (Value.pointer p1)), (2, (Value.int .i64 (i5))), (8, (Value.slice a2 n3 c4)), (9, (Value.int .i64 ((n3 : Nat)))), (10, (Value.int .i64 (x.1)))] e) (fun x => x.2) ((0), m9) ⟨h0, ⟨rfl, rfl, rfl, rfl, rfl, trivial⟩⟩ ?_; clear h0
 rintro ⟨i6, m8⟩ e h7 ⟨hJ, hag⟩ ih10
 have hS := hS i6 m8 h7 hJ; clear hJ
 refine Run.env hag ?_; clear hag
 refine Run.seq ?_
 refine Run.ops0 (idx := [0]) rfl ?_
 obtain ⟨hT, hF⟩ := hS
 by_cases hb12 : (i6 : Int) < ((n3 : Nat))
 ·have hS := hT hb12; clear hT hF
  refine Run.go rfl rfl rfl (sem_binI .i64 (i6) ((n3 : Nat)) (.bool true) rfl rfl (binI_lss_t hb12) ?_)
  refine Run.region_end ?_
  refine Run.seq ?_
  refine Run.condT rfl ?_
  refine Run.skip ?_
  refine Run.seq ?_
  refine Run.block ?_
  refine Run.seq ?_
  refine Run.ops0 (idx := [0, 1, 2, 3]) rfl ?_
  obtain ⟨A13, e14, hi0, hi1, hS⟩ := hS
  refine Run.go rfl rfl rfl (sem_indexAddrS A13 n3 c4 .i64 (i6) (congrArg (fun a => Value.slice a n3 c4) e14) rfl TF.slc_96 hi0 hi1 ?_)
  obtain ⟨i15, b16, s17, hl, hS⟩ := hS
  refine Run.go rfl rfl rfl (sem_loadN (Addr.add A13 (Int.toNat (i6) * 3)) [(Value.int .i64 (i15)), (Value.bool b16), (Value.string s17)] rfl TF.agg_199 TF.sz_199 hl ?_)
  refine Run.go rfl rfl rfl (sem_allocN [(Value.int .i64 (0)), (Value.bool false), (Value.string ByteArray.empty)] TF.zero_199 (fun k18 hb1 hb2 h19 hb3 => ?_))
  have hS := hS k18 hb1 hb2 h19 hb3
  obtain ⟨h20, hst, hS⟩ := hS
  refine Run.go rfl rfl rfl (sem_storeN ⟨k18, 0, none⟩ [(Value.int .i64 (i15)), (Value.bool b16), (Value.string s17)] h20 rfl rfl TF.sz_199 hst ?_)
  refine Run.region_end ?_
  refine Run.ops0 (idx := [0, 1, 2, 3, 4, 5, 6]) rfl ?_
  refine Run.go rfl rfl rfl (sem_move ((Value.pointer p1)) rfl ?_)
  refine Run.go rfl rfl rfl (sem_fieldAddr ⟨k18, 0, none⟩ 0 rfl TF.fld_199_0 ?_)
  obtain ⟨i21, hl, hS⟩ := hS
  refine Run.go rfl rfl rfl (sem_load1 ⟨k18, 0, none⟩ ((Value.int .i64 (i21))) rfl TF.agg_3 hl ?_)
  refine Run.go rfl rfl rfl (sem_fieldAddr ⟨k18, 0, none⟩ 1 rfl TF.fld_199_1 ?_)
  obtain ⟨b22, s23, hl, hS⟩ := hS
  refine Run.go rfl rfl rfl (sem_loadN ⟨k18, 1, none⟩ [(Value.bool b22), (Value.string s23)] rfl TF.agg_111 TF.sz_111 hl ?_)
  refine Run.go rfl rfl rfl (sem_move ((Value.int .i64 (i5))) rfl ?_)
  refine Run.go rfl rfl rfl (sem_callL [(Value.pointer p1), (Value.int .i64 (i21)), (Value.agg #[(Value.bool b22), (Value.string s23)]), (Value.int .i64 (i5))] (TF.goes_118) rfl rfl (Spec.mono hS fun v h24 hv => ?_))
  obtain ⟨b25, rfl, hS⟩ := hv
  refine Run.region_end ?_
  refine Run.inBlock ?_
  refine Run.ops0 (idx := [0, 1]) rfl ?_
  refine Run.go rfl rfl rfl (sem_binI .i64 (i6) (1) ((Value.int .i64 (IntKind.wrap .i64 ((i6) + (1))))) rfl rfl rfl ?_)
  refine Run.go rfl rfl rfl (sem_move ((Value.int .i64 (IntKind.wrap .i64 ((i6) + (1))))) rfl ?_)
  refine Run.region_end ?_
  exact Run.of_fin (hS.imp fun h' ⟨m', hm, hS⟩ => ih10 ((IntKind.wrap .i64 ((i6) + (1))), m') _ _ ⟨hS, ⟨rfl, rfl, rfl, rfl, rfl, trivial⟩⟩ hm)
 ·have hS := hF hb12; clear hT hF
  refine Run.go rfl rfl rfl (sem_binI .i64 (i6) ((n3 : Nat)) (.bool false) rfl rfl (binI_lss_f hb12) ?_)
  refine Run.region_end ?_
  refine Run.seq ?_
  refine Run.condF rfl ?_
  refine Run.exit rfl ?_
  refine Run.fall ⟨.inl rfl, ?_⟩
  exact hS.imp fun h' hq => ⟨rfl, hq⟩
set_option maxHeartbeats 4000000 in
theorem C_countermandref18_Apply.of {B : RO} {l1 : List Value} {a2 : Option Addr} {n3 : Nat} {c4 : Nat} {h : Heap} {Q : List Value → Heap → Prop} (hS : S_countermandref18_Apply B l1 a2 n3 c4 h Q) : C_countermandref18_Apply B l1 a2 n3 c4 h Q := by
 unfold S_countermandref18_Apply at hS
 unfold C_countermandref18_Apply
 refine Spec.of_run Try.func69 (N := 20) (rs := [ResultVar.cell 4 115]) rfl rfl rfl (Nat.le_of_ble_eq_true rfl) ?_
 refine Run.seq ?_
 refine Run.ops0 (idx := [0, 1]) rfl ?_
 refine Run.go rfl rfl rfl (sem_boxNN l1 rfl (fun k6 hb1 hb2 h7 hb3 => ?_))
 have hS := hS k6 hb1 hb2 h7 hb3
 refine Run.go rfl rfl rfl (sem_allocN [(Value.bool false), (Value.string ByteArray.empty), (Value.bool false), (Value.string ByteArray.empty), (Value.bool false), (Value.string ByteArray.empty), (Value.bool false), (Value.string ByteArray.empty), (Value.bool false), (Value.string ByteArray.empty), (Value.bool false), (Value.string ByteArray.empty)] TF.zero_115 (fun k8 hb1 hb2 h9 hb3 => ?_))
 have hS := hS k8 hb1 hb2 h9 hb3
 refine Run.region_end ?_
 refine Run.seq ?_
 refine Run.seq ?_
 refine Run.ops0 (idx := [0, 1, 2]) rfl ?_
 refine Run.go rfl rfl rfl (sem_move ((Value.slice a2 n3 c4)) rfl ?_)
 refine Run.go rfl rfl rfl (sem_lenSl a2 n3 c4 rfl TF.sl_99 ?_)
 refine Run.go rfl rfl rfl (sem_move ((Value.int .i64 (0))) rfl ?_)
 refine Run.region_end ?_
 refine Run.block ?_
 obtain ⟨J15, m13, h0, hS⟩ := hS
 refine Run.of_fin (h0.imp fun h' h0 => ?_)
 refine Run.loop (σ := Int × Nat) (fun x e h => J15 x.1 x.2 h ∧ Agree [(2, (Value.pointer (some ⟨k6, 0, none⟩))), (4, (Value.pointer (some ⟨k8, 0, none⟩))), (7, (Value.slice a2 n3 c4)), (8, (Value.int .i64 ((n3 : Nat)))), (9, (Value.int .i64 (x.1)))] e) (fun x => x.2) ((0), m13) ⟨h0, ⟨rfl, rfl, rfl, rfl, rfl, trivial⟩⟩ ?_; clear h0
 rintro ⟨i10, m12⟩ e h11 ⟨hJ, hag⟩ ih14
 have hS := hS i10 m12 h11 hJ; clear hJ
 refine Run.env hag ?_; clear hag
 refine Run.seq ?_
 refine Run.ops0 (idx := [0]) rfl ?_
 obtain ⟨hT, hF⟩ := hS
 by_cases hb16 : (i10 : Int) < ((n3 : Nat))
 ·have hS := hT hb16; clear hT hF
  refine Run.go rfl rfl rfl (sem_binI .i64 (i10) ((n3 : Nat)) (.bool true) rfl rfl (binI_lss_t hb16) ?_)
  refine Run.region_end ?_
  refine Run.seq ?_
  refine Run.condT rfl ?_
  refine Run.skip ?_
  refine Run.seq ?_
  refine Run.block ?_
  refine Run.seq ?_
  refine Run.ops0 (idx := [0, 1, 2, 3]) rfl ?_
  obtain ⟨A17, e18, hi0, hi1, hS⟩ := hS
  refine Run.go rfl rfl rfl (sem_indexAddrS A17 n3 c4 .i64 (i10) (congrArg (fun a => Value.slice a n3 c4) e18) rfl TF.slc_99 hi0 hi1 ?_)
  obtain ⟨i19, b20, s21, hl, hS⟩ := hS
  refine Run.go rfl rfl rfl (sem_loadN (Addr.add A17 (Int.toNat (i10) * 3)) [(Value.int .i64 (i19)), (Value.bool b20), (Value.string s21)] rfl TF.agg_122 TF.sz_122 hl ?_)
  refine Run.go rfl rfl rfl (sem_allocN [(Value.int .i64 (0)), (Value.bool false), (Value.string ByteArray.empty)] TF.zero_122 (fun k22 hb1 hb2 h23 hb3 => ?_))
  have hS := hS k22 hb1 hb2 h23 hb3
  obtain ⟨h24, hst, hS⟩ := hS
  refine Run.go rfl rfl rfl (sem_storeN ⟨k22, 0, none⟩ [(Value.int .i64 (i19)), (Value.bool b20), (Value.string s21)] h24 rfl rfl TF.sz_122 hst ?_)
  refine Run.region_end ?_
  refine Run.ops0 (idx := [0, 1, 2, 3, 4, 5]) rfl ?_
  refine Run.go rfl rfl rfl (sem_fieldAddr ⟨k22, 0, none⟩ 0 rfl TF.fld_122_0 ?_)
  obtain ⟨i25, hl, hS⟩ := hS
  refine Run.go rfl rfl rfl (sem_load1 ⟨k22, 0, none⟩ ((Value.int .i64 (i25))) rfl TF.agg_3 hl ?_)
  refine Run.go rfl rfl rfl (sem_fieldAddr ⟨k22, 0, none⟩ 1 rfl TF.fld_122_1 ?_)
  obtain ⟨b26, s27, hl, hS⟩ := hS
  refine Run.go rfl rfl rfl (sem_loadN ⟨k22, 1, none⟩ [(Value.bool b26), (Value.string s27)] rfl TF.agg_114 TF.sz_114 hl ?_)
  obtain ⟨hi0, hi1, hS⟩ := hS
  refine Run.go rfl rfl rfl (sem_indexAddrA ⟨k6, 0, none⟩ .i64 (i25) rfl rfl TF.arr_115 hi0 hi1 ?_)
  obtain ⟨h28, hst, hS⟩ := hS
  refine Run.go rfl rfl rfl (sem_storeN (Addr.add ⟨k6, 0, none⟩ (Int.toNat (i25) * 2)) [(Value.bool b26), (Value.string s27)] h28 rfl rfl TF.sz_114 hst ?_)
  refine Run.region_end ?_
  refine Run.inBlock ?_
  refine Run.ops0 (idx := [0, 1]) rfl ?_
  refine Run.go rfl rfl rfl (sem_binI .i64 (i10) (1) ((Value.int .i64 (IntKind.wrap .i64 ((i10) + (1))))) rfl rfl rfl ?_)
  refine Run.go rfl rfl rfl (sem_move ((Value.int .i64 (IntKind.wrap .i64 ((i10) + (1))))) rfl ?_)
  refine Run.region_end ?_
  exact Run.of_fin (hS.imp fun h' ⟨m', hm, hS⟩ => ih14 ((IntKind.wrap .i64 ((i10) + (1))), m') _ _ ⟨hS, ⟨rfl, rfl, rfl, rfl, rfl, trivial⟩⟩ hm)
 ·have hS := hF hb16; clear hT hF
  refine Run.go rfl rfl rfl (sem_binI .i64 (i10) ((n3 : Nat)) (.bool false) rfl rfl (binI_lss_f hb16) ?_)
  refine Run.region_end ?_
  refine Run.seq ?_
  refine Run.condF rfl ?_
  refine Run.exit rfl ?_
  refine Run.seq ?_
  refine Run.ops0 (idx := [0, 1]) rfl ?_
  obtain ⟨l29, hln, hl, hS⟩ := hS
  refine Run.go rfl rfl rfl (sem_loadN ⟨k6, 0, none⟩ l29 rfl TF.agg_115 (TF.sz_115.trans (congrArg some hln.symm)) hl ?_)
  obtain ⟨hln, h30, hst, hS⟩ := hS
  refine Run.go rfl rfl rfl (sem_storeN ⟨k8, 0, none⟩ l29 h30 rfl rfl (TF.sz_115.trans (congrArg some hln.symm)) hst ?_)
  refine Run.region_end ?_
  obtain ⟨l31, hln0, hl0, hS⟩ := hS
  refine Run.ret ⟨.inr rfl, ?_⟩
  exact ⟨⟨k8, 0, none⟩, (Value.agg (List.toArray l31)), rfl, loadHN TF.agg_115 (TF.sz_115.trans (congrArg some hln0.symm)) hl0, hS.imp fun h' hq => ⟨l31, rfl, hq⟩⟩
set_option maxHeartbeats 4000000 in
theorem C_countermandlaw18_are.of {B : RO} {p1 : Option Addr} {l2 : List Value} {h : Heap} {Q : Bool → Heap → Prop} (hS : S_countermandlaw18_are B p1 l2 h Q) : C_countermandlaw18_are B p1 l2 h Q := by
 unfold S_countermandlaw18_are at hS
 unfold C_countermandlaw18_are
 refine Spec.of_run Try.func70 (N := 24) (rs := [ResultVar.tmp 4]) rfl rfl rfl (Nat.le_of_ble_eq_true rfl) ?_
 refine Run.seq ?_
 refine Run.ops0 (idx := [0, 1]) rfl ?_
 refine Run.go rfl rfl rfl (sem_boxNN l2 rfl (fun k4 hb1 hb2 h5 hb3 => ?_))
 have hS := hS k4 hb1 hb2 h5 hb3
 refine Run.go rfl rfl rfl (sem_assign ((Value.bool false)) rfl ?_)
 refine Run.region_end ?_
 refine Run.seq ?_
 refine Run.seq ?_
 refine Run.ops0 (idx := [0, 1]) rfl ?_
 obtain ⟨l6, hln, hl, hS⟩ := hS
 refine Run.go rfl rfl rfl (sem_loadN ⟨k4, 0, none⟩ l6 rfl TF.agg_115 (TF.sz_115.trans (congrArg some hln.symm)) hl ?_)
 refine Run.go rfl rfl rfl (sem_move ((Value.int .i64 (0))) rfl ?_)
 refine Run.region_end ?_
 refine Run.block ?_
 obtain ⟨J12, m10, h0, hS⟩ := hS
 refine Run.of_fin (h0.imp fun h' h0 => ?_)
 refine Run.loop (σ := Int × Nat) (fun x e h => J12 x.1 x.2 h ∧ Agree [(0, (Value.pointer p1)), (9, (Value.agg (List.toArray l6))), (10, (Value.int .i64 (x.1)))] e) (fun x => x.2) ((0), m10) ⟨h0, ⟨rfl, rfl, rfl, trivial⟩⟩ ?_; clear h0
 rintro ⟨i7, m9⟩ e h8 ⟨hJ, hag⟩ ih11
 have hS := hS i7 m9 h8 hJ; clear hJ
 refine Run.env hag ?_; clear hag
 refine Run.seq ?_
 refine Run.ops0 (idx := [0]) rfl ?_
 obtain ⟨hT, hF⟩ := hS
 by_cases hb13 : (i7 : Int) < (6)
 ·have hS := hT hb13; clear hT hF
  refine Run.go rfl rfl rfl (sem_binI .i64 (i7) (6) (.bool true) rfl rfl (binI_lss_t hb13) ?_)
  refine Run.region_end ?_
  refine Run.seq ?_
  refine Run.condT rfl ?_
  refine Run.skip ?_
  refine Run.seq ?_
  refine Run.block ?_
  refine Run.seq ?_
  refine Run.ops0 (idx := [0, 1, 2, 3, 4]) rfl ?_
  refine Run.go rfl rfl rfl (sem_move ((Value.int .i64 (i7))) rfl ?_)
  obtain ⟨hi0, hi1, b14, s15, hix, hS⟩ := hS
  refine Run.go rfl rfl rfl (sem_indexArr (List.toArray l6) (Value.agg #[(Value.bool b14), (Value.string s15)]) .i64 (i7) rfl rfl TF.arr_115 hi0 hi1 (congrArg (fun a => some (Value.agg a)) hix) ?_)
  refine Run.go rfl rfl rfl (sem_allocN [(Value.bool false), (Value.string ByteArray.empty)] TF.zero_114 (fun k16 hb1 hb2 h17 hb3 => ?_))
  have hS := hS k16 hb1 hb2 h17 hb3
  refine Run.go rfl rfl rfl (sem_assign ((Value.int .i64 (i7))) rfl ?_)
  obtain ⟨h18, hst, hS⟩ := hS
  refine Run.go rfl rfl rfl (sem_storeN ⟨k16, 0, none⟩ [(Value.bool b14), (Value.string s15)] h18 rfl rfl TF.sz_114 hst ?_)
  refine Run.region_end ?_
  refine Run.seq ?_
  refine Run.ops0 (idx := [0, 1, 2, 3, 4, 5, 6, 7, 8]) rfl ?_
  refine Run.go rfl rfl rfl (sem_move ((Value.pointer p1)) rfl ?_)
  refine Run.go rfl rfl rfl (sem_move ((Value.int .i64 (i7))) rfl ?_)
  refine Run.go rfl rfl rfl (sem_callL [(Value.pointer p1), (Value.int .i64 (i7))] (TF.goes_71) rfl rfl (Spec.mono hS fun v h19 hv => ?_))
  obtain ⟨b20, s21, i22, rfl, hS⟩ := hv
  refine Run.go rfl rfl rfl (sem_move ((Value.tuple #[(Value.agg #[(Value.bool b20), (Value.string s21)]), (Value.int .i64 (i22))])) rfl ?_)
  refine Run.go rfl rfl rfl (sem_extract #[(Value.agg #[(Value.bool b20), (Value.string s21)]), (Value.int .i64 (i22))] ((Value.agg #[(Value.bool b20), (Value.string s21)])) rfl rfl ?_)
  refine Run.go rfl rfl rfl (sem_extract #[(Value.agg #[(Value.bool b20), (Value.string s21)]), (Value.int .i64 (i22))] ((Value.int .i64 (i22))) rfl rfl ?_)
  refine Run.go rfl rfl rfl (sem_allocN [(Value.bool false), (Value.string ByteArray.empty)] TF.zero_111 (fun k23 hb1 hb2 h24 hb3 => ?_))
  have hS := hS k23 hb1 hb2 h24 hb3
  obtain ⟨h25, hst, hS⟩ := hS
  refine Run.go rfl rfl rfl (sem_storeN ⟨k23, 0, none⟩ [(Value.bool b20), (Value.string s21)] h25 rfl rfl TF.sz_111 hst ?_)
  refine Run.go rfl rfl rfl (sem_assign ((Value.int .i64 (i22))) rfl ?_)
  refine Run.region_end ?_
  refine Run.seq ?_
  refine Run.ops0 (idx := [0, 1, 2]) rfl ?_
  obtain ⟨b26, s27, hl, hS⟩ := hS
  refine Run.go rfl rfl rfl (sem_loadN ⟨k23, 0, none⟩ [(Value.bool b26), (Value.string s27)] rfl TF.agg_111 TF.sz_111 hl ?_)
  obtain ⟨b28, s29, hl, hS⟩ := hS
  refine Run.go rfl rfl rfl (sem_loadN ⟨k16, 0, none⟩ [(Value.bool b28), (Value.string s29)] rfl TF.agg_114 TF.sz_114 hl ?_)
  obtain ⟨hT, hF⟩ := hS
  by_cases hb30 : eqL [(Value.bool b26), (Value.string s27)] [(Value.bool b28), (Value.string s29)] = true
  ·have hS := hT hb30; clear hT hF
   refine Run.go rfl rfl rfl (sem_aggEq [(Value.bool b26), (Value.string s27)] [(Value.bool b28), (Value.string s29)] _ (false) (.inr rfl) rfl rfl TF.agg_114 TF.flat_114 TF.eqg_114 ⟨⟨_, rfl⟩, ⟨_, rfl⟩, trivial⟩ ⟨⟨_, rfl⟩, ⟨_, rfl⟩, trivial⟩ (eqLT_neq hb30) ?_)
   refine Run.region_end ?_
   refine Run.condF rfl ?_
   refine Run.skip ?_
   refine Run.inBlock ?_
   refine Run.ops0 (idx := [0, 1]) rfl ?_
   refine Run.go rfl rfl rfl (sem_binI .i64 (i7) (1) ((Value.int .i64 (IntKind.wrap .i64 ((i7) + (1))))) rfl rfl rfl ?_)
   refine Run.go rfl rfl rfl (sem_move ((Value.int .i64 (IntKind.wrap .i64 ((i7) + (1))))) rfl ?_)
   refine Run.region_end ?_
   exact Run.of_fin (hS.imp fun h' ⟨m', hm, hS⟩ => ih11 ((IntKind.wrap .i64 ((i7) + (1))), m') _ _ ⟨hS, ⟨rfl, rfl, rfl, trivial⟩⟩ hm)
  ·have hS := hF hb30; clear hT hF
   refine Run.go rfl rfl rfl (sem_aggEq [(Value.bool b26), (Value.string s27)] [(Value.bool b28), (Value.string s29)] _ (true) (.inr rfl) rfl rfl TF.agg_114 TF.flat_114 TF.eqg_114 ⟨⟨_, rfl⟩, ⟨_, rfl⟩, trivial⟩ ⟨⟨_, rfl⟩, ⟨_, rfl⟩, trivial⟩ (eqLF_neq hb30) ?_)
   refine Run.region_end ?_
   refine Run.condT rfl ?_
   refine Run.seq ?_
   refine Run.ops0 (idx := [0]) rfl ?_
   refine Run.go rfl rfl rfl (sem_assign ((Value.bool false)) rfl ?_)
   refine Run.region_end ?_
   refine Run.ret ⟨.inr rfl, ?_⟩
   exact hS.imp fun h' hq => ⟨(false), rfl, hq⟩
 ·have hS := hF hb13; clear hT hF
  refine Run.go rfl rfl rfl (sem_binI .i64 (i7) (6) (.bool false) rfl rfl (binI_lss_f hb13) ?_)
  refine Run.region_end ?_
  refine Run.seq ?_
  refine Run.condF rfl ?_
  refine Run.exit rfl ?_
  refine Run.seq ?_
  refine Run.ops0 (idx := [0]) rfl ?_
  refine Run.go rfl rfl rfl (sem_assign ((Value.bool true)) rfl ?_)
  refine Run.region_end ?_
  refine Run.ret ⟨.inr rfl, ?_⟩
  exact hS.imp fun h' hq => ⟨(true), rfl, hq⟩
set_option maxHeartbeats 4000000 in
theorem C_tome_Tome_Get.of {B : RO} {p1 : Option Addr} {i2 : Int} {h : Heap} {Q : Bool → ByteArray → Int → Heap → Prop} (hS : S_tome_Tome_Get B p1 i2 h Q) : C_tome_Tome_Get B p1 i2 h Q := by
 unfold S_tome_Tome_Get at hS
 unfold C_tome_Tome_Get
 refine Spec.of_run Try.func71 (N := 17) (rs := [ResultVar.cell 4 111, ResultVar.tmp 5]) rfl rfl rfl (Nat.le_of_ble_eq_true rfl) ?_
 refine Run.seq ?_
 refine Run.ops0 (idx := [0, 1]) rfl ?_
 refine Run.go rfl rfl rfl (sem_allocN [(Value.bool false), (Value.string ByteArray.empty)] TF.zero_111 (fun k6 hb1 hb2 h7 hb3 => ?_))
 have hS := hS k6 hb1 hb2 h7 hb3
 refine Run.go rfl rfl rfl (sem_assign ((Value.int .i64 (0))) rfl ?_)
 refine Run.region_end ?_
 refine Run.seq ?_
 refine Run.seq ?_
 refine Run.ops0 (idx := [0, 1]) rfl ?_
 refine Run.go rfl rfl rfl (sem_move ((Value.pointer p1)) rfl ?_)
 obtain ⟨hT, hF⟩ := hS
 by_cases hb8 : p1 = none
 ·have hS := hT hb8; clear hT hF
  refine Run.go rfl rfl rfl (sem_ptrNilT p1 (.inl rfl) true rfl rfl TF.ptr_113 hb8 rfl ?_)
  refine Run.region_end ?_
  refine Run.condT rfl ?_
  refine Run.seq ?_
  refine Run.ops0 (idx := [0, 1, 2]) rfl ?_
  refine Run.go rfl rfl rfl (sem_buildSL [] [(Value.bool false), (Value.string ByteArray.empty)] TF.zero_111 TF.places_111 rfl rfl ?_)
  obtain ⟨h9, hst, hS⟩ := hS
  refine Run.go rfl rfl rfl (sem_storeN ⟨k6, 0, none⟩ [(Value.bool false), (Value.string ByteArray.empty)] h9 rfl rfl TF.sz_111 hst ?_)
  refine Run.go rfl rfl rfl (sem_assign ((Value.int .i64 (0))) rfl ?_)
  refine Run.region_end ?_
  obtain ⟨b10, s11, hl0, hS⟩ := hS
  refine Run.ret ⟨.inr rfl, ?_⟩
  exact ⟨⟨k6, 0, none⟩, (Value.agg #[(Value.bool b10), (Value.string s11)]), rfl, loadHN TF.agg_111 TF.sz_111 hl0, hS.imp fun h' hq => ⟨(b10), s11, (0), rfl, hq⟩⟩
 ·have hS := hF hb8; clear hT hF
  refine Run.go rfl rfl rfl (sem_ptrNilF p1 (.inl rfl) false rfl rfl TF.ptr_113 hb8 rfl ?_)
  refine Run.region_end ?_
  refine Run.condF rfl ?_
  refine Run.skip ?_
  refine Run.seq ?_
  refine Run.ops0 (idx := [0, 1, 2, 3, 4, 5, 6, 7, 8, 9]) rfl ?_
  refine Run.go rfl rfl rfl (sem_move ((Value.pointer p1)) rfl ?_)
  obtain ⟨A12, e13, hS⟩ := hS
  refine Run.go rfl rfl rfl (sem_nilCheck A12 (congrArg Value.pointer e13) ?_)
  refine Run.go rfl rfl rfl (sem_fieldAddr A12 0 rfl TF.fld_217_0 ?_)
  obtain ⟨p14, hl, hS⟩ := hS
  refine Run.go rfl rfl rfl (sem_load1 A12 ((Value.pointer p14)) rfl TF.agg_215 hl ?_)
  refine Run.go rfl rfl rfl (sem_move ((Value.int .i64 (i2))) rfl ?_)
  refine Run.go rfl rfl rfl (sem_callL [(Value.pointer p14), (Value.int .i64 (i2))] (TF.goes_119) rfl rfl (Spec.mono hS fun v h15 hv => ?_))
  obtain ⟨b16, s17, i18, rfl, hS⟩ := hv
  refine Run.go rfl rfl rfl (sem_extract #[(Value.agg #[(Value.bool b16), (Value.string s17)]), (Value.int .i64 (i18))] ((Value.agg #[(Value.bool b16), (Value.string s17)])) rfl rfl ?_)
  refine Run.go rfl rfl rfl (sem_extract #[(Value.agg #[(Value.bool b16), (Value.string s17)]), (Value.int .i64 (i18))] ((Value.int .i64 (i18))) rfl rfl ?_)
  obtain ⟨h19, hst, hS⟩ := hS
  refine Run.go rfl rfl rfl (sem_storeN ⟨k6, 0, none⟩ [(Value.bool b16), (Value.string s17)] h19 rfl rfl TF.sz_111 hst ?_)
  refine Run.go rfl rfl rfl (sem_assign ((Value.int .i64 (i18))) rfl ?_)
  refine Run.region_end ?_
  obtain ⟨b20, s21, hl0, hS⟩ := hS
  refine Run.ret ⟨.inr rfl, ?_⟩
  exact ⟨⟨k6, 0, none⟩, (Value.agg #[(Value.bool b20), (Value.string s21)]), rfl, loadHN TF.agg_111 TF.sz_111 hl0, hS.imp fun h' hq => ⟨(b20), s21, (i18), rfl, hq⟩⟩
set_option maxHeartbeats 4000000 in
theorem C_redo_Replay.of {B : RO} {p1 : Option Addr} {a2 : Option Addr} {n3 : Nat} {c4 : Nat} {h : Heap} {Q : Int → Int → Heap → Prop} (hS : S_redo_Replay B p1 a2 n3 c4 h Q) : C_redo_Replay B p1 a2 n3 c4 h Q := by
 unfold S_redo_Replay at hS
 unfold C_redo_Replay
 refine Spec.of_run Try.func72 (N := 39) (rs := [ResultVar.tmp 4, ResultVar.tmp 5]) rfl rfl rfl (Nat.le_of_ble_eq_true rfl) ?_
 refine Run.seq ?_
 refine Run.ops0 (idx := [0, 1]) rfl ?_
 refine Run.go rfl rfl rfl (sem_assign ((Value.int .i64 (0))) rfl ?_)
 refine Run.go rfl rfl rfl (sem_assign ((Value.int .i64 (0))) rfl ?_)
 refine Run.region_end ?_
 refine Run.seq ?_
 refine Run.ops0 (idx := [0]) rfl ?_
 refine Run.go rfl rfl rfl (sem_assign ((Value.int .i64 (0))) rfl ?_)
 refine Run.region_end ?_
 refine Run.seq ?_
 refine Run.seq ?_
 refine Run.ops0 (idx := [0, 1, 2]) rfl ?_
 refine Run.go rfl rfl rfl (sem_move ((Value.slice a2 n3 c4)) rfl ?_)
 refine Run.go rfl rfl rfl (sem_lenSl a2 n3 c4 rfl TF.sl_55 ?_)
 refine Run.go rfl rfl rfl (sem_move ((Value.int .i64 (0))) rfl ?_)
 refine Run.region_end ?_
 refine Run.block ?_
 obtain ⟨J13, m11, h0, hS⟩ := hS
 refine Run.of_fin (h0.imp fun h' h0 => ?_)
 refine Run.loop (σ := Int × Int × Nat) (fun x e h => J13 x.1 x.2.1 x.2.2 h ∧ Agree [(0, (Value.pointer p1)), (1, (Value.slice a2 n3 c4)), (6, (Value.int .i64 (x.1))), (12, (Value.slice a2 n3 c4)), (13, (Value.int .i64 ((n3 : Nat)))), (14, (Value.int .i64 (x.2.1)))] e) (fun x => x.2.2) ((0), (0), m11) ⟨h0, ⟨rfl, rfl, rfl, rfl, rfl, rfl, trivial⟩⟩ ?_; clear h0
 rintro ⟨i7, i8, m10⟩ e h9 ⟨hJ, hag⟩ ih12
 have hS := hS i7 i8 m10 h9 hJ; clear hJ
 refine Run.env hag ?_; clear hag
 refine Run.seq ?_
 refine Run.ops0 (idx := [0]) rfl ?_
 obtain ⟨hT, hF⟩ := hS
 by_cases hb14 : (i8 : Int) < ((n3 : Nat))
 ·have hS := hT hb14; clear hT hF
  refine Run.go rfl rfl rfl (sem_binI .i64 (i8) ((n3 : Nat)) (.bool true) rfl rfl (binI_lss_t hb14) ?_)
  refine Run.region_end ?_
  refine Run.seq ?_
  refine Run.condT rfl ?_
  refine Run.skip ?_
  refine Run.seq ?_
  refine Run.block ?_
  refine Run.seq ?_
  refine Run.ops0 (idx := [0, 1, 2, 3, 4]) rfl ?_
  refine Run.go rfl rfl rfl (sem_move ((Value.int .i64 (i8))) rfl ?_)
  obtain ⟨A15, e16, hi0, hi1, hS⟩ := hS
  refine Run.go rfl rfl rfl (sem_indexAddrS A15 n3 c4 .i64 (i8) (congrArg (fun a => Value.slice a n3 c4) e16) rfl TF.slc_55 hi0 hi1 ?_)
  obtain ⟨s17, hl, hS⟩ := hS
  refine Run.go rfl rfl rfl (sem_load1 (Addr.add A15 (Int.toNat (i8) * 1)) ((Value.string s17)) rfl TF.agg_9 hl ?_)
  refine Run.go rfl rfl rfl (sem_assign ((Value.int .i64 (i8))) rfl ?_)
  refine Run.go rfl rfl rfl (sem_assign ((Value.string s17)) rfl ?_)
  refine Run.region_end ?_
  refine Run.seq ?_
  refine Run.ops0 (idx := [0, 1, 2, 3, 4, 5, 6, 7, 8]) rfl ?_
  refine Run.go rfl rfl rfl (sem_move ((Value.string s17)) rfl ?_)
  refine Run.go rfl rfl rfl (sem_callL [(Value.string s17)] (TF.goes_61) rfl rfl (Spec.mono hS fun v h18 hv => ?_))
  obtain ⟨i19, a20, n21, c22, b23, rfl, hS⟩ := hv
  refine Run.go rfl rfl rfl (sem_move ((Value.tuple #[(Value.int .i64 (i19)), (Value.slice a20 n21 c22), (Value.bool b23)])) rfl ?_)
  refine Run.go rfl rfl rfl (sem_extract #[(Value.int .i64 (i19)), (Value.slice a20 n21 c22), (Value.bool b23)] ((Value.int .i64 (i19))) rfl rfl ?_)
  refine Run.go rfl rfl rfl (sem_extract #[(Value.int .i64 (i19)), (Value.slice a20 n21 c22), (Value.bool b23)] ((Value.slice a20 n21 c22)) rfl rfl ?_)
  obtain ⟨hT, hF⟩ := hS
  cases b23
  ·have hS := hF rfl; clear hT hF
   refine Run.go rfl rfl rfl (sem_extract #[(Value.int .i64 (i19)), (Value.slice a20 n21 c22), (Value.bool false)] (.bool false) rfl rfl ?_)
   refine Run.go rfl rfl rfl (sem_assign ((Value.int .i64 (i19))) rfl ?_)
   refine Run.go rfl rfl rfl (sem_assign ((Value.slice a20 n21 c22)) rfl ?_)
   refine Run.go rfl rfl rfl (sem_assign ((Value.bool false)) rfl ?_)
   refine Run.region_end ?_
   refine Run.seq ?_
   refine Run.seq ?_
   refine Run.ops0 (idx := [0, 1]) rfl ?_
   refine Run.go rfl rfl rfl (sem_move ((Value.bool false)) rfl ?_)
   refine Run.go rfl rfl rfl (sem_not false rfl ?_)
   refine Run.region_end ?_
   refine Run.condT rfl ?_
   refine Run.seq ?_
   refine Run.ops0 (idx := [0, 1, 2, 3]) rfl ?_
   refine Run.go rfl rfl rfl (sem_move ((Value.int .i64 (i7))) rfl ?_)
   refine Run.go rfl rfl rfl (sem_move ((Value.int .i64 (i8))) rfl ?_)
   refine Run.go rfl rfl rfl (sem_assign ((Value.int .i64 (i7))) rfl ?_)
   refine Run.go rfl rfl rfl (sem_assign ((Value.int .i64 (i8))) rfl ?_)
   refine Run.region_end ?_
   refine Run.ret ⟨.inr rfl, ?_⟩
   exact hS.imp fun h' hq => ⟨(i7), (i8), rfl, hq⟩
  ·have hS := hT rfl; clear hT hF
   refine Run.go rfl rfl rfl (sem_extract #[(Value.int .i64 (i19)), (Value.slice a20 n21 c22), (Value.bool true)] (.bool true) rfl rfl ?_)
   refine Run.go rfl rfl rfl (sem_assign ((Value.int .i64 (i19))) rfl ?_)
   refine Run.go rfl rfl rfl (sem_assign ((Value.slice a20 n21 c22)) rfl ?_)
   refine Run.go rfl rfl rfl (sem_assign ((Value.bool true)) rfl ?_)
   refine Run.region_end ?_
   refine Run.seq ?_
   refine Run.seq ?_
   refine Run.ops0 (idx := [0, 1]) rfl ?_
   refine Run.go rfl rfl rfl (sem_move ((Value.bool true)) rfl ?_)
   refine Run.go rfl rfl rfl (sem_not true rfl ?_)
   refine Run.region_end ?_
   refine Run.condF rfl ?_
   refine Run.skip ?_
   refine Run.seq ?_
   refine Run.ops0 (idx := [0, 1, 2]) rfl ?_
   refine Run.go rfl rfl rfl (sem_move ((Value.pointer p1)) rfl ?_)
   refine Run.go rfl rfl rfl (sem_move ((Value.slice a20 n21 c22)) rfl ?_)
   refine Run.go rfl rfl rfl (sem_callL [(Value.pointer p1), (Value.slice a20 n21 c22), (Value.int .i64 (0))] (TF.goes_68) rfl rfl (Spec.mono hS fun v h24 hv => ?_))
   obtain ⟨rfl, hS⟩ := hv
   refine Run.region_end ?_
   refine Run.ops0 (idx := [0, 1, 2, 3]) rfl ?_
   refine Run.go rfl rfl rfl (sem_move ((Value.int .i64 (i7))) rfl ?_)
   refine Run.go rfl rfl rfl (sem_move ((Value.int .i64 (i19))) rfl ?_)
   refine Run.go rfl rfl rfl (sem_max .i64 (i7) (i19) rfl rfl ?_)
   refine Run.go rfl rfl rfl (sem_assign ((Value.int .i64 (if (i19 : Int) > (i7) then (i19 : Int) else (i7)))) rfl ?_)
   refine Run.region_end ?_
   refine Run.inBlock ?_
   refine Run.ops0 (idx := [0, 1]) rfl ?_
   refine Run.go rfl rfl rfl (sem_binI .i64 (i8) (1) ((Value.int .i64 (IntKind.wrap .i64 ((i8) + (1))))) rfl rfl rfl ?_)
   refine Run.go rfl rfl rfl (sem_move ((Value.int .i64 (IntKind.wrap .i64 ((i8) + (1))))) rfl ?_)
   refine Run.region_end ?_
   exact Run.of_fin (hS.imp fun h' ⟨m', hm, hS⟩ => ih12 ((if (i19 : Int) > (i7) then (i19 : Int) else (i7)), (IntKind.wrap .i64 ((i8) + (1))), m') _ _ ⟨hS, ⟨rfl, rfl, rfl, rfl, rfl, rfl, trivial⟩⟩ hm)
 ·have hS := hF hb14; clear hT hF
  refine Run.go rfl rfl rfl (sem_binI .i64 (i8) ((n3 : Nat)) (.bool false) rfl rfl (binI_lss_f hb14) ?_)
  refine Run.region_end ?_
  refine Run.seq ?_
  refine Run.condF rfl ?_
  refine Run.exit rfl ?_
  refine Run.seq ?_
  refine Run.ops0 (idx := [0, 1, 2, 3, 4]) rfl ?_
  refine Run.go rfl rfl rfl (sem_move ((Value.int .i64 (i7))) rfl ?_)
  refine Run.go rfl rfl rfl (sem_move ((Value.slice a2 n3 c4)) rfl ?_)
  refine Run.go rfl rfl rfl (sem_lenSl a2 n3 c4 rfl TF.sl_55 ?_)
  refine Run.go rfl rfl rfl (sem_assign ((Value.int .i64 (i7))) rfl ?_)
  refine Run.go rfl rfl rfl (sem_assign ((Value.int .i64 ((n3 : Nat)))) rfl ?_)
  refine Run.region_end ?_
  refine Run.ret ⟨.inr rfl, ?_⟩
  exact hS.imp fun h' hq => ⟨(i7), ((n3 : Nat)), rfl, hq⟩
set_option maxHeartbeats 4000000 in
theorem C_draft_Draft_file_File_Put.of {B : RO} {p1 : Option Addr} {i2 : Int} {b3 : Bool} {s4 : ByteArray} {h : Heap} {Q : Bool → Heap → Prop} (hS : S_draft_Draft_file_File_Put B p1 i2 b3 s4 h Q) : C_draft_Draft_file_File_Put B p1 i2 b3 s4 h Q := by
 unfold S_draft_Draft_file_File_Put at hS
 unfold C_draft_Draft_file_File_Put
 refine Spec.of_run Try.func103 (N := 39) (rs := [ResultVar.tmp 6]) rfl rfl rfl (Nat.le_of_ble_eq_true rfl) ?_
 refine Run.seq ?_
 refine Run.ops0 (idx := [0, 1]) rfl ?_
 refine Run.go rfl rfl rfl (sem_boxNN [(Value.bool b3), (Value.string s4)] rfl (fun k6 hb1 hb2 h7 hb3 => ?_))
 have hS := hS k6 hb1 hb2 h7 hb3
 refine Run.go rfl rfl rfl (sem_assign ((Value.bool false)) rfl ?_)
 refine Run.region_end ?_
 refine Run.seq ?_
 refine Run.seq ?_
 refine Run.ops0 (idx := [0, 1]) rfl ?_
 refine Run.go rfl rfl rfl (sem_move ((Value.pointer p1)) rfl ?_)
 obtain ⟨hT, hF⟩ := hS
 by_cases hb8 : p1 = none
 ·have hS := hT hb8; clear hT hF
  refine Run.go rfl rfl rfl (sem_ptrNilT p1 (.inl rfl) true rfl rfl TF.ptr_105 hb8 rfl ?_)
  refine Run.region_end ?_
  refine Run.condT rfl ?_
  refine Run.seq ?_
  refine Run.ops0 (idx := [0]) rfl ?_
  refine Run.go rfl rfl rfl (sem_assign ((Value.bool false)) rfl ?_)
  refine Run.region_end ?_
  refine Run.ret ⟨.inr rfl, ?_⟩
  exact hS.imp fun h' hq => ⟨(false), rfl, hq⟩
 ·have hS := hF hb8; clear hT hF
  refine Run.go rfl rfl rfl (sem_ptrNilF p1 (.inl rfl) false rfl rfl TF.ptr_105 hb8 rfl ?_)
  refine Run.region_end ?_
  refine Run.condF rfl ?_
  refine Run.skip ?_
  refine Run.seq ?_
  refine Run.ops0 (idx := [0, 1, 2, 3, 4, 5, 6, 7]) rfl ?_
  refine Run.go rfl rfl rfl (sem_move ((Value.pointer p1)) rfl ?_)
  refine Run.go rfl rfl rfl (sem_move ((Value.int .i64 (i2))) rfl ?_)
  refine Run.go rfl rfl rfl (sem_callL [(Value.pointer p1), (Value.int .i64 (i2))] (TF.goes_138) rfl rfl (Spec.mono hS fun v h9 hv => ?_))
  obtain ⟨i10, b11, rfl, hS⟩ := hv
  refine Run.go rfl rfl rfl (sem_move ((Value.tuple #[(Value.int .i64 (i10)), (Value.bool b11)])) rfl ?_)
  refine Run.go rfl rfl rfl (sem_extract #[(Value.int .i64 (i10)), (Value.bool b11)] ((Value.int .i64 (i10))) rfl rfl ?_)
  obtain ⟨hT, hF⟩ := hS
  cases b11
  ·have hS := hF rfl; clear hT hF
   refine Run.go rfl rfl rfl (sem_extract #[(Value.int .i64 (i10)), (Value.bool false)] (.bool false) rfl rfl ?_)
   refine Run.go rfl rfl rfl (sem_assign ((Value.int .i64 (i10))) rfl ?_)
   refine Run.go rfl rfl rfl (sem_assign ((Value.bool false)) rfl ?_)
   refine Run.region_end ?_
   refine Run.seq ?_
   refine Run.seq ?_
   refine Run.ops0 (idx := [0]) rfl ?_
   refine Run.go rfl rfl rfl (sem_move ((Value.bool false)) rfl ?_)
   refine Run.region_end ?_
   refine Run.condF rfl ?_
   skip
   skip
   obtain ⟨A14, e15, hS⟩ := hS
   skip
   skip
   obtain ⟨a18, n19, c20, hl, hS⟩ := hS
   have f21 := hl
   skip
   skip
   obtain ⟨b24, s25, hl, hS⟩ := hS
   have f26 := hl
   skip
   refine Run.drawM (fun h' => cellH B h' A14 = some (Value.slice a18 n19 c20) ∧ CellsAt B h' ⟨k6, 0, none⟩ 0 [(Value.bool b24), (Value.string s25)] ∧ True) [13] ⟨[0, 0, 2, 4, 8, 0, 0, 0, 192, 256, 560, 2047, 4095, 6143], [16383, 16383, 16381, 16379, 16375, 16383, 16383, 16383, 16191, 16127, 15823, 16382, 14335, 11263], [0, 0, 2, 6, 14, 0, 0, 0, 192, 448, 1022, 2047, 4095, 8191], 8192⟩ (.q 0 (.q 1 (.q 2 (.q 3 (.q 4 (.q 5 (.q 6 (.q 7 (.q 8 (.x 9 (.x 10 (.q 11 (.q 12 (.x 13 .nil .no))) .no) .no)))))))))) TF.mixed (by kernel_rfl) ⟨f21, f26, trivial⟩ ?_
   refine RunT.quiet rfl rfl rfl (fun h' hC => sem_move ((Value.pointer p1)) rfl ⟨rfl, rfl⟩) ?_
   refine RunT.quiet rfl rfl rfl (fun h' hC => sem_move ((Value.pointer p1)) rfl ⟨rfl, rfl⟩) ?_
   refine RunT.quiet rfl rfl rfl (fun h' hC => sem_nilCheck A14 (congrArg Value.pointer e15) ⟨rfl, rfl⟩) ?_
   refine RunT.quiet rfl rfl rfl (fun h' hC => sem_fieldAddr A14 0 rfl TF.fld_193_0 ⟨rfl, rfl⟩) ?_
   refine RunT.quiet rfl rfl rfl (fun h' hC => sem_load1 A14 ((Value.slice a18 n19 c20)) rfl TF.agg_191 hC.1 ⟨rfl, rfl⟩) ?_
   refine RunT.quiet rfl rfl rfl (fun h' hC => sem_move ((Value.int .i64 (i10))) rfl ⟨rfl, rfl⟩) ?_
   refine RunT.quiet rfl rfl rfl (fun h' hC => sem_move ((Value.int .i64 (i2))) rfl ⟨rfl, rfl⟩) ?_
   refine RunT.quiet rfl rfl rfl (fun h' hC => sem_loadN ⟨k6, 0, none⟩ [(Value.bool b24), (Value.string s25)] rfl TF.agg_111 TF.sz_111 hC.2.1 ⟨rfl, rfl⟩) ?_
   refine RunT.quiet rfl rfl rfl (fun h' hC => sem_buildSL [(0, (Value.int .i64 (i2))), (1, (Value.agg #[(Value.bool b24), (Value.string s25)]))] [(Value.int .i64 (i2)), (Value.bool b24), (Value.string s25)] TF.zero_246 TF.places_246 rfl rfl ⟨rfl, rfl⟩) ?_
   refine ⟨?_, trivial⟩
   refine OpH.go rfl rfl rfl (sem_buildSliceL [(0, (Value.agg #[(Value.int .i64 (i2)), (Value.bool b24), (Value.string s25)]))] [(Value.int .i64 (i2)), (Value.bool b24), (Value.string s25)] TF.slc_191 TF.zero_246 rfl (by decide) (by decide) rfl rfl (fun k28 hb1 hb2 h29 hb3 => ?_))
   have hS := hS k28 hb1 hb2 h29 hb3
   obtain ⟨g30, g31, hS⟩ := hS
   refine ⟨fun _ => ⟨g30, g31, trivial⟩, ?_⟩
   refine ⟨?_, trivial⟩
   refine OpH.go rfl rfl rfl (sem_callL [(Value.slice a18 n19 c20), (Value.int .i64 (i10)), (Value.slice (some ⟨k28, 0, none⟩) 1 1)] (TF.goes_139) rfl rfl (Spec.mono hS fun v h32 hv => ?_))
   obtain ⟨a33, n34, c35, rfl, hS⟩ := hv
   obtain ⟨g36, g37, hS⟩ := hS
   refine ⟨fun _ => ⟨g36, g37, trivial⟩, ?_⟩
   obtain ⟨A38, e39, hS⟩ := hS
   refine RunT.quiet rfl rfl rfl (fun h' hC => sem_nilCheck A38 (congrArg Value.pointer e39) ⟨rfl, rfl⟩) ?_
   refine RunT.quiet rfl rfl rfl (fun h' hC => sem_fieldAddr A38 0 rfl TF.fld_193_0 ⟨rfl, rfl⟩) ?_
   refine ⟨?_, trivial⟩
   obtain ⟨h40, hst, hS⟩ := hS
   refine OpH.go rfl rfl rfl (sem_store1 A38 ((Value.slice a33 n34 c35)) h40 rfl rfl rfl TF.sz_191 hst ?_)
   refine ⟨fun hz => Bool.noConfusion hz, ?_⟩
   refine Run.seq ?_
   refine Run.ops0 (idx := [0]) rfl ?_
   refine Run.go rfl rfl rfl (sem_assign ((Value.bool true)) rfl ?_)
   refine Run.region_end ?_
   refine Run.ret ⟨.inr rfl, ?_⟩
   exact hS.imp fun h' hq => ⟨(true), rfl, hq⟩
  ·have hS := hT rfl; clear hT hF
   refine Run.go rfl rfl rfl (sem_extract #[(Value.int .i64 (i10)), (Value.bool true)] (.bool true) rfl rfl ?_)
   refine Run.go rfl rfl rfl (sem_assign ((Value.int .i64 (i10))) rfl ?_)
   refine Run.go rfl rfl rfl (sem_assign ((Value.bool true)) rfl ?_)
   refine Run.region_end ?_
   refine Run.seq ?_
   refine Run.seq ?_
   refine Run.ops0 (idx := [0]) rfl ?_
   refine Run.go rfl rfl rfl (sem_move ((Value.bool true)) rfl ?_)
   refine Run.region_end ?_
   refine Run.condT rfl ?_
   refine Run.drawM (fun h' => h' = h9) [8] ⟨[0, 1, 2, 4, 0, 0, 63, 127, 191], [511, 510, 509, 507, 511, 511, 487, 447, 351], [0, 1, 3, 7, 0, 0, 63, 127, 255], 256⟩ (.q 0 (.q 1 (.q 2 (.q 3 (.q 4 (.q 5 (.q 6 (.q 7 (.x 8 .nil .no))))))))) TF.mixed (by kernel_rfl) rfl ?_
   refine RunT.quiet rfl rfl rfl (quiet_eq (sem_move ((Value.pointer p1)) rfl ⟨rfl, rfl⟩)) ?_
   obtain ⟨A41, e42, hS⟩ := hS
   refine RunT.quiet rfl rfl rfl (quiet_eq (sem_nilCheck A41 (congrArg Value.pointer e42) ⟨rfl, rfl⟩)) ?_
   refine RunT.quiet rfl rfl rfl (quiet_eq (sem_fieldAddr A41 0 rfl TF.fld_193_0 ⟨rfl, rfl⟩)) ?_
   obtain ⟨a43, n44, c45, hl, hS⟩ := hS
   refine RunT.quiet rfl rfl rfl (quiet_eq (sem_load1 A41 ((Value.slice a43 n44 c45)) rfl TF.agg_191 hl ⟨rfl, rfl⟩)) ?_
   refine RunT.quiet rfl rfl rfl (quiet_eq (sem_move ((Value.int .i64 (i10))) rfl ⟨rfl, rfl⟩)) ?_
   obtain ⟨b46, s47, hl, hS⟩ := hS
   refine RunT.quiet rfl rfl rfl (quiet_eq (sem_loadN ⟨k6, 0, none⟩ [(Value.bool b46), (Value.string s47)] rfl TF.agg_111 TF.sz_111 hl ⟨rfl, rfl⟩)) ?_
   obtain ⟨A48, e49, hi0, hi1, hS⟩ := hS
   refine RunT.quiet rfl rfl rfl (quiet_eq (sem_indexAddrS A48 n44 c45 .i64 (i10) (congrArg (fun a => Value.slice a n44 c45) e49) rfl TF.slc_191 hi0 hi1 ⟨rfl, rfl⟩)) ?_
   refine RunT.quiet rfl rfl rfl (quiet_eq (sem_fieldAddr (Addr.add A48 (Int.toNat (i10) * 3)) 1 rfl TF.fld_246_1 ⟨rfl, rfl⟩)) ?_
   refine ⟨?_, trivial⟩
   obtain ⟨h50, hst, hS⟩ := hS
   refine OpH.go rfl rfl rfl (sem_storeN (Addr.add (Addr.add A48 (Int.toNat (i10) * 3)) 1) [(Value.bool b46), (Value.string s47)] h50 rfl rfl TF.sz_111 hst ?_)
   refine ⟨fun hz => Bool.noConfusion hz, ?_⟩
   refine Run.seq ?_
   refine Run.ops0 (idx := [0]) rfl ?_
   refine Run.go rfl rfl rfl (sem_assign ((Value.bool true)) rfl ?_)
   refine Run.region_end ?_
   refine Run.ret ⟨.inr rfl, ?_⟩
   exact hS.imp fun h' hq => ⟨(true), rfl, hq⟩
set_option maxHeartbeats 4000000 in
theorem C_stylus_Of.of {B : RO} {s1 : ByteArray} {h : Heap} {Q : Option Addr → Heap → Prop} (hS : S_stylus_Of B s1 h Q) : C_stylus_Of B s1 h Q := by
 unfold S_stylus_Of at hS
 unfold C_stylus_Of
 refine Spec.of_run Try.func104 (N := 6) (rs := [ResultVar.tmp 2]) rfl rfl rfl (Nat.le_of_ble_eq_true rfl) ?_
 refine Run.seq ?_
 refine Run.ops0 (idx := [0]) rfl ?_
 refine Run.go rfl rfl rfl (sem_assign ((Value.pointer none)) rfl ?_)
 refine Run.region_end ?_
 refine Run.seq ?_
 refine Run.ops0 (idx := [0, 1, 2, 3]) rfl ?_
 refine Run.go rfl rfl rfl (sem_move ((Value.string s1)) rfl ?_)
 refine Run.go rfl rfl rfl (sem_buildSL [(0, (Value.string s1))] [(Value.string s1), (Value.bool false)] TF.zero_249 TF.places_249 rfl rfl ?_)
 refine Run.go rfl rfl rfl (sem_boxNN [(Value.string s1), (Value.bool false)] rfl (fun k3 hb1 hb2 h4 hb3 => ?_))
 have hS := hS k3 hb1 hb2 h4 hb3
 refine Run.go rfl rfl rfl (sem_assign ((Value.pointer (some ⟨k3, 0, none⟩))) rfl ?_)
 refine Run.region_end ?_
 refine Run.ret ⟨.inr rfl, ?_⟩
 exact hS.imp fun h' hq => ⟨(some ⟨k3, 0, none⟩), rfl, hq⟩
set_option maxHeartbeats 4000000 in
theorem C_stylus_Reader_Nat.of {B : RO} {p1 : Option Addr} {i2 : Int} {h : Heap} {Q : Int → Heap → Prop} (hS : S_stylus_Reader_Nat B p1 i2 h Q) : C_stylus_Reader_Nat B p1 i2 h Q := by
 unfold S_stylus_Reader_Nat at hS
 unfold C_stylus_Reader_Nat
 refine Spec.of_run Try.func105 (N := 20) (rs := [ResultVar.tmp 4]) rfl rfl rfl (Nat.le_of_ble_eq_true rfl) ?_
 refine Run.seq ?_
 refine Run.ops0 (idx := [0]) rfl ?_
 refine Run.go rfl rfl rfl (sem_assign ((Value.int .i64 (0))) rfl ?_)
 refine Run.region_end ?_
 refine Run.seq ?_
 refine Run.ops0 (idx := [0, 1, 2]) rfl ?_
 refine Run.go rfl rfl rfl (sem_move ((Value.pointer p1)) rfl ?_)
 refine Run.go rfl rfl rfl (sem_callL [(Value.pointer p1)] (TF.goes_140) rfl rfl (Spec.mono hS fun v h4 hv => ?_))
 obtain ⟨i5, rfl, hS⟩ := hv
 refine Run.go rfl rfl rfl (sem_assign ((Value.int .u64 (i5))) rfl ?_)
 refine Run.region_end ?_
 refine Run.seq ?_
 refine Run.seq ?_
 refine Run.ops0 (idx := [0, 1, 2, 3, 4, 5, 6, 7]) rfl ?_
 refine Run.go rfl rfl rfl (sem_move ((Value.int .i64 (i2))) rfl ?_)
 obtain ⟨hT, hF⟩ := hS
 by_cases hb6 : (i2 : Int) < (0)
 ·have hS := hT hb6; clear hT hF
  refine Run.go rfl rfl rfl (sem_binI .i64 (i2) (0) (.bool true) rfl rfl (binI_lss_t hb6) ?_)
  refine Run.go rfl rfl rfl (sem_move ((Value.bool true)) rfl ?_)
  refine Run.no rfl rfl rfl ?_
  refine Run.no rfl rfl rfl ?_
  refine Run.no rfl rfl rfl ?_
  refine Run.no rfl rfl rfl ?_
  refine Run.go rfl rfl rfl (sem_pick true ((Value.bool true)) rfl rfl ?_)
  refine Run.region_end ?_
  refine Run.condT rfl ?_
  refine Run.seq ?_
  refine Run.ops0 (idx := [0, 1]) rfl ?_
  refine Run.go rfl rfl rfl (sem_move ((Value.pointer p1)) rfl ?_)
  refine Run.go rfl rfl rfl (sem_callL [(Value.pointer p1)] (TF.goes_141) rfl rfl (Spec.mono hS fun v h7 hv => ?_))
  obtain ⟨rfl, hS⟩ := hv
  refine Run.region_end ?_
  refine Run.seq ?_
  refine Run.ops0 (idx := [0]) rfl ?_
  refine Run.go rfl rfl rfl (sem_assign ((Value.int .i64 (0))) rfl ?_)
  refine Run.region_end ?_
  refine Run.ret ⟨.inr rfl, ?_⟩
  exact hS.imp fun h' hq => ⟨(0), rfl, hq⟩
 ·have hS := hF hb6; clear hT hF
  refine Run.go rfl rfl rfl (sem_binI .i64 (i2) (0) (.bool false) rfl rfl (binI_lss_f hb6) ?_)
  refine Run.go rfl rfl rfl (sem_move ((Value.bool false)) rfl ?_)
  refine Run.go rfl rfl rfl (sem_move ((Value.int .u64 (i5))) rfl ?_)
  refine Run.go rfl rfl rfl (sem_move ((Value.int .i64 (i2))) rfl ?_)
  refine Run.go rfl rfl rfl (sem_convI .i64 .u64 (i2) rfl TF.int_3 TF.int_202 ?_)
  obtain ⟨hT, hF⟩ := hS
  by_cases hb8 : (i5 : Int) > (IntKind.wrap .u64 (i2))
  ·have hS := hT hb8; clear hT hF
   refine Run.go rfl rfl rfl (sem_binI .u64 (i5) (IntKind.wrap .u64 (i2)) (.bool true) rfl rfl (binI_gtr_t hb8) ?_)
   refine Run.go rfl rfl rfl (sem_pick false ((Value.bool true)) rfl rfl ?_)
   refine Run.region_end ?_
   refine Run.condT rfl ?_
   refine Run.seq ?_
   refine Run.ops0 (idx := [0, 1]) rfl ?_
   refine Run.go rfl rfl rfl (sem_move ((Value.pointer p1)) rfl ?_)
   refine Run.go rfl rfl rfl (sem_callL [(Value.pointer p1)] (TF.goes_141) rfl rfl (Spec.mono hS fun v h9 hv => ?_))
   obtain ⟨rfl, hS⟩ := hv
   refine Run.region_end ?_
   refine Run.seq ?_
   refine Run.ops0 (idx := [0]) rfl ?_
   refine Run.go rfl rfl rfl (sem_assign ((Value.int .i64 (0))) rfl ?_)
   refine Run.region_end ?_
   refine Run.ret ⟨.inr rfl, ?_⟩
   exact hS.imp fun h' hq => ⟨(0), rfl, hq⟩
  ·have hS := hF hb8; clear hT hF
   refine Run.go rfl rfl rfl (sem_binI .u64 (i5) (IntKind.wrap .u64 (i2)) (.bool false) rfl rfl (binI_gtr_f hb8) ?_)
   refine Run.go rfl rfl rfl (sem_pick false ((Value.bool false)) rfl rfl ?_)
   refine Run.region_end ?_
   refine Run.condF rfl ?_
   refine Run.skip ?_
   refine Run.seq ?_
   refine Run.ops0 (idx := [0, 1, 2]) rfl ?_
   refine Run.go rfl rfl rfl (sem_move ((Value.int .u64 (i5))) rfl ?_)
   refine Run.go rfl rfl rfl (sem_convI .u64 .i64 (i5) rfl TF.int_202 TF.int_3 ?_)
   refine Run.go rfl rfl rfl (sem_assign ((Value.int .i64 (IntKind.wrap .i64 (i5)))) rfl ?_)
   refine Run.region_end ?_
   refine Run.ret ⟨.inr rfl, ?_⟩
   exact hS.imp fun h' hq => ⟨(IntKind.wrap .i64 (i5)), rfl, hq⟩
set_option maxHeartbeats 4000000 in
theorem C_stylus_Reader_Left.of {B : RO} {p1 : Option Addr} {h : Heap} {Q : Int → Heap → Prop} (hS : S_stylus_Reader_Left B p1 h Q) : C_stylus_Reader_Left B p1 h Q := by
 unfold S_stylus_Reader_Left at hS
 unfold C_stylus_Reader_Left
 refine Spec.of_run Try.func106 (N := 10) (rs := [ResultVar.tmp 2]) rfl rfl rfl (Nat.le_of_ble_eq_true rfl) ?_
 refine Run.seq ?_
 refine Run.ops0 (idx := [0]) rfl ?_
 refine Run.go rfl rfl rfl (sem_assign ((Value.int .i64 (0))) rfl ?_)
 refine Run.region_end ?_
 refine Run.seq ?_
 refine Run.seq ?_
 refine Run.ops0 (idx := [0, 1]) rfl ?_
 refine Run.go rfl rfl rfl (sem_move ((Value.pointer p1)) rfl ?_)
 obtain ⟨hT, hF⟩ := hS
 by_cases hb3 : p1 = none
 ·have hS := hT hb3; clear hT hF
  refine Run.go rfl rfl rfl (sem_ptrNilT p1 (.inl rfl) true rfl rfl TF.ptr_195 hb3 rfl ?_)
  refine Run.region_end ?_
  refine Run.condT rfl ?_
  refine Run.seq ?_
  refine Run.ops0 (idx := [0]) rfl ?_
  refine Run.go rfl rfl rfl (sem_assign ((Value.int .i64 (0))) rfl ?_)
  refine Run.region_end ?_
  refine Run.ret ⟨.inr rfl, ?_⟩
  exact hS.imp fun h' hq => ⟨(0), rfl, hq⟩
 ·have hS := hF hb3; clear hT hF
  refine Run.go rfl rfl rfl (sem_ptrNilF p1 (.inl rfl) false rfl rfl TF.ptr_195 hb3 rfl ?_)
  refine Run.region_end ?_
  refine Run.condF rfl ?_
  refine Run.skip ?_
  refine Run.seq ?_
  refine Run.ops0 (idx := [0, 1, 2, 3, 4, 5]) rfl ?_
  refine Run.go rfl rfl rfl (sem_move ((Value.pointer p1)) rfl ?_)
  obtain ⟨A4, e5, hS⟩ := hS
  refine Run.go rfl rfl rfl (sem_nilCheck A4 (congrArg Value.pointer e5) ?_)
  refine Run.go rfl rfl rfl (sem_fieldAddr A4 0 rfl TF.fld_249_0 ?_)
  obtain ⟨s6, hl, hS⟩ := hS
  refine Run.go rfl rfl rfl (sem_load1 A4 ((Value.string s6)) rfl TF.agg_9 hl ?_)
  refine Run.go rfl rfl rfl (sem_lenStr s6 rfl TF.isStr_9 ?_)
  refine Run.go rfl rfl rfl (sem_assign ((Value.int .i64 ((ByteArray.size s6 : Nat)))) rfl ?_)
  refine Run.region_end ?_
  refine Run.ret ⟨.inr rfl, ?_⟩
  exact hS.imp fun h' hq => ⟨((ByteArray.size s6 : Nat)), rfl, hq⟩
set_option maxHeartbeats 4000000 in
theorem C_stylus_Reader_Text.of {B : RO} {p1 : Option Addr} {i2 : Int} {h : Heap} {Q : ByteArray → Heap → Prop} (hS : S_stylus_Reader_Text B p1 i2 h Q) : C_stylus_Reader_Text B p1 i2 h Q := by
 unfold S_stylus_Reader_Text at hS
 unfold C_stylus_Reader_Text
 refine Spec.of_run Try.func107 (N := 10) (rs := [ResultVar.tmp 4]) rfl rfl rfl (Nat.le_of_ble_eq_true rfl) ?_
 refine Run.seq ?_
 refine Run.ops0 (idx := [0]) rfl ?_
 refine Run.go rfl rfl rfl (sem_assign ((Value.string (ByteArray.mk #[]))) rfl ?_)
 refine Run.region_end ?_
 refine Run.seq ?_
 refine Run.ops0 (idx := [0, 1, 2, 3, 4, 5]) rfl ?_
 refine Run.go rfl rfl rfl (sem_move ((Value.pointer p1)) rfl ?_)
 refine Run.go rfl rfl rfl (sem_move ((Value.pointer p1)) rfl ?_)
 refine Run.go rfl rfl rfl (sem_move ((Value.int .i64 (i2))) rfl ?_)
 refine Run.go rfl rfl rfl (sem_callL [(Value.pointer p1), (Value.int .i64 (i2))] (TF.goes_105) rfl rfl (Spec.mono hS fun v h4 hv => ?_))
 obtain ⟨i5, rfl, hS⟩ := hv
 refine Run.go rfl rfl rfl (sem_callL [(Value.pointer p1), (Value.int .i64 (i5))] (TF.goes_142) rfl rfl (Spec.mono hS fun v h6 hv => ?_))
 obtain ⟨s7, rfl, hS⟩ := hv
 refine Run.go rfl rfl rfl (sem_assign ((Value.string s7)) rfl ?_)
 refine Run.region_end ?_
 refine Run.ret ⟨.inr rfl, ?_⟩
 exact hS.imp fun h' hq => ⟨s7, rfl, hq⟩
set_option maxHeartbeats 4000000 in
theorem C_stylus_Reader_Bad.of {B : RO} {p1 : Option Addr} {h : Heap} {Q : Bool → Heap → Prop} (hS : S_stylus_Reader_Bad B p1 h Q) : C_stylus_Reader_Bad B p1 h Q := by
 unfold S_stylus_Reader_Bad at hS
 unfold C_stylus_Reader_Bad
 refine Spec.of_run Try.func108 (N := 11) (rs := [ResultVar.tmp 2]) rfl rfl rfl (Nat.le_of_ble_eq_true rfl) ?_
 refine Run.seq ?_
 refine Run.ops0 (idx := [0]) rfl ?_
 refine Run.go rfl rfl rfl (sem_assign ((Value.bool false)) rfl ?_)
 refine Run.region_end ?_
 refine Run.seq ?_
 refine Run.ops0 (idx := [0, 1, 2, 3, 4, 5, 6, 7, 8]) rfl ?_
 refine Run.go rfl rfl rfl (sem_move ((Value.pointer p1)) rfl ?_)
 obtain ⟨hT, hF⟩ := hS
 by_cases hb3 : p1 = none
 ·have hS := hT hb3; clear hT hF
  refine Run.go rfl rfl rfl (sem_ptrNilT p1 (.inl rfl) true rfl rfl TF.ptr_195 hb3 rfl ?_)
  refine Run.go rfl rfl rfl (sem_move ((Value.bool true)) rfl ?_)
  refine Run.no rfl rfl rfl ?_
  refine Run.no rfl rfl rfl ?_
  refine Run.no rfl rfl rfl ?_
  refine Run.no rfl rfl rfl ?_
  refine Run.go rfl rfl rfl (sem_pick true ((Value.bool true)) rfl rfl ?_)
  refine Run.go rfl rfl rfl (sem_assign ((Value.bool true)) rfl ?_)
  refine Run.region_end ?_
  refine Run.ret ⟨.inr rfl, ?_⟩
  exact hS.imp fun h' hq => ⟨(true), rfl, hq⟩
 ·have hS := hF hb3; clear hT hF
  refine Run.go rfl rfl rfl (sem_ptrNilF p1 (.inl rfl) false rfl rfl TF.ptr_195 hb3 rfl ?_)
  refine Run.go rfl rfl rfl (sem_move ((Value.bool false)) rfl ?_)
  refine Run.go rfl rfl rfl (sem_move ((Value.pointer p1)) rfl ?_)
  obtain ⟨A4, e5, hS⟩ := hS
  refine Run.go rfl rfl rfl (sem_nilCheck A4 (congrArg Value.pointer e5) ?_)
  refine Run.go rfl rfl rfl (sem_fieldAddr A4 1 rfl TF.fld_249_1 ?_)
  obtain ⟨b6, hl, hS⟩ := hS
  refine Run.go rfl rfl rfl (sem_load1 (Addr.add A4 1) ((Value.bool b6)) rfl TF.agg_4 hl ?_)
  refine Run.go rfl rfl rfl (sem_pick false ((Value.bool b6)) rfl rfl ?_)
  refine Run.go rfl rfl rfl (sem_assign ((Value.bool b6)) rfl ?_)
  refine Run.region_end ?_
  refine Run.ret ⟨.inr rfl, ?_⟩
  exact hS.imp fun h' hq => ⟨(b6), rfl, hq⟩
set_option maxHeartbeats 4000000 in
theorem C_countermandref18_nat.of {B : RO} {s1 : ByteArray} {i2 : Int} {h : Heap} {Q : Int → ByteArray → Bool → Heap → Prop} (hS : S_countermandref18_nat B s1 i2 h Q) : C_countermandref18_nat B s1 i2 h Q := by
 unfold S_countermandref18_nat at hS
 unfold C_countermandref18_nat
 refine Spec.of_run Try.func109 (N := 26) (rs := [ResultVar.tmp 4, ResultVar.tmp 5, ResultVar.tmp 6]) rfl rfl rfl (Nat.le_of_ble_eq_true rfl) ?_
 refine Run.seq ?_
 refine Run.ops0 (idx := [0, 1, 2]) rfl ?_
 refine Run.go rfl rfl rfl (sem_assign ((Value.int .i64 (0))) rfl ?_)
 refine Run.go rfl rfl rfl (sem_assign ((Value.string (ByteArray.mk #[]))) rfl ?_)
 refine Run.go rfl rfl rfl (sem_assign ((Value.bool false)) rfl ?_)
 refine Run.region_end ?_
 refine Run.seq ?_
 refine Run.ops0 (idx := [0, 1, 2, 3, 4, 5, 6]) rfl ?_
 refine Run.go rfl rfl rfl (sem_move ((Value.string s1)) rfl ?_)
 refine Run.go rfl rfl rfl (sem_callL [(Value.string s1)] (TF.goes_143) rfl rfl (Spec.mono hS fun v h6 hv => ?_))
 obtain ⟨i7, i8, rfl, hS⟩ := hv
 refine Run.go rfl rfl rfl (sem_move ((Value.tuple #[(Value.int .u64 (i7)), (Value.int .i64 (i8))])) rfl ?_)
 refine Run.go rfl rfl rfl (sem_extract #[(Value.int .u64 (i7)), (Value.int .i64 (i8))] ((Value.int .u64 (i7))) rfl rfl ?_)
 refine Run.go rfl rfl rfl (sem_extract #[(Value.int .u64 (i7)), (Value.int .i64 (i8))] ((Value.int .i64 (i8))) rfl rfl ?_)
 refine Run.go rfl rfl rfl (sem_assign ((Value.int .u64 (i7))) rfl ?_)
 refine Run.go rfl rfl rfl (sem_assign ((Value.int .i64 (i8))) rfl ?_)
 refine Run.region_end ?_
 refine Run.seqJ (fun e h10 => Agree [(0, (Value.string s1)), (7, (Value.int .u64 (i7))), (8, (Value.int .i64 (i8)))] e ∧ S_countermandref18_nat_J1 B s1 i7 i8 h10 Q) ?_ fun j9 => ?_
 ·rintro e h10 ⟨hag, hS⟩
  refine Run.env hag ?_; clear hag
  refine Run.seq ?_
  refine Run.drawM (fun h' => h' = h10) [] ⟨[0, 1, 0, 0, 12, 3, 63, 127], [255, 254, 255, 255, 243, 253, 239, 255], [0, 0, 0, 0, 0, 0, 0, 0], 0⟩ (.q 0 (.q 1 (.q 2 (.q 3 (.q 4 (.q 5 (.q 6 (.q 7 .nil)))))))) TF.mixed (by kernel_rfl) rfl ?_
  refine RunT.quiet rfl rfl rfl (quiet_eq (sem_move ((Value.int .u64 (i7))) rfl ⟨rfl, rfl⟩)) ?_
  refine RunT.quiet rfl rfl rfl (quiet_eq (sem_convI .u64 .i64 (i7) rfl TF.int_202 TF.int_3 ⟨rfl, rfl⟩)) ?_
  refine RunT.quiet rfl rfl rfl (quiet_eq (sem_move ((Value.string s1)) rfl ⟨rfl, rfl⟩)) ?_
  refine RunT.quiet rfl rfl rfl (quiet_eq (sem_move ((Value.int .i64 (i8))) rfl ⟨rfl, rfl⟩)) ?_
  obtain ⟨hi0, hi1, hi2, hS⟩ := hS
  refine RunT.quiet rfl rfl rfl (quiet_eq (sem_sliceStrI s1 (i8) ((ByteArray.size s1 : Nat)) rfl TF.isStr_9 ⟨_, rfl⟩ rfl hi0 hi1 hi2 ⟨rfl, rfl⟩)) ?_
  refine RunT.quiet rfl rfl rfl (quiet_eq (sem_assign ((Value.int .i64 (IntKind.wrap .i64 (i7)))) rfl ⟨rfl, rfl⟩)) ?_
  refine RunT.quiet rfl rfl rfl (quiet_eq (sem_assign ((Value.string (ByteArray.extract s1 (Int.toNat (i8)) (Int.toNat ((ByteArray.size s1 : Nat)))))) rfl ⟨rfl, rfl⟩)) ?_
  refine RunT.quiet rfl rfl rfl (quiet_eq (sem_assign ((Value.bool true)) rfl ⟨rfl, rfl⟩)) ?_
  refine Run.ret ⟨.inr rfl, ?_⟩
  exact hS.imp fun h' hq => ⟨(IntKind.wrap .i64 (i7)), (ByteArray.extract s1 (Int.toNat (i8)) (Int.toNat ((ByteArray.size s1 : Nat)))), (true), rfl, hq⟩
 refine Run.seq ?_
 refine Run.ops0 (idx := [0, 1, 2, 3, 4, 5, 6]) rfl ?_
 refine Run.go rfl rfl rfl (sem_move ((Value.int .i64 (i8))) rfl ?_)
 obtain ⟨hT, hF⟩ := hS
 by_cases hb11 : (i8 : Int) = 0
 ·have hS := hT hb11; clear hT hF
  refine Run.go rfl rfl rfl (sem_binI .i64 (i8) (0) (.bool true) rfl rfl (binI_eql_t hb11) ?_)
  refine Run.go rfl rfl rfl (sem_move ((Value.bool true)) rfl ?_)
  refine Run.no rfl rfl rfl ?_
  refine Run.no rfl rfl rfl ?_
  refine Run.no rfl rfl rfl ?_
  refine Run.go rfl rfl rfl (sem_pick true ((Value.bool true)) rfl rfl ?_)
  refine Run.region_end ?_
  refine Run.condT rfl ?_
  refine Run.seq ?_
  refine Run.ops0 (idx := [0, 1, 2]) rfl ?_
  refine Run.go rfl rfl rfl (sem_assign ((Value.int .i64 (0))) rfl ?_)
  refine Run.go rfl rfl rfl (sem_assign ((Value.string (ByteArray.mk #[]))) rfl ?_)
  refine Run.go rfl rfl rfl (sem_assign ((Value.bool false)) rfl ?_)
  refine Run.region_end ?_
  refine Run.ret ⟨.inr rfl, ?_⟩
  exact hS.imp fun h' hq => ⟨(0), (ByteArray.mk #[]), (false), rfl, hq⟩
 ·have hS := hF hb11; clear hT hF
  refine Run.go rfl rfl rfl (sem_binI .i64 (i8) (0) (.bool false) rfl rfl (binI_eql_f hb11) ?_)
  refine Run.go rfl rfl rfl (sem_move ((Value.bool false)) rfl ?_)
  refine Run.go rfl rfl rfl (sem_move ((Value.int .u64 (i7))) rfl ?_)
  refine Run.go rfl rfl rfl (sem_move ((Value.int .u64 (i2))) rfl ?_)
  obtain ⟨hT, hF⟩ := hS
  by_cases hb12 : (i7 : Int) > (i2)
  ·have hS := hT hb12; clear hT hF
   refine Run.go rfl rfl rfl (sem_binI .u64 (i7) (i2) (.bool true) rfl rfl (binI_gtr_t hb12) ?_)
   refine Run.go rfl rfl rfl (sem_pick false ((Value.bool true)) rfl rfl ?_)
   refine Run.region_end ?_
   refine Run.condT rfl ?_
   refine Run.seq ?_
   refine Run.ops0 (idx := [0, 1, 2]) rfl ?_
   refine Run.go rfl rfl rfl (sem_assign ((Value.int .i64 (0))) rfl ?_)
   refine Run.go rfl rfl rfl (sem_assign ((Value.string (ByteArray.mk #[]))) rfl ?_)
   refine Run.go rfl rfl rfl (sem_assign ((Value.bool false)) rfl ?_)
   refine Run.region_end ?_
   refine Run.ret ⟨.inr rfl, ?_⟩
   exact hS.imp fun h' hq => ⟨(0), (ByteArray.mk #[]), (false), rfl, hq⟩
  ·have hS := hF hb12; clear hT hF
   refine Run.go rfl rfl rfl (sem_binI .u64 (i7) (i2) (.bool false) rfl rfl (binI_gtr_f hb12) ?_)
   refine Run.go rfl rfl rfl (sem_pick false ((Value.bool false)) rfl rfl ?_)
   refine Run.region_end ?_
   refine Run.condF rfl ?_
   refine Run.skip ?_
   exact Run.of_fin (hS.imp fun h' hS => j9 _ _ ⟨⟨rfl, rfl, rfl, trivial⟩, hS⟩)
set_option maxHeartbeats 4000000 in
theorem C_countermandref01_Nat.of {B : RO} {i1 : Int} {h : Heap} {Q : ByteArray → Heap → Prop} (hS : S_countermandref01_Nat B i1 h Q) : C_countermandref01_Nat B i1 h Q := by
 unfold S_countermandref01_Nat at hS
 unfold C_countermandref01_Nat
 refine Spec.of_run Try.func110 (N := 8) (rs := [ResultVar.tmp 2]) rfl rfl rfl (Nat.le_of_ble_eq_true rfl) ?_
 refine Run.seq ?_
 refine Run.ops0 (idx := [0]) rfl ?_
 refine Run.go rfl rfl rfl (sem_assign ((Value.string (ByteArray.mk #[]))) rfl ?_)
 refine Run.region_end ?_
 refine Run.seq ?_
 refine Run.seq ?_
 refine Run.ops0 (idx := [0, 1]) rfl ?_
 refine Run.go rfl rfl rfl (sem_move ((Value.int .i64 (i1))) rfl ?_)
 obtain ⟨hT, hF⟩ := hS
 by_cases hb3 : (i1 : Int) < (0)
 ·have hS := hT hb3; clear hT hF
  refine Run.go rfl rfl rfl (sem_binI .i64 (i1) (0) (.bool true) rfl rfl (binI_lss_t hb3) ?_)
  refine Run.region_end ?_
  refine Run.condT rfl ?_
  refine Run.seq ?_
  refine Run.ops0 (idx := [0]) rfl ?_
  refine Run.go rfl rfl rfl (sem_assign ((Value.string (ByteArray.mk #[]))) rfl ?_)
  refine Run.region_end ?_
  refine Run.ret ⟨.inr rfl, ?_⟩
  exact hS.imp fun h' hq => ⟨(ByteArray.mk #[]), rfl, hq⟩
 ·have hS := hF hb3; clear hT hF
  refine Run.go rfl rfl rfl (sem_binI .i64 (i1) (0) (.bool false) rfl rfl (binI_lss_f hb3) ?_)
  refine Run.region_end ?_
  refine Run.condF rfl ?_
  refine Run.skip ?_
  refine Run.seq ?_
  refine Run.ops0 (idx := [0, 1, 2, 3]) rfl ?_
  refine Run.go rfl rfl rfl (sem_move ((Value.int .i64 (i1))) rfl ?_)
  refine Run.go rfl rfl rfl (sem_convI .i64 .u64 (i1) rfl TF.int_3 TF.int_202 ?_)
  refine Run.go rfl rfl rfl (sem_callL [(Value.int .u64 (IntKind.wrap .u64 (i1)))] (TF.goes_144) rfl rfl (Spec.mono hS fun v h4 hv => ?_))
  obtain ⟨s5, rfl, hS⟩ := hv
  refine Run.go rfl rfl rfl (sem_assign ((Value.string s5)) rfl ?_)
  refine Run.region_end ?_
  refine Run.ret ⟨.inr rfl, ?_⟩
  exact hS.imp fun h' hq => ⟨s5, rfl, hq⟩
set_option maxHeartbeats 4000000 in
theorem C_countermandref01_Text.of {B : RO} {s1 : ByteArray} {h : Heap} {Q : ByteArray → Heap → Prop} (hS : S_countermandref01_Text B s1 h Q) : C_countermandref01_Text B s1 h Q := by
 unfold S_countermandref01_Text at hS
 unfold C_countermandref01_Text
 refine Spec.of_run Try.func111 (N := 8) (rs := [ResultVar.tmp 2]) rfl rfl rfl (Nat.le_of_ble_eq_true rfl) ?_
 refine Run.seq ?_
 refine Run.ops0 (idx := [0]) rfl ?_
 refine Run.go rfl rfl rfl (sem_assign ((Value.string (ByteArray.mk #[]))) rfl ?_)
 refine Run.region_end ?_
 refine Run.seq ?_
 refine Run.ops0 (idx := [0, 1, 2, 3, 4, 5]) rfl ?_
 refine Run.go rfl rfl rfl (sem_move ((Value.string s1)) rfl ?_)
 refine Run.go rfl rfl rfl (sem_lenStr s1 rfl TF.isStr_9 ?_)
 refine Run.go rfl rfl rfl (sem_callL [(Value.int .i64 ((ByteArray.size s1 : Nat)))] (TF.goes_110) rfl rfl (Spec.mono hS fun v h3 hv => ?_))
 obtain ⟨s4, rfl, hS⟩ := hv
 refine Run.go rfl rfl rfl (sem_move ((Value.string s1)) rfl ?_)
 obtain ⟨hi0, hS⟩ := hS
 refine Run.go rfl rfl rfl (sem_strAdd s4 s1 rfl rfl hi0 ?_)
 refine Run.go rfl rfl rfl (sem_assign ((Value.string (s4 ++ s1))) rfl ?_)
 refine Run.region_end ?_
 refine Run.ret ⟨.inr rfl, ?_⟩
 exact hS.imp fun h' hq => ⟨(s4 ++ s1), rfl, hq⟩
set_option maxHeartbeats 4000000 in
theorem C_file_Good.of {B : RO} {b1 : Bool} {s2 : ByteArray} {h : Heap} {Q : Bool → Heap → Prop} (hS : S_file_Good B b1 s2 h Q) : C_file_Good B b1 s2 h Q := by
 unfold S_file_Good at hS
 unfold C_file_Good
 refine Spec.of_run Try.func112 (N := 16) (rs := [ResultVar.tmp 2]) rfl rfl rfl (Nat.le_of_ble_eq_true rfl) ?_
 refine Run.seq ?_
 refine Run.ops0 (idx := [0, 1]) rfl ?_
 refine Run.go rfl rfl rfl (sem_boxNN [(Value.bool b1), (Value.string s2)] rfl (fun k4 hb1 hb2 h5 hb3 => ?_))
 have hS := hS k4 hb1 hb2 h5 hb3
 refine Run.go rfl rfl rfl (sem_assign ((Value.bool false)) rfl ?_)
 refine Run.region_end ?_
 refine Run.seq ?_
 refine Run.ops0 (idx := [0, 1, 2, 3, 4, 5, 6, 7, 8, 9, 10, 11, 12, 13]) rfl ?_
 refine Run.go rfl rfl rfl (sem_fieldAddr ⟨k4, 0, none⟩ 1 rfl TF.fld_111_1 ?_)
 obtain ⟨s6, hl, hS⟩ := hS
 refine Run.go rfl rfl rfl (sem_load1 ⟨k4, 1, none⟩ ((Value.string s6)) rfl TF.agg_9 hl ?_)
 refine Run.go rfl rfl rfl (sem_lenStr s6 rfl TF.isStr_9 ?_)
 obtain ⟨hT, hF⟩ := hS
 by_cases hb7 : ((ByteArray.size s6 : Nat) : Int) ≤ (32)
 ·have hS := hT hb7; clear hT hF
  refine Run.go rfl rfl rfl (sem_binI .i64 ((ByteArray.size s6 : Nat)) (32) (.bool true) rfl rfl (binI_leq_t hb7) ?_)
  refine Run.go rfl rfl rfl (sem_move ((Value.bool true)) rfl ?_)
  refine Run.go rfl rfl rfl (sem_fieldAddr ⟨k4, 0, none⟩ 0 rfl TF.fld_111_0 ?_)
  obtain ⟨b8, hl, hS⟩ := hS
  obtain ⟨hT, hF⟩ := hS
  cases b8
  ·have hS := hF rfl; clear hT hF
   refine Run.go rfl rfl rfl (sem_load1 ⟨k4, 0, none⟩ (.bool false) rfl TF.agg_4 hl ?_)
   refine Run.go rfl rfl rfl (sem_move ((Value.bool false)) rfl ?_)
   refine Run.go rfl rfl rfl (sem_fieldAddr ⟨k4, 0, none⟩ 1 rfl TF.fld_111_1 ?_)
   obtain ⟨s9, hl, hS⟩ := hS
   refine Run.go rfl rfl rfl (sem_load1 ⟨k4, 1, none⟩ ((Value.string s9)) rfl TF.agg_9 hl ?_)
   refine Run.go rfl rfl rfl (sem_strEq s9 (ByteArray.mk #[]) rfl rfl ?_)
   refine Run.go rfl rfl rfl (sem_pick false ((Value.bool (decide (s9 = (ByteArray.mk #[]))))) rfl rfl ?_)
   refine Run.go rfl rfl rfl (sem_pick true ((Value.bool (decide (s9 = (ByteArray.mk #[]))))) rfl rfl ?_)
   refine Run.go rfl rfl rfl (sem_assign ((Value.bool (decide (s9 = (ByteArray.mk #[]))))) rfl ?_)
   refine Run.region_end ?_
   refine Run.ret ⟨.inr rfl, ?_⟩
   exact hS.imp fun h' hq => ⟨((decide (s9 = (ByteArray.mk #[])))), rfl, hq⟩
  ·have hS := hT rfl; clear hT hF
   refine Run.go rfl rfl rfl (sem_load1 ⟨k4, 0, none⟩ (.bool true) rfl TF.agg_4 hl ?_)
   refine Run.go rfl rfl rfl (sem_move ((Value.bool true)) rfl ?_)
   refine Run.no rfl rfl rfl ?_
   refine Run.no rfl rfl rfl ?_
   refine Run.no rfl rfl rfl ?_
   refine Run.go rfl rfl rfl (sem_pick true ((Value.bool true)) rfl rfl ?_)
   refine Run.go rfl rfl rfl (sem_pick true ((Value.bool true)) rfl rfl ?_)
   refine Run.go rfl rfl rfl (sem_assign ((Value.bool true)) rfl ?_)
   refine Run.region_end ?_
   refine Run.ret ⟨.inr rfl, ?_⟩
   exact hS.imp fun h' hq => ⟨(true), rfl, hq⟩
 ·have hS := hF hb7; clear hT hF
  refine Run.go rfl rfl rfl (sem_binI .i64 ((ByteArray.size s6 : Nat)) (32) (.bool false) rfl rfl (binI_leq_f hb7) ?_)
  refine Run.go rfl rfl rfl (sem_move ((Value.bool false)) rfl ?_)
  refine Run.no rfl rfl rfl ?_
  refine Run.no rfl rfl rfl ?_
  refine Run.no rfl rfl rfl ?_
  refine Run.no rfl rfl rfl ?_
  refine Run.no rfl rfl rfl ?_
  refine Run.no rfl rfl rfl ?_
  refine Run.no rfl rfl rfl ?_
  refine Run.go rfl rfl rfl (sem_pick false ((Value.bool false)) rfl rfl ?_)
  refine Run.go rfl rfl rfl (sem_assign ((Value.bool false)) rfl ?_)
  refine Run.region_end ?_
  refine Run.ret ⟨.inr rfl, ?_⟩
  exact hS.imp fun h' hq => ⟨(false), rfl, hq⟩
set_option maxHeartbeats 4000000 in
theorem C_draft_Draft_file_File_All.of {B : RO} {p1 : Option Addr} {h : Heap} {Q : Value → Heap → Prop} (hS : S_draft_Draft_file_File_All B p1 h Q) : C_draft_Draft_file_File_All B p1 h Q := by
 unfold S_draft_Draft_file_File_All at hS
 unfold C_draft_Draft_file_File_All
 refine Spec.of_run Try.func113 (N := 4) (rs := [ResultVar.tmp 2]) rfl rfl rfl (Nat.le_of_ble_eq_true rfl) ?_
 refine Run.seq ?_
 refine Run.ops0 (idx := [0, 1]) rfl ?_
 refine Run.go rfl rfl rfl (sem_box1N ((Value.pointer p1)) rfl rfl (fun k3 hb1 hb2 h4 hb3 => ?_))
 have hS := hS k3 hb1 hb2 h4 hb3
 refine Run.go rfl rfl rfl (sem_assign (Value.nilFunc) rfl ?_)
 refine Run.region_end ?_
 refine Run.seq ?_
 refine Run.ops0 (idx := [0, 1]) rfl ?_
 refine Run.go rfl rfl rfl (sem_makeFuncL [] [(Value.pointer (some ⟨k3, 0, none⟩))] rfl rfl ?_)
 refine Run.go rfl rfl rfl (sem_assign ((Value.func (.func 145) #[] #[(Value.pointer (some ⟨k3, 0, none⟩))])) rfl ?_)
 refine Run.region_end ?_
 refine Run.ret ⟨.inr rfl, ?_⟩
 exact hS.imp fun h' hq => ⟨(Value.func (.func 145) #[] #[(Value.pointer (some ⟨k3, 0, none⟩))]), rfl, hq⟩
set_option maxHeartbeats 4000000 in
theorem C_stylus_Stylus_Nat.of {B : RO} {p1 : Option Addr} {a2 : Option Addr} {n3 : Nat} {c4 : Nat} {h : Heap} {Q : Heap → Prop} (hS : S_stylus_Stylus_Nat B p1 a2 n3 c4 h Q) : C_stylus_Stylus_Nat B p1 a2 n3 c4 h Q := by
 unfold S_stylus_Stylus_Nat at hS
 unfold C_stylus_Stylus_Nat
 refine Spec.of_run Try.func114 (N := 42) (rs := []) rfl rfl rfl (Nat.le_of_ble_eq_true rfl) ?_
 refine Run.seq ?_
 refine Run.ops0 (idx := [0, 1, 2]) rfl ?_
 refine Run.go rfl rfl rfl (sem_move ((Value.slice a2 n3 c4)) rfl ?_)
 refine Run.go rfl rfl rfl (sem_lenSl a2 n3 c4 rfl TF.sl_26 ?_)
 refine Run.go rfl rfl rfl (sem_move ((Value.int .i64 (0))) rfl ?_)
 refine Run.region_end ?_
 refine Run.block ?_
 obtain ⟨J10, m8, h0, hS⟩ := hS
 refine Run.of_fin (h0.imp fun h' h0 => ?_)
 refine Run.loop (σ := Int × Nat) (fun x e h => J10 x.1 x.2 h ∧ Agree [(0, (Value.pointer p1)), (6, (Value.slice a2 n3 c4)), (7, (Value.int .i64 ((n3 : Nat)))), (8, (Value.int .i64 (x.1)))] e) (fun x => x.2) ((0), m8) ⟨h0, ⟨rfl, rfl, rfl, rfl, trivial⟩⟩ ?_; clear h0
 rintro ⟨i5, m7⟩ e h6 ⟨hJ, hag⟩ ih9
 have hS := hS i5 m7 h6 hJ; clear hJ
 refine Run.env hag ?_; clear hag
 refine Run.seq ?_
 refine Run.ops0 (idx := [0]) rfl ?_
 obtain ⟨hT, hF⟩ := hS
 by_cases hb11 : (i5 : Int) < ((n3 : Nat))
 ·have hS := hT hb11; clear hT hF
  refine Run.go rfl rfl rfl (sem_binI .i64 (i5) ((n3 : Nat)) (.bool true) rfl rfl (binI_lss_t hb11) ?_)
  refine Run.region_end ?_
  refine Run.seq ?_
  refine Run.condT rfl ?_
  refine Run.skip ?_
  refine Run.seq ?_
  refine Run.block ?_
  refine Run.seq ?_
  refine Run.ops0 (idx := [0, 1, 2]) rfl ?_
  obtain ⟨A12, e13, hi0, hi1, hS⟩ := hS
  refine Run.go rfl rfl rfl (sem_indexAddrS A12 n3 c4 .i64 (i5) (congrArg (fun a => Value.slice a n3 c4) e13) rfl TF.slc_26 hi0 hi1 ?_)
  obtain ⟨i14, hl, hS⟩ := hS
  refine Run.go rfl rfl rfl (sem_load1 (Addr.add A12 (Int.toNat (i5) * 1)) ((Value.int .i64 (i14))) rfl TF.agg_3 hl ?_)
  refine Run.go rfl rfl rfl (sem_assign ((Value.int .i64 (i14))) rfl ?_)
  refine Run.region_end ?_
  refine Run.seq ?_
  refine Run.seq ?_
  refine Run.ops0 (idx := [0, 1]) rfl ?_
  refine Run.go rfl rfl rfl (sem_move ((Value.int .i64 (i14))) rfl ?_)
  obtain ⟨hT, hF⟩ := hS
  by_cases hb15 : (i14 : Int) < (0)
  ·have hS := hT hb15; clear hT hF
   refine Run.go rfl rfl rfl (sem_binI .i64 (i14) (0) (.bool true) rfl rfl (binI_lss_t hb15) ?_)
   refine Run.region_end ?_
   refine Run.condT rfl ?_
   refine Run.exit rfl ?_
   refine Run.ops0 (idx := [0, 1]) rfl ?_
   refine Run.go rfl rfl rfl (sem_binI .i64 (i5) (1) ((Value.int .i64 (IntKind.wrap .i64 ((i5) + (1))))) rfl rfl rfl ?_)
   refine Run.go rfl rfl rfl (sem_move ((Value.int .i64 (IntKind.wrap .i64 ((i5) + (1))))) rfl ?_)
   refine Run.region_end ?_
   exact Run.of_fin (hS.imp fun h' ⟨m', hm, hS⟩ => ih9 ((IntKind.wrap .i64 ((i5) + (1))), m') _ _ ⟨hS, ⟨rfl, rfl, rfl, rfl, trivial⟩⟩ hm)
  ·have hS := hF hb15; clear hT hF
   refine Run.go rfl rfl rfl (sem_binI .i64 (i14) (0) (.bool false) rfl rfl (binI_lss_f hb15) ?_)
   refine Run.region_end ?_
   refine Run.condF rfl ?_
   refine Run.skip ?_
   refine Run.seqJ (fun e h18 => ∃ i17 : Int, Agree [(0, (Value.pointer p1)), (5, (Value.int .i64 (i17))), (6, (Value.slice a2 n3 c4)), (7, (Value.int .i64 ((n3 : Nat)))), (8, (Value.int .i64 (i5)))] e ∧ S_stylus_Stylus_Nat_J1 B p1 a2 n3 c4 i5 m7 J10 i17 h18 Q) ?_ fun j16 => ?_
   ·rintro e h18 ⟨i17, hag, hS⟩
    refine Run.env hag ?_; clear hag
    refine Run.ops0 (idx := [0, 1, 2, 3, 4, 5, 6, 7, 8, 9, 10, 11]) rfl ?_
    refine Run.go rfl rfl rfl (sem_move ((Value.pointer p1)) rfl ?_)
    refine Run.go rfl rfl rfl (sem_move ((Value.pointer p1)) rfl ?_)
    obtain ⟨A19, e20, hS⟩ := hS
    refine Run.go rfl rfl rfl (sem_nilCheck A19 (congrArg Value.pointer e20) ?_)
    refine Run.go rfl rfl rfl (sem_fieldAddr A19 0 rfl TF.fld_210_0 ?_)
    refine Run.ldSl hS fun a21 n22 c23 h24 hl hS => ?_
    refine Run.go rfl rfl rfl (sem_load1 A19 ((Value.slice a21 n22 c23)) rfl TF.agg_208 hl ?_)
    refine Run.go rfl rfl rfl (sem_move ((Value.int .i64 (i17))) rfl ?_)
    refine Run.go rfl rfl rfl (sem_convI .i64 .u8 (i17) rfl TF.int_3 TF.int_5 ?_)
    refine Run.go rfl rfl rfl (sem_buildSliceL [(0, (Value.int .u8 (IntKind.wrap .u8 (i17))))] [(Value.int .u8 (IntKind.wrap .u8 (i17)))] TF.slc_208 TF.zero_5 rfl (by decide) (by decide) rfl rfl (fun k25 hb1 hb2 h26 hb3 => ?_))
    have hS := hS k25 hb1 hb2 h26 hb3
    refine Run.go rfl rfl rfl (sem_appendL [(Value.slice a21 n22 c23), (Value.slice (some ⟨k25, 0, none⟩) 1 1)] rfl (semH_mono (fun v h27 hv => ?_) hS))
    obtain ⟨a28, n29, c30, rfl, hS⟩ := hv
    obtain ⟨A31, e32, hS⟩ := hS
    refine Run.go rfl rfl rfl (sem_nilCheck A31 (congrArg Value.pointer e32) ?_)
    refine Run.go rfl rfl rfl (sem_fieldAddr A31 0 rfl TF.fld_210_0 ?_)
    obtain ⟨h33, hst, hS⟩ := hS
    refine Run.go rfl rfl rfl (sem_store1 A31 ((Value.slice a28 n29 c30)) h33 rfl rfl rfl TF.sz_208 hst ?_)
    refine Run.region_end ?_
    refine Run.inBlock ?_
    refine Run.ops0 (idx := [0, 1]) rfl ?_
    refine Run.go rfl rfl rfl (sem_binI .i64 (i5) (1) ((Value.int .i64 (IntKind.wrap .i64 ((i5) + (1))))) rfl rfl rfl ?_)
    refine Run.go rfl rfl rfl (sem_move ((Value.int .i64 (IntKind.wrap .i64 ((i5) + (1))))) rfl ?_)
    refine Run.region_end ?_
    exact Run.of_fin (hS.imp fun h' ⟨m', hm, hS⟩ => ih9 ((IntKind.wrap .i64 ((i5) + (1))), m') _ _ ⟨hS, ⟨rfl, rfl, rfl, rfl, trivial⟩⟩ hm)
   refine Run.block ?_
   obtain ⟨J39, m37, h0, hS⟩ := hS
   refine Run.of_fin (h0.imp fun h' h0 => ?_)
   refine Run.loop (σ := Int × Nat) (fun x e h => J39 x.1 x.2 h ∧ Agree [(0, (Value.pointer p1)), (5, (Value.int .i64 (x.1))), (6, (Value.slice a2 n3 c4)), (7, (Value.int .i64 ((n3 : Nat)))), (8, (Value.int .i64 (i5)))] e) (fun x => x.2) ((i14), m37) ⟨h0, ⟨rfl, rfl, rfl, rfl, rfl, trivial⟩⟩ ?_; clear h0
   rintro ⟨i34, m36⟩ e h35 ⟨hJ, hag⟩ ih38
   have hS := hS i34 m36 h35 hJ; clear hJ
   refine Run.env hag ?_; clear hag
   refine Run.seq ?_
   refine Run.seq ?_
   refine Run.ops0 (idx := [0, 1]) rfl ?_
   refine Run.go rfl rfl rfl (sem_move ((Value.int .i64 (i34))) rfl ?_)
   obtain ⟨hT, hF⟩ := hS
   by_cases hb40 : (i34 : Int) ≥ (128)
   ·have hS := hT hb40; clear hT hF
    refine Run.go rfl rfl rfl (sem_binI .i64 (i34) (128) (.bool true) rfl rfl (binI_geq_t hb40) ?_)
    refine Run.region_end ?_
    refine Run.condT rfl ?_
    refine Run.skip ?_
    refine Run.block ?_
    refine Run.seq ?_
    refine Run.ops0 (idx := [0, 1, 2, 3, 4, 5, 6, 7, 8, 9, 10, 11, 12]) rfl ?_
    refine Run.go rfl rfl rfl (sem_move ((Value.pointer p1)) rfl ?_)
    refine Run.go rfl rfl rfl (sem_move ((Value.pointer p1)) rfl ?_)
    obtain ⟨A41, e42, hS⟩ := hS
    refine Run.go rfl rfl rfl (sem_nilCheck A41 (congrArg Value.pointer e42) ?_)
    refine Run.go rfl rfl rfl (sem_fieldAddr A41 0 rfl TF.fld_210_0 ?_)
    refine Run.ldSl hS fun a43 n44 c45 h46 hl hS => ?_
    refine Run.go rfl rfl rfl (sem_load1 A41 ((Value.slice a43 n44 c45)) rfl TF.agg_208 hl ?_)
    refine Run.go rfl rfl rfl (sem_move ((Value.int .i64 (i34))) rfl ?_)
    refine Run.go rfl rfl rfl (sem_convI .i64 .u8 (i34) rfl TF.int_3 TF.int_5 ?_)
    refine Run.go rfl rfl rfl (sem_binI .u8 (IntKind.wrap .u8 (i34)) (128) ((Value.int .u8 (IntKind.wrap .u8 ((BitVec.ofInt (IntKind.bits .u8) (IntKind.wrap .u8 (i34)) ||| BitVec.ofInt (IntKind.bits .u8) (128)).toNat : Int)))) rfl rfl rfl ?_)
    refine Run.go rfl rfl rfl (sem_buildSliceL [(0, (Value.int .u8 (IntKind.wrap .u8 ((BitVec.ofInt (IntKind.bits .u8) (IntKind.wrap .u8 (i34)) ||| BitVec.ofInt (IntKind.bits .u8) (128)).toNat : Int))))] [(Value.int .u8 (IntKind.wrap .u8 ((BitVec.ofInt (IntKind.bits .u8) (IntKind.wrap .u8 (i34)) ||| BitVec.ofInt (IntKind.bits .u8) (128)).toNat : Int)))] TF.slc_208 TF.zero_5 rfl (by decide) (by decide) rfl rfl (fun k47 hb1 hb2 h48 hb3 => ?_))
    have hS := hS k47 hb1 hb2 h48 hb3
    refine Run.go rfl rfl rfl (sem_appendL [(Value.slice a43 n44 c45), (Value.slice (some ⟨k47, 0, none⟩) 1 1)] rfl (semH_mono (fun v h49 hv => ?_) hS))
    obtain ⟨a50, n51, c52, rfl, hS⟩ := hv
    obtain ⟨A53, e54, hS⟩ := hS
    refine Run.go rfl rfl rfl (sem_nilCheck A53 (congrArg Value.pointer e54) ?_)
    refine Run.go rfl rfl rfl (sem_fieldAddr A53 0 rfl TF.fld_210_0 ?_)
    obtain ⟨h55, hst, hS⟩ := hS
    refine Run.go rfl rfl rfl (sem_store1 A53 ((Value.slice a50 n51 c52)) h55 rfl rfl rfl TF.sz_208 hst ?_)
    refine Run.region_end ?_
    refine Run.ops0 (idx := [0, 1, 2]) rfl ?_
    refine Run.go rfl rfl rfl (sem_move ((Value.int .i64 (i34))) rfl ?_)
    obtain ⟨hi0, hS⟩ := hS
    refine Run.go rfl rfl rfl (sem_shr .i64 .u64 (i34) (7) rfl rfl hi0 ?_)
    refine Run.go rfl rfl rfl (sem_assign ((Value.int .i64 (Int.fdiv (i34) (2 ^ (min (Int.toNat (7)) (IntKind.bits .i64)))))) rfl ?_)
    refine Run.region_end ?_
    refine Run.inBlock ?_
    exact Run.of_fin (hS.imp fun h' ⟨m', hm, hS⟩ => ih38 ((Int.fdiv (i34) (2 ^ (min (Int.toNat (7)) (IntKind.bits .i64)))), m') _ _ ⟨hS, ⟨rfl, rfl, rfl, rfl, rfl, trivial⟩⟩ hm)
   ·have hS := hF hb40; clear hT hF
    refine Run.go rfl rfl rfl (sem_binI .i64 (i34) (128) (.bool false) rfl rfl (binI_geq_f hb40) ?_)
    refine Run.region_end ?_
    refine Run.condF rfl ?_
    refine Run.exit rfl ?_
    exact Run.of_fin (hS.imp fun h' hS => j16 _ _ ⟨(i34), ⟨rfl, rfl, rfl, rfl, rfl, trivial⟩, hS⟩)
 ·have hS := hF hb11; clear hT hF
  refine Run.go rfl rfl rfl (sem_binI .i64 (i5) ((n3 : Nat)) (.bool false) rfl rfl (binI_lss_f hb11) ?_)
  refine Run.region_end ?_
  refine Run.seq ?_
  refine Run.condF rfl ?_
  refine Run.exit rfl ?_
  refine Run.fall ⟨.inl rfl, ?_⟩
  exact hS.imp fun h' hq => ⟨rfl, hq⟩
set_option maxHeartbeats 4000000 in
theorem C_stylus_Stylus_Text.of {B : RO} {p1 : Option Addr} {a2 : Option Addr} {n3 : Nat} {c4 : Nat} {h : Heap} {Q : Heap → Prop} (hS : S_stylus_Stylus_Text B p1 a2 n3 c4 h Q) : C_stylus_Stylus_Text B p1 a2 n3 c4 h Q := by
 unfold S_stylus_Stylus_Text at hS
 unfold C_stylus_Stylus_Text
 refine Spec.of_run Try.func115 (N := 21) (rs := []) rfl rfl rfl (Nat.le_of_ble_eq_true rfl) ?_
 refine Run.seq ?_
 refine Run.ops0 (idx := [0, 1, 2]) rfl ?_
 refine Run.go rfl rfl rfl (sem_move ((Value.slice a2 n3 c4)) rfl ?_)
 refine Run.go rfl rfl rfl (sem_lenSl a2 n3 c4 rfl TF.sl_55 ?_)
 refine Run.go rfl rfl rfl (sem_move ((Value.int .i64 (0))) rfl ?_)
 refine Run.region_end ?_
 refine Run.block ?_
 obtain ⟨J10, m8, h0, hS⟩ := hS
 refine Run.of_fin (h0.imp fun h' h0 => ?_)
 refine Run.loop (σ := Int × Nat) (fun x e h => J10 x.1 x.2 h ∧ Agree [(0, (Value.pointer p1)), (6, (Value.slice a2 n3 c4)), (7, (Value.int .i64 ((n3 : Nat)))), (8, (Value.int .i64 (x.1)))] e) (fun x => x.2) ((0), m8) ⟨h0, ⟨rfl, rfl, rfl, rfl, trivial⟩⟩ ?_; clear h0
 rintro ⟨i5, m7⟩ e h6 ⟨hJ, hag⟩ ih9
 have hS := hS i5 m7 h6 hJ; clear hJ
 refine Run.env hag ?_; clear hag
 refine Run.seq ?_
 refine Run.ops0 (idx := [0]) rfl ?_
 obtain ⟨hT, hF⟩ := hS
 by_cases hb11 : (i5 : Int) < ((n3 : Nat))
 ·have hS := hT hb11; clear hT hF
  refine Run.go rfl rfl rfl (sem_binI .i64 (i5) ((n3 : Nat)) (.bool true) rfl rfl (binI_lss_t hb11) ?_)
  refine Run.region_end ?_
  refine Run.seq ?_
  refine Run.condT rfl ?_
  refine Run.skip ?_
  refine Run.seq ?_
  refine Run.block ?_
  refine Run.seq ?_
  refine Run.ops0 (idx := [0, 1, 2]) rfl ?_
  obtain ⟨A12, e13, hi0, hi1, hS⟩ := hS
  refine Run.go rfl rfl rfl (sem_indexAddrS A12 n3 c4 .i64 (i5) (congrArg (fun a => Value.slice a n3 c4) e13) rfl TF.slc_55 hi0 hi1 ?_)
  obtain ⟨s14, hl, hS⟩ := hS
  refine Run.go rfl rfl rfl (sem_load1 (Addr.add A12 (Int.toNat (i5) * 1)) ((Value.string s14)) rfl TF.agg_9 hl ?_)
  refine Run.go rfl rfl rfl (sem_assign ((Value.string s14)) rfl ?_)
  refine Run.region_end ?_
  refine Run.seq ?_
  refine Run.ops0 (idx := [0, 1, 2, 3, 4]) rfl ?_
  refine Run.go rfl rfl rfl (sem_move ((Value.pointer p1)) rfl ?_)
  refine Run.go rfl rfl rfl (sem_move ((Value.string s14)) rfl ?_)
  refine Run.go rfl rfl rfl (sem_lenStr s14 rfl TF.isStr_9 ?_)
  refine Run.go rfl rfl rfl (sem_buildSliceL [(0, (Value.int .i64 ((ByteArray.size s14 : Nat))))] [(Value.int .i64 ((ByteArray.size s14 : Nat)))] TF.slc_26 TF.zero_3 rfl (by decide) (by decide) rfl rfl (fun k15 hb1 hb2 h16 hb3 => ?_))
  have hS := hS k15 hb1 hb2 h16 hb3
  refine Run.go rfl rfl rfl (sem_callL [(Value.pointer p1), (Value.slice (some ⟨k15, 0, none⟩) 1 1)] (TF.goes_114) rfl rfl (Spec.mono hS fun v h17 hv => ?_))
  obtain ⟨rfl, hS⟩ := hv
  refine Run.region_end ?_
  refine Run.ops0 (idx := [0, 1, 2]) rfl ?_
  refine Run.go rfl rfl rfl (sem_move ((Value.pointer p1)) rfl ?_)
  refine Run.go rfl rfl rfl (sem_move ((Value.string s14)) rfl ?_)
  refine Run.go rfl rfl rfl (sem_callL [(Value.pointer p1), (Value.string s14)] (TF.goes_146) rfl rfl (Spec.mono hS fun v h18 hv => ?_))
  obtain ⟨rfl, hS⟩ := hv
  refine Run.region_end ?_
  refine Run.inBlock ?_
  refine Run.ops0 (idx := [0, 1]) rfl ?_
  refine Run.go rfl rfl rfl (sem_binI .i64 (i5) (1) ((Value.int .i64 (IntKind.wrap .i64 ((i5) + (1))))) rfl rfl rfl ?_)
  refine Run.go rfl rfl rfl (sem_move ((Value.int .i64 (IntKind.wrap .i64 ((i5) + (1))))) rfl ?_)
  refine Run.region_end ?_
  exact Run.of_fin (hS.imp fun h' ⟨m', hm, hS⟩ => ih9 ((IntKind.wrap .i64 ((i5) + (1))), m') _ _ ⟨hS, ⟨rfl, rfl, rfl, rfl, trivial⟩⟩ hm)
 ·have hS := hF hb11; clear hT hF
  refine Run.go rfl rfl rfl (sem_binI .i64 (i5) ((n3 : Nat)) (.bool false) rfl rfl (binI_lss_f hb11) ?_)
  refine Run.region_end ?_
  refine Run.seq ?_
  refine Run.condF rfl ?_
  refine Run.exit rfl ?_
  refine Run.fall ⟨.inl rfl, ?_⟩
  exact hS.imp fun h' hq => ⟨rfl, hq⟩
set_option maxHeartbeats 4000000 in
theorem C_stylus_Stylus_Bytes.of {B : RO} {p1 : Option Addr} {h : Heap} {Q : ByteArray → Heap → Prop} (hS : S_stylus_Stylus_Bytes B p1 h Q) : C_stylus_Stylus_Bytes B p1 h Q := by
 unfold S_stylus_Stylus_Bytes at hS
 unfold C_stylus_Stylus_Bytes
 refine Spec.of_run Try.func116 (N := 8) (rs := [ResultVar.tmp 2]) rfl rfl rfl (Nat.le_of_ble_eq_true rfl) ?_
 refine Run.seq ?_
 refine Run.ops0 (idx := [0]) rfl ?_
 refine Run.go rfl rfl rfl (sem_assign ((Value.string (ByteArray.mk #[]))) rfl ?_)
 refine Run.region_end ?_
 refine Run.seq ?_
 refine Run.ops0 (idx := [0, 1, 2, 3, 4, 5]) rfl ?_
 refine Run.go rfl rfl rfl (sem_move ((Value.pointer p1)) rfl ?_)
 obtain ⟨A3, e4, hS⟩ := hS
 refine Run.go rfl rfl rfl (sem_nilCheck A3 (congrArg Value.pointer e4) ?_)
 refine Run.go rfl rfl rfl (sem_fieldAddr A3 0 rfl TF.fld_210_0 ?_)
 refine Run.ldSl hS fun a5 n6 c7 h8 hl hS => ?_
 refine Run.go rfl rfl rfl (sem_load1 A3 ((Value.slice a5 n6 c7)) rfl TF.agg_208 hl ?_)
 refine Run.go rfl rfl rfl (sem_convW ((Value.slice a5 n6 c7)) rfl (semH_mono (fun v h10 hv => ?_) hS))
 obtain ⟨s9, rfl, hS⟩ := hv
 refine Run.go rfl rfl rfl (sem_assign ((Value.string s9)) rfl ?_)
 refine Run.region_end ?_
 refine Run.ret ⟨.inr rfl, ?_⟩
 exact hS.imp fun h' hq => ⟨s9, rfl, hq⟩
set_option maxHeartbeats 4000000 in
theorem C_tome_New.of {B : RO} {h : Heap} {Q : Option Addr → Heap → Prop} (hS : S_tome_New B h Q) : C_tome_New B h Q := by
 unfold S_tome_New at hS
 unfold C_tome_New
 refine Spec.of_run Try.func117 (N := 5) (rs := [ResultVar.tmp 0]) rfl rfl rfl (Nat.le_of_ble_eq_true rfl) ?_
 refine Run.seq ?_
 refine Run.ops0 (idx := [0]) rfl ?_
 refine Run.go rfl rfl rfl (sem_assign ((Value.pointer none)) rfl ?_)
 refine Run.region_end ?_
 refine Run.seq ?_
 refine Run.ops0 (idx := [0, 1, 2, 3, 4]) rfl ?_
 refine Run.go rfl rfl rfl (sem_buildSL [] [(Value.bool false), (Value.string ByteArray.empty)] TF.zero_111 TF.places_111 rfl rfl ?_)
 refine Run.go rfl rfl rfl (sem_callL [(Value.int .i64 (6)), (Value.agg #[(Value.bool false), (Value.string ByteArray.empty)])] (TF.goes_147) rfl rfl (Spec.mono hS fun v h2 hv => ?_))
 obtain ⟨p3, rfl, hS⟩ := hv
 refine Run.go rfl rfl rfl (sem_buildSL [(0, (Value.pointer p3))] [(Value.pointer p3)] TF.zero_217 TF.places_217 rfl rfl ?_)
 refine Run.go rfl rfl rfl (sem_boxNN [(Value.pointer p3)] rfl (fun k4 hb1 hb2 h5 hb3 => ?_))
 have hS := hS k4 hb1 hb2 h5 hb3
 refine Run.go rfl rfl rfl (sem_assign ((Value.pointer (some ⟨k4, 0, none⟩))) rfl ?_)
 refine Run.region_end ?_
 refine Run.ret ⟨.inr rfl, ?_⟩
 exact hS.imp fun h' hq => ⟨(some ⟨k4, 0, none⟩), rfl, hq⟩
set_option maxHeartbeats 4000000 in
theorem C_tome_Tome_Set.of {B : RO} {p1 : Option Addr} {i2 : Int} {b3 : Bool} {s4 : ByteArray} {i5 : Int} {h : Heap} {Q : Bool → Heap → Prop} (hS : S_tome_Tome_Set B p1 i2 b3 s4 i5 h Q) : C_tome_Tome_Set B p1 i2 b3 s4 i5 h Q := by
 unfold S_tome_Tome_Set at hS
 unfold C_tome_Tome_Set
 refine Spec.of_run Try.func118 (N := 25) (rs := [ResultVar.tmp 8]) rfl rfl rfl (Nat.le_of_ble_eq_true rfl) ?_
 refine Run.seq ?_
 refine Run.ops0 (idx := [0, 1]) rfl ?_
 refine Run.go rfl rfl rfl (sem_boxNN [(Value.bool b3), (Value.string s4)] rfl (fun k7 hb1 hb2 h8 hb3 => ?_))
 have hS := hS k7 hb1 hb2 h8 hb3
 refine Run.go rfl rfl rfl (sem_assign ((Value.bool false)) rfl ?_)
 refine Run.region_end ?_
 refine Run.seq ?_
 skip
 obtain ⟨hT, hF⟩ := hS
 by_cases hb10 : p1 = none
 ·have hS := hT hb10; clear hT hF
  skip
  skip
  refine Run.drawM (fun h' => True) [] ⟨[0, 1, 2, 4, 12, 20, 48, 64, 192, 320, 576, 64, 64, 64, 15424, 16448, 65535], [131071, 131070, 131069, 131067, 131059, 131051, 131039, 131007, 130879, 130751, 130495, 131007, 131007, 131007, 115647, 114623, 98303], [0, 0, 0, 0, 0, 0, 0, 0, 0, 0, 0, 0, 0, 0, 0, 0, 0], 0⟩ (.q 0 (.q 1 (.q 2 (.q 3 (.x 4 (.q 5 (.q 6 (.q 7 (.q 8 (.q 9 (.q 11 (.q 13 (.x 10 (.x 12 (.x 14 (.q 15 (.q 16 .nil)) .no) .no) (.x 12 (.x 10 (.x 14 (.q 15 (.q 16 .nil)) .no) .no) .no))))))))) .no))))) TF.mixed (by kernel_rfl) trivial ?_
  refine RunT.quiet rfl rfl rfl (fun h' hC => sem_move ((Value.pointer p1)) rfl ⟨rfl, rfl⟩) ?_
  refine RunT.quiet rfl rfl rfl (fun h' hC => sem_ptrNilT p1 (.inr rfl) false rfl rfl TF.ptr_113 hb10 rfl ⟨rfl, rfl⟩) ?_
  refine RunT.quiet rfl rfl rfl (fun h' hC => sem_move ((Value.bool false)) rfl ⟨rfl, rfl⟩) ?_
  refine RunT.skip rfl rfl rfl ?_
  refine ⟨?_, trivial⟩
  refine OpH.no rfl rfl rfl ⟨fun _ => trivial, ?_⟩
  refine RunT.quiet rfl rfl rfl (fun h' hC => sem_pick false ((Value.bool false)) rfl rfl ⟨rfl, rfl⟩) ?_
  refine RunT.quiet rfl rfl rfl (fun h' hC => sem_move ((Value.bool false)) rfl ⟨rfl, rfl⟩) ?_
  refine RunT.skip rfl rfl rfl ?_
  refine RunT.skip rfl rfl rfl ?_
  refine RunT.skip rfl rfl rfl ?_
  refine RunT.skip rfl rfl rfl ?_
  refine RunT.skip rfl rfl rfl ?_
  refine RunT.joinJ (t := (.x 14 (.q 15 (.q 16 .nil)) .no)) (fun e h14 => Agree [(8, (Value.bool false)), (15, (Value.bool false))] e ∧ S_tome_Tome_Set_J1 B h14 Q) ?_ fun j13 => ?_
  ·rintro e h14 ⟨hag, hS⟩
   refine RunT.env hag ?_; clear hag
   refine ⟨?_, trivial⟩
   refine OpH.no rfl rfl rfl ⟨fun _ => trivial, ?_⟩
   refine RunT.quiet rfl rfl rfl (fun h' hC => sem_pick false ((Value.bool false)) rfl rfl ⟨rfl, rfl⟩) ?_
   refine RunT.quiet rfl rfl rfl (fun h' hC => sem_assign ((Value.bool false)) rfl ⟨rfl, rfl⟩) ?_
   refine Run.ret ⟨.inr rfl, ?_⟩
   exact hS.imp fun h' hq => ⟨(false), rfl, hq⟩
  refine ⟨?_, ?_, trivial⟩
  ·have hS := hS.1
   refine OpH.no rfl rfl rfl ⟨fun _ => trivial, ?_⟩
   refine ⟨?_, trivial⟩
   refine OpH.no rfl rfl rfl ⟨fun _ => trivial, ?_⟩
   exact j13 _ _ ⟨⟨rfl, rfl, trivial⟩, hS⟩
  ·have hS := hS.2
   refine OpH.no rfl rfl rfl ⟨fun _ => trivial, ?_⟩
   refine ⟨?_, trivial⟩
   refine OpH.no rfl rfl rfl ⟨fun _ => trivial, ?_⟩
   exact j13 _ _ ⟨⟨rfl, rfl, trivial⟩, hS⟩
 ·have hS := hF hb10; clear hT hF
  skip
  skip
  obtain ⟨b17, s18, hl, hS⟩ := hS
  have f19 := hl
  refine Run.drawM (fun h' => CellsAt B h' ⟨k7, 0, none⟩ 0 [(Value.bool b17), (Value.string s18)] ∧ True) [] ⟨[0, 1, 2, 4, 12, 20, 48, 64, 192, 320, 576, 64, 64, 64, 15424, 16448, 65535], [131071, 131070, 131069, 131067, 131059, 131051, 131039, 131007, 130879, 130751, 130495, 131007, 131007, 131007, 115647, 114623, 98303], [0, 0, 0, 0, 0, 0, 0, 0, 0, 0, 0, 0, 0, 0, 0, 0, 0], 0⟩ (.q 0 (.q 1 (.q 2 (.q 3 (.x 4 (.q 5 (.q 6 (.q 7 (.q 8 (.q 9 (.q 11 (.q 13 (.x 10 (.x 12 (.x 14 (.q 15 (.q 16 .nil)) .no) .no) (.x 12 (.x 10 (.x 14 (.q 15 (.q 16 .nil)) .no) .no) .no))))))))) .no))))) TF.mixed (by kernel_rfl) ⟨f19, trivial⟩ ?_
  refine RunT.quiet rfl rfl rfl (fun h' hC => sem_move ((Value.pointer p1)) rfl ⟨rfl, rfl⟩) ?_
  refine RunT.quiet rfl rfl rfl (fun h' hC => sem_ptrNilF p1 (.inr rfl) true rfl rfl TF.ptr_113 hb10 rfl ⟨rfl, rfl⟩) ?_
  refine RunT.quiet rfl rfl rfl (fun h' hC => sem_move ((Value.bool true)) rfl ⟨rfl, rfl⟩) ?_
  refine RunT.quiet rfl rfl rfl (fun h' hC => sem_loadN ⟨k7, 0, none⟩ [(Value.bool b17), (Value.string s18)] rfl TF.agg_111 TF.sz_111 hC.1 ⟨rfl, rfl⟩) ?_
  refine ⟨?_, trivial⟩
  refine OpH.go rfl rfl rfl (sem_callL [(Value.agg #[(Value.bool b17), (Value.string s18)])] (TF.goes_112) rfl rfl (Spec.mono hS fun v h20 hv => ?_))
  obtain ⟨b21, rfl, hS⟩ := hv
  obtain ⟨hT, hF⟩ := hS
  cases b21
  ·have hS := hF rfl; clear hT hF
   obtain ⟨g22, hS⟩ := hS
   refine ⟨fun _ => ⟨g22, trivial⟩, ?_⟩
   refine RunT.quiet rfl rfl rfl (fun h' hC => sem_pick true ((Value.bool false)) rfl rfl ⟨rfl, rfl⟩) ?_
   refine RunT.quiet rfl rfl rfl (fun h' hC => sem_move ((Value.bool false)) rfl ⟨rfl, rfl⟩) ?_
   refine RunT.skip rfl rfl rfl ?_
   refine RunT.skip rfl rfl rfl ?_
   refine RunT.skip rfl rfl rfl ?_
   refine RunT.skip rfl rfl rfl ?_
   refine RunT.skip rfl rfl rfl ?_
   refine RunT.joinJ (t := (.x 14 (.q 15 (.q 16 .nil)) .no)) (fun e h24 => Agree [(8, (Value.bool false)), (15, (Value.bool false))] e ∧ CellsAt B h24 ⟨k7, 0, none⟩ 0 [(Value.bool b17), (Value.string s18)] ∧ S_tome_Tome_Set_J2 B k7 b17 s18 h24 Q) ?_ fun j23 => ?_
   ·rintro e h24 ⟨hag, g25, hS⟩
    refine RunT.env hag ?_; clear hag
    refine ⟨?_, trivial⟩
    refine OpH.no rfl rfl rfl ⟨fun _ => ⟨g25, trivial⟩, ?_⟩
    refine RunT.quiet rfl rfl rfl (fun h' hC => sem_pick false ((Value.bool false)) rfl rfl ⟨rfl, rfl⟩) ?_
    refine RunT.quiet rfl rfl rfl (fun h' hC => sem_assign ((Value.bool false)) rfl ⟨rfl, rfl⟩) ?_
    refine Run.ret ⟨.inr rfl, ?_⟩
    exact hS.imp fun h' hq => ⟨(false), rfl, hq⟩
   refine ⟨?_, ?_, trivial⟩
   ·have hS := hS.1
    refine OpH.no rfl rfl rfl ⟨fun _ => ⟨g22, trivial⟩, ?_⟩
    refine ⟨?_, trivial⟩
    refine OpH.no rfl rfl rfl ⟨fun _ => ⟨g22, trivial⟩, ?_⟩
    exact j23 _ _ ⟨⟨rfl, rfl, trivial⟩, g22, hS⟩
   ·have hS := hS.2
    refine OpH.no rfl rfl rfl ⟨fun _ => ⟨g22, trivial⟩, ?_⟩
    refine ⟨?_, trivial⟩
    refine OpH.no rfl rfl rfl ⟨fun _ => ⟨g22, trivial⟩, ?_⟩
    exact j23 _ _ ⟨⟨rfl, rfl, trivial⟩, g22, hS⟩
  ·have hS := hT rfl; clear hT hF
   obtain ⟨g26, hS⟩ := hS
   refine ⟨fun _ => ⟨g26, trivial⟩, ?_⟩
   refine RunT.quiet rfl rfl rfl (fun h' hC => sem_pick true ((Value.bool true)) rfl rfl ⟨rfl, rfl⟩) ?_
   refine RunT.quiet rfl rfl rfl (fun h' hC => sem_move ((Value.bool true)) rfl ⟨rfl, rfl⟩) ?_
   refine RunT.quiet rfl rfl rfl (fun h' hC => sem_move ((Value.pointer p1)) rfl ⟨rfl, rfl⟩) ?_
   obtain ⟨A27, e28, hS⟩ := hS
   refine RunT.quiet rfl rfl rfl (fun h' hC => sem_nilCheck A27 (congrArg Value.pointer e28) ⟨rfl, rfl⟩) ?_
   refine RunT.quiet rfl rfl rfl (fun h' hC => sem_fieldAddr A27 0 rfl TF.fld_217_0 ⟨rfl, rfl⟩) ?_
   refine RunT.quiet rfl rfl rfl (fun h' hC => sem_move ((Value.int .i64 (i2))) rfl ⟨rfl, rfl⟩) ?_
   refine RunT.quiet rfl rfl rfl (fun h' hC => sem_move ((Value.int .i64 (i5))) rfl ⟨rfl, rfl⟩) ?_
   refine RunT.joinJ (t := (.x 14 (.q 15 (.q 16 .nil)) .no)) (fun e h39 => ∃ p36 : Option Addr, ∃ b37 : Bool, ∃ s38 : ByteArray, Agree [(8, (Value.bool false)), (15, (Value.bool true)), (19, (Value.pointer p36)), (20, (Value.int .i64 (i2))), (21, (Value.agg #[(Value.bool b37), (Value.string s38)])), (22, (Value.int .i64 (i5)))] e ∧ CellsAt B h39 ⟨k7, 0, none⟩ 0 [(Value.bool b17), (Value.string s18)] ∧ S_tome_Tome_Set_J3 B i2 i5 k7 b17 s18 p36 b37 s38 h39 Q) ?_ fun j35 => ?_
   ·rintro e h39 ⟨p36, b37, s38, hag, g40, hS⟩
    refine RunT.env hag ?_; clear hag
    refine ⟨?_, trivial⟩
    refine OpH.go rfl rfl rfl (sem_callL [(Value.pointer p36), (Value.int .i64 (i2)), (Value.agg #[(Value.bool b37), (Value.string s38)]), (Value.int .i64 (i5))] (TF.goes_148) rfl rfl (Spec.mono hS fun v h41 hv => ?_))
    obtain ⟨b42, rfl, hS⟩ := hv
    obtain ⟨g43, hS⟩ := hS
    refine ⟨fun _ => ⟨g43, trivial⟩, ?_⟩
    refine RunT.quiet rfl rfl rfl (fun h' hC => sem_pick true ((Value.bool b42)) rfl rfl ⟨rfl, rfl⟩) ?_
    refine RunT.quiet rfl rfl rfl (fun h' hC => sem_assign ((Value.bool b42)) rfl ⟨rfl, rfl⟩) ?_
    refine Run.ret ⟨.inr rfl, ?_⟩
    exact hS.imp fun h' hq => ⟨(b42), rfl, hq⟩
   refine ⟨?_, ?_, trivial⟩
   ·have hS := hS.1
    obtain ⟨p44, hl, hS⟩ := hS
    refine OpH.go rfl rfl rfl (sem_load1 A27 ((Value.pointer p44)) rfl TF.agg_215 hl ?_)
    refine ⟨fun _ => ⟨g26, trivial⟩, ?_⟩
    refine ⟨?_, trivial⟩
    obtain ⟨b45, s46, hl, hS⟩ := hS
    refine OpH.go rfl rfl rfl (sem_loadN ⟨k7, 0, none⟩ [(Value.bool b45), (Value.string s46)] rfl TF.agg_111 TF.sz_111 hl ?_)
    refine ⟨fun _ => ⟨g26, trivial⟩, ?_⟩
    exact j35 _ _ ⟨p44, (b45), s46, ⟨rfl, rfl, rfl, rfl, rfl, rfl, trivial⟩, g26, hS⟩
   ·have hS := hS.2
    obtain ⟨b47, s48, hl, hS⟩ := hS
    refine OpH.go rfl rfl rfl (sem_loadN ⟨k7, 0, none⟩ [(Value.bool b47), (Value.string s48)] rfl TF.agg_111 TF.sz_111 hl ?_)
    refine ⟨fun _ => ⟨g26, trivial⟩, ?_⟩
    refine ⟨?_, trivial⟩
    obtain ⟨p49, hl, hS⟩ := hS
    refine OpH.go rfl rfl rfl (sem_load1 A27 ((Value.pointer p49)) rfl TF.agg_215 hl ?_)
    refine ⟨fun _ => ⟨g26, trivial⟩, ?_⟩
    exact j35 _ _ ⟨p49, (b47), s48, ⟨rfl, rfl, rfl, rfl, rfl, rfl, trivial⟩, g26, hS⟩
set_option maxHeartbeats 4000000 in
theorem C_cell_Row_file_File_Get.of {B : RO} {p1 : Option Addr} {i2 : Int} {h : Heap} {Q : Bool → ByteArray → Int → Heap → Prop} (hS : S_cell_Row_file_File_Get B p1 i2 h Q) : C_cell_Row_file_File_Get B p1 i2 h Q := by
 unfold S_cell_Row_file_File_Get at hS
 unfold C_cell_Row_file_File_Get
 refine Spec.of_run Try.func119 (N := 28) (rs := [ResultVar.cell 4 111, ResultVar.tmp 5]) rfl rfl rfl (Nat.le_of_ble_eq_true rfl) ?_
 refine Run.seq ?_
 refine Run.ops0 (idx := [0, 1]) rfl ?_
 refine Run.go rfl rfl rfl (sem_allocN [(Value.bool false), (Value.string ByteArray.empty)] TF.zero_111 (fun k6 hb1 hb2 h7 hb3 => ?_))
 have hS := hS k6 hb1 hb2 h7 hb3
 refine Run.go rfl rfl rfl (sem_assign ((Value.int .i64 (0))) rfl ?_)
 refine Run.region_end ?_
 refine Run.seq ?_
 refine Run.seq ?_
 refine Run.ops0 (idx := [0, 1, 2, 3]) rfl ?_
 refine Run.go rfl rfl rfl (sem_move ((Value.pointer p1)) rfl ?_)
 refine Run.go rfl rfl rfl (sem_move ((Value.int .i64 (i2))) rfl ?_)
 refine Run.go rfl rfl rfl (sem_callL [(Value.pointer p1), (Value.int .i64 (i2))] (TF.goes_149) rfl rfl (Spec.mono hS fun v h8 hv => ?_))
 obtain ⟨b9, rfl, hS⟩ := hv
 obtain ⟨hT, hF⟩ := hS
 cases b9
 ·have hS := hF rfl; clear hT hF
  refine Run.go rfl rfl rfl (sem_not false rfl ?_)
  refine Run.region_end ?_
  refine Run.condT rfl ?_
  refine Run.seq ?_
  refine Run.ops0 (idx := [0]) rfl ?_
  refine Run.go rfl rfl rfl (sem_allocN [(Value.bool false), (Value.string ByteArray.empty)] TF.zero_111 (fun k10 hb1 hb2 h11 hb3 => ?_))
  have hS := hS k10 hb1 hb2 h11 hb3
  refine Run.region_end ?_
  refine Run.seq ?_
  refine Run.ops0 (idx := [0, 1, 2]) rfl ?_
  obtain ⟨b12, s13, hl, hS⟩ := hS
  refine Run.go rfl rfl rfl (sem_loadN ⟨k10, 0, none⟩ [(Value.bool b12), (Value.string s13)] rfl TF.agg_111 TF.sz_111 hl ?_)
  obtain ⟨h14, hst, hS⟩ := hS
  refine Run.go rfl rfl rfl (sem_storeN ⟨k6, 0, none⟩ [(Value.bool b12), (Value.string s13)] h14 rfl rfl TF.sz_111 hst ?_)
  refine Run.go rfl rfl rfl (sem_assign ((Value.int .i64 (0))) rfl ?_)
  refine Run.region_end ?_
  obtain ⟨b15, s16, hl0, hS⟩ := hS
  refine Run.ret ⟨.inr rfl, ?_⟩
  exact ⟨⟨k6, 0, none⟩, (Value.agg #[(Value.bool b15), (Value.string s16)]), rfl, loadHN TF.agg_111 TF.sz_111 hl0, hS.imp fun h' hq => ⟨(b15), s16, (0), rfl, hq⟩⟩
 ·have hS := hT rfl; clear hT hF
  refine Run.go rfl rfl rfl (sem_not true rfl ?_)
  refine Run.region_end ?_
  refine Run.condF rfl ?_
  refine Run.skip ?_
  refine Run.seq ?_
  skip
  obtain ⟨A18, e19, hS⟩ := hS
  skip
  skip
  obtain ⟨a22, n23, c24, hl, hS⟩ := hS
  have f25 := hl
  skip
  obtain ⟨A27, e28, hi0, hi1, hS⟩ := hS
  have f30 := hi0; have f31 := hi1
  skip
  obtain ⟨b33, s34, hl, hS⟩ := hS
  have f35 := hl
  skip
  obtain ⟨A37, e38, hS⟩ := hS
  skip
  skip
  obtain ⟨a41, n42, c43, hl, hS⟩ := hS
  have f44 := hl
  skip
  obtain ⟨A46, e47, hi0, hi1, hS⟩ := hS
  have f49 := hi0; have f50 := hi1
  skip
  obtain ⟨i52, hl, hS⟩ := hS
  have f53 := hl
  refine Run.drawM (fun h' => cellH B h' A18 = some (Value.slice a22 n23 c24) ∧ CellsAt B h' (Addr.add A27 (Int.toNat (i2) * 3)) 0 [(Value.bool b33), (Value.string s34)] ∧ cellH B h' A37 = some (Value.slice a41 n42 c43) ∧ cellH B h' (Addr.add (Addr.add A46 (Int.toNat (i2) * 3)) 2) = some (Value.int .i64 (i52)) ∧ True) [] ⟨[0, 1, 2, 4, 0, 24, 32, 64, 0, 256, 512, 1024, 0, 6144, 8192, 16384, 255, 131071], [262143, 262142, 262141, 262139, 262143, 262119, 262111, 262079, 262143, 261887, 261631, 261119, 262143, 255999, 253951, 245759, 262015, 229375], [0, 0, 0, 0, 0, 0, 0, 0, 0, 0, 0, 0, 0, 0, 0, 0, 0, 0], 0⟩ (.q 0 (.q 1 (.q 2 (.q 3 (.q 4 (.q 5 (.q 6 (.q 7 (.q 8 (.q 9 (.q 10 (.q 11 (.q 12 (.q 13 (.q 14 (.q 15 (.x 16 (.q 17 .nil) .no))))))))))))))))) TF.mixed (by kernel_rfl) ⟨f25, f35, f44, f53, trivial⟩ ?_
  refine RunT.quiet rfl rfl rfl (fun h' hC => sem_move ((Value.pointer p1)) rfl ⟨rfl, rfl⟩) ?_
  refine RunT.quiet rfl rfl rfl (fun h' hC => sem_nilCheck A18 (congrArg Value.pointer e19) ⟨rfl, rfl⟩) ?_
  refine RunT.quiet rfl rfl rfl (fun h' hC => sem_fieldAddr A18 0 rfl TF.fld_260_0 ⟨rfl, rfl⟩) ?_
  refine RunT.quiet rfl rfl rfl (fun h' hC => sem_load1 A18 ((Value.slice a22 n23 c24)) rfl TF.agg_258 hC.1 ⟨rfl, rfl⟩) ?_
  refine RunT.quiet rfl rfl rfl (fun h' hC => sem_move ((Value.int .i64 (i2))) rfl ⟨rfl, rfl⟩) ?_
  refine RunT.quiet rfl rfl rfl (fun h' hC => sem_indexAddrS A27 n23 c24 .i64 (i2) (congrArg (fun a => Value.slice a n23 c24) e28) rfl TF.slc_258 f30 f31 ⟨rfl, rfl⟩) ?_
  refine RunT.quiet rfl rfl rfl (fun h' hC => sem_fieldAddr (Addr.add A27 (Int.toNat (i2) * 3)) 0 rfl TF.fld_257_0 ⟨rfl, rfl⟩) ?_
  refine RunT.quiet rfl rfl rfl (fun h' hC => sem_loadN (Addr.add A27 (Int.toNat (i2) * 3)) [(Value.bool b33), (Value.string s34)] rfl TF.agg_111 TF.sz_111 hC.2.1 ⟨rfl, rfl⟩) ?_
  refine RunT.quiet rfl rfl rfl (fun h' hC => sem_move ((Value.pointer p1)) rfl ⟨rfl, rfl⟩) ?_
  refine RunT.quiet rfl rfl rfl (fun h' hC => sem_nilCheck A37 (congrArg Value.pointer e38) ⟨rfl, rfl⟩) ?_
  refine RunT.quiet rfl rfl rfl (fun h' hC => sem_fieldAddr A37 0 rfl TF.fld_260_0 ⟨rfl, rfl⟩) ?_
  refine RunT.quiet rfl rfl rfl (fun h' hC => sem_load1 A37 ((Value.slice a41 n42 c43)) rfl TF.agg_258 hC.2.2.1 ⟨rfl, rfl⟩) ?_
  refine RunT.quiet rfl rfl rfl (fun h' hC => sem_move ((Value.int .i64 (i2))) rfl ⟨rfl, rfl⟩) ?_
  refine RunT.quiet rfl rfl rfl (fun h' hC => sem_indexAddrS A46 n42 c43 .i64 (i2) (congrArg (fun a => Value.slice a n42 c43) e47) rfl TF.slc_258 f49 f50 ⟨rfl, rfl⟩) ?_
  refine RunT.quiet rfl rfl rfl (fun h' hC => sem_fieldAddr (Addr.add A46 (Int.toNat (i2) * 3)) 2 rfl TF.fld_257_1 ⟨rfl, rfl⟩) ?_
  refine RunT.quiet rfl rfl rfl (fun h' hC => sem_load1 (Addr.add (Addr.add A46 (Int.toNat (i2) * 3)) 2) ((Value.int .i64 (i52))) rfl TF.agg_3 hC.2.2.2.1 ⟨rfl, rfl⟩) ?_
  refine ⟨?_, trivial⟩
  obtain ⟨h54, hst, hS⟩ := hS
  refine OpH.go rfl rfl rfl (sem_storeN ⟨k6, 0, none⟩ [(Value.bool b33), (Value.string s34)] h54 rfl rfl TF.sz_111 hst ?_)
  obtain ⟨g55, g56, g57, g58, hS⟩ := hS
  refine ⟨fun _ => ⟨g55, g56, g57, g58, trivial⟩, ?_⟩
  refine RunT.quiet rfl rfl rfl (fun h' hC => sem_assign ((Value.int .i64 (i52))) rfl ⟨rfl, rfl⟩) ?_
  obtain ⟨b59, s60, hl0, hS⟩ := hS
  refine Run.ret ⟨.inr rfl, ?_⟩
  exact ⟨⟨k6, 0, none⟩, (Value.agg #[(Value.bool b59), (Value.string s60)]), rfl, loadHN TF.agg_111 TF.sz_111 hl0, hS.imp fun h' hq => ⟨(b59), s60, (i52), rfl, hq⟩⟩
set_option maxHeartbeats 4000000 in
theorem C_draft_Draft_file_File_find.of {B : RO} {p1 : Option Addr} {i2 : Int} {h : Heap} {Q : Int → Bool → Heap → Prop} (hS : S_draft_Draft_file_File_find B p1 i2 h Q) : C_draft_Draft_file_File_find B p1 i2 h Q := by
 unfold S_draft_Draft_file_File_find at hS
 unfold C_draft_Draft_file_File_find
 refine Spec.of_run Try.func138 (N := 14) (rs := [ResultVar.tmp 4, ResultVar.tmp 5]) rfl rfl rfl (Nat.le_of_ble_eq_true rfl) ?_
 refine Run.seq ?_
 refine Run.ops0 (idx := [0, 1]) rfl ?_
 refine Run.go rfl rfl rfl (sem_assign ((Value.int .i64 (0))) rfl ?_)
 refine Run.go rfl rfl rfl (sem_assign ((Value.bool false)) rfl ?_)
 refine Run.region_end ?_
 refine Run.seq ?_
 refine Run.ops0 (idx := [0, 1, 2, 3, 4, 5, 6, 7, 8, 9]) rfl ?_
 refine Run.go rfl rfl rfl (sem_move ((Value.pointer p1)) rfl ?_)
 obtain ⟨A5, e6, hS⟩ := hS
 refine Run.go rfl rfl rfl (sem_nilCheck A5 (congrArg Value.pointer e6) ?_)
 refine Run.go rfl rfl rfl (sem_fieldAddr A5 0 rfl TF.fld_193_0 ?_)
 refine Run.ldSl hS fun a7 n8 c9 h10 hl hS => ?_
 refine Run.go rfl rfl rfl (sem_load1 A5 ((Value.slice a7 n8 c9)) rfl TF.agg_191 hl ?_)
 refine Run.go rfl rfl rfl (sem_move ((Value.int .i64 (i2))) rfl ?_)
 refine Run.go rfl rfl rfl (sem_callL [(Value.slice a7 n8 c9), (Value.int .i64 (i2)), (Value.func (.func 161) #[] #[])] (TF.goes_160) rfl rfl (Spec.mono hS fun v h11 hv => ?_))
 obtain ⟨i12, b13, rfl, hS⟩ := hv
 refine Run.go rfl rfl rfl (sem_extract #[(Value.int .i64 (i12)), (Value.bool b13)] ((Value.int .i64 (i12))) rfl rfl ?_)
 refine Run.go rfl rfl rfl (sem_extract #[(Value.int .i64 (i12)), (Value.bool b13)] ((Value.bool b13)) rfl rfl ?_)
 refine Run.go rfl rfl rfl (sem_assign ((Value.int .i64 (i12))) rfl ?_)
 refine Run.go rfl rfl rfl (sem_assign ((Value.bool b13)) rfl ?_)
 refine Run.region_end ?_
 refine Run.ret ⟨.inr rfl, ?_⟩
 exact hS.imp fun h' hq => ⟨(i12), (b13), rfl, hq⟩
set_option maxHeartbeats 4000000 in
theorem C_slices_Insert_s_draft_entry_file_File_draft_entry_file_File.of {B : RO} {a1 : Option Addr} {n2 : Nat} {c3 : Nat} {i4 : Int} {a5 : Option Addr} {n6 : Nat} {c7 : Nat} {h : Heap} {Q : Option Addr → Nat → Nat → Heap → Prop} (hS : S_slices_Insert_s_draft_entry_file_File_draft_entry_file_File B a1 n2 c3 i4 a5 n6 c7 h Q) : C_slices_Insert_s_draft_entry_file_File_draft_entry_file_File B a1 n2 c3 i4 a5 n6 c7 h Q := by
 unfold S_slices_Insert_s_draft_entry_file_File_draft_entry_file_File at hS
 unfold C_slices_Insert_s_draft_entry_file_File_draft_entry_file_File
 refine Spec.of_run Try.func139 (N := 95) (rs := [ResultVar.tmp 6]) rfl rfl rfl (Nat.le_of_ble_eq_true rfl) ?_
 refine Run.seq ?_
 refine Run.ops0 (idx := [0]) rfl ?_
 refine Run.go rfl rfl rfl (sem_assign ((Value.slice none 0 0)) rfl ?_)
 refine Run.region_end ?_
 refine Run.seq ?_
 refine Run.ops0 (idx := [0, 1, 2]) rfl ?_
 refine Run.go rfl rfl rfl (sem_move ((Value.slice a1 n2 c3)) rfl ?_)
 refine Run.go rfl rfl rfl (sem_move ((Value.int .i64 (i4))) rfl ?_)
 obtain ⟨hi0, hi1, hi2, hS⟩ := hS
 refine Run.go rfl rfl rfl (sem_sliceSlI a1 n2 c3 (i4) ((n2 : Nat)) rfl TF.slc_191 ⟨_, rfl⟩ rfl hi0 hi1 hi2 ?_)
 refine Run.region_end ?_
 refine Run.seq ?_
 refine Run.ops0 (idx := [0, 1, 2]) rfl ?_
 refine Run.go rfl rfl rfl (sem_move ((Value.slice a5 n6 c7)) rfl ?_)
 refine Run.go rfl rfl rfl (sem_lenSl a5 n6 c7 rfl TF.sl_191 ?_)
 refine Run.go rfl rfl rfl (sem_assign ((Value.int .i64 ((n6 : Nat)))) rfl ?_)
 refine Run.region_end ?_
 refine Run.seq ?_
 refine Run.seq ?_
 refine Run.ops0 (idx := [0, 1]) rfl ?_
 refine Run.go rfl rfl rfl (sem_move ((Value.int .i64 ((n6 : Nat)))) rfl ?_)
 obtain ⟨hT, hF⟩ := hS
 by_cases hb11 : ((n6 : Nat) : Int) = 0
 ·have hS := hT hb11; clear hT hF
  refine Run.go rfl rfl rfl (sem_binI .i64 ((n6 : Nat)) (0) (.bool true) rfl rfl (binI_eql_t hb11) ?_)
  refine Run.region_end ?_
  refine Run.condT rfl ?_
  refine Run.seq ?_
  refine Run.ops0 (idx := [0, 1]) rfl ?_
  refine Run.go rfl rfl rfl (sem_move ((Value.slice a1 n2 c3)) rfl ?_)
  refine Run.go rfl rfl rfl (sem_assign ((Value.slice a1 n2 c3)) rfl ?_)
  refine Run.region_end ?_
  refine Run.ret ⟨.inr rfl, ?_⟩
  exact hS.imp fun h' hq => ⟨a1, n2, c3, rfl, hq⟩
 ·have hS := hF hb11; clear hT hF
  refine Run.go rfl rfl rfl (sem_binI .i64 ((n6 : Nat)) (0) (.bool false) rfl rfl (binI_eql_f hb11) ?_)
  refine Run.region_end ?_
  refine Run.condF rfl ?_
  refine Run.skip ?_
  refine Run.seq ?_
  refine Run.ops0 (idx := [0, 1, 2]) rfl ?_
  refine Run.go rfl rfl rfl (sem_move ((Value.slice a1 n2 c3)) rfl ?_)
  refine Run.go rfl rfl rfl (sem_lenSl a1 n2 c3 rfl TF.sl_191 ?_)
  refine Run.go rfl rfl rfl (sem_assign ((Value.int .i64 ((n2 : Nat)))) rfl ?_)
  refine Run.region_end ?_
  refine Run.seq ?_
  refine Run.seq ?_
  refine Run.ops0 (idx := [0, 1, 2]) rfl ?_
  refine Run.go rfl rfl rfl (sem_move ((Value.int .i64 (i4))) rfl ?_)
  refine Run.go rfl rfl rfl (sem_move ((Value.int .i64 ((n2 : Nat)))) rfl ?_)
  obtain ⟨hT, hF⟩ := hS
  by_cases hb12 : (i4 : Int) = (n2 : Nat)
  ·have hS := hT hb12; clear hT hF
   refine Run.go rfl rfl rfl (sem_binI .i64 (i4) ((n2 : Nat)) (.bool true) rfl rfl (binI_eql_t hb12) ?_)
   refine Run.region_end ?_
   refine Run.condT rfl ?_
   refine Run.seq ?_
   refine Run.ops0 (idx := [0, 1, 2, 3]) rfl ?_
   refine Run.go rfl rfl rfl (sem_move ((Value.slice a1 n2 c3)) rfl ?_)
   refine Run.go rfl rfl rfl (sem_move ((Value.slice a5 n6 c7)) rfl ?_)
   refine Run.go rfl rfl rfl (sem_appendL [(Value.slice a1 n2 c3), (Value.slice a5 n6 c7)] rfl (semH_mono (fun v h13 hv => ?_) hS))
   obtain ⟨a14, n15, c16, rfl, hS⟩ := hv
   refine Run.go rfl rfl rfl (sem_assign ((Value.slice a14 n15 c16)) rfl ?_)
   refine Run.region_end ?_
   refine Run.ret ⟨.inr rfl, ?_⟩
   exact hS.imp fun h' hq => ⟨a14, n15, c16, rfl, hq⟩
  ·have hS := hF hb12; clear hT hF
   refine Run.go rfl rfl rfl (sem_binI .i64 (i4) ((n2 : Nat)) (.bool false) rfl rfl (binI_eql_f hb12) ?_)
   refine Run.region_end ?_
   refine Run.condF rfl ?_
   refine Run.skip ?_
   refine Run.seq ?_
   refine Run.seq ?_
   refine Run.ops0 (idx := [0, 1, 2, 3, 4, 5]) rfl ?_
   refine Run.go rfl rfl rfl (sem_move ((Value.int .i64 ((n2 : Nat)))) rfl ?_)
   refine Run.go rfl rfl rfl (sem_move ((Value.int .i64 ((n6 : Nat)))) rfl ?_)
   refine Run.go rfl rfl rfl (sem_binI .i64 ((n2 : Nat)) ((n6 : Nat)) ((Value.int .i64 (IntKind.wrap .i64 (((n2 : Nat)) + ((n6 : Nat)))))) rfl rfl rfl ?_)
   refine Run.go rfl rfl rfl (sem_move ((Value.slice a1 n2 c3)) rfl ?_)
   refine Run.go rfl rfl rfl (sem_capSl a1 (n2) (c3) rfl TF.sl_191 ?_)
   obtain ⟨hT, hF⟩ := hS
   by_cases hb17 : (IntKind.wrap .i64 (((n2 : Nat)) + ((n6 : Nat))) : Int) > ((c3 : Nat))
   ·have hS := hT hb17; clear hT hF
    refine Run.go rfl rfl rfl (sem_binI .i64 (IntKind.wrap .i64 (((n2 : Nat)) + ((n6 : Nat)))) ((c3 : Nat)) (.bool true) rfl rfl (binI_gtr_t hb17) ?_)
    refine Run.region_end ?_
    refine Run.condT rfl ?_
    refine Run.seq ?_
    refine Run.ops0 (idx := [0, 1, 2, 3, 4, 5, 6, 7, 8, 9]) rfl ?_
    refine Run.go rfl rfl rfl (sem_move ((Value.slice a1 n2 c3)) rfl ?_)
    refine Run.go rfl rfl rfl (sem_move ((Value.int .i64 (i4))) rfl ?_)
    obtain ⟨hi0, hi1, hi2, hS⟩ := hS
    refine Run.go rfl rfl rfl (sem_sliceSlI a1 n2 c3 (0) (i4) rfl TF.slc_191 rfl ⟨_, rfl⟩ hi0 hi1 hi2 ?_)
    refine Run.go rfl rfl rfl (sem_move ((Value.int .i64 ((n2 : Nat)))) rfl ?_)
    refine Run.go rfl rfl rfl (sem_move ((Value.int .i64 ((n6 : Nat)))) rfl ?_)
    refine Run.go rfl rfl rfl (sem_binI .i64 ((n2 : Nat)) ((n6 : Nat)) ((Value.int .i64 (IntKind.wrap .i64 (((n2 : Nat)) + ((n6 : Nat)))))) rfl rfl rfl ?_)
    refine Run.go rfl rfl rfl (sem_move ((Value.int .i64 (i4))) rfl ?_)
    refine Run.go rfl rfl rfl (sem_binI .i64 (IntKind.wrap .i64 (((n2 : Nat)) + ((n6 : Nat)))) (i4) ((Value.int .i64 (IntKind.wrap .i64 ((IntKind.wrap .i64 (((n2 : Nat)) + ((n6 : Nat)))) - (i4))))) rfl rfl rfl ?_)
    refine Run.go rfl rfl rfl (sem_appendL [(Value.slice (if c3 = Int.toNat (0) then a1 else Option.map (·.add (Int.toNat (0) * 3)) a1) (Int.toNat (i4) - Int.toNat (0)) (c3 - Int.toNat (0))), (Value.int .i64 (IntKind.wrap .i64 ((IntKind.wrap .i64 (((n2 : Nat)) + ((n6 : Nat)))) - (i4))))] rfl (semH_mono (fun v h18 hv => ?_) hS))
    obtain ⟨a19, n20, c21, rfl, hS⟩ := hv
    refine Run.go rfl rfl rfl (sem_assign ((Value.slice a19 n20 c21)) rfl ?_)
    refine Run.region_end ?_
    refine Run.seq ?_
    refine Run.ops0 (idx := [0, 1, 2, 3, 4]) rfl ?_
    refine Run.go rfl rfl rfl (sem_move ((Value.slice a19 n20 c21)) rfl ?_)
    refine Run.go rfl rfl rfl (sem_move ((Value.int .i64 (i4))) rfl ?_)
    obtain ⟨hi0, hi1, hi2, hS⟩ := hS
    refine Run.go rfl rfl rfl (sem_sliceSlI a19 n20 c21 (i4) ((n20 : Nat)) rfl TF.slc_191 ⟨_, rfl⟩ rfl hi0 hi1 hi2 ?_)
    refine Run.go rfl rfl rfl (sem_move ((Value.slice a5 n6 c7)) rfl ?_)
    refine Run.go rfl rfl rfl (sem_copyL [(Value.slice (if c21 = Int.toNat (i4) then a19 else Option.map (·.add (Int.toNat (i4) * 3)) a19) (Int.toNat ((n20 : Nat)) - Int.toNat (i4)) (c21 - Int.toNat (i4))), (Value.slice a5 n6 c7)] rfl (semH_mono (fun v h22 hv => ?_) hS))
    obtain ⟨i23, rfl, hS⟩ := hv
    refine Run.region_end ?_
    refine Run.seq ?_
    refine Run.drawM (fun h' => h' = h22) [8] ⟨[0, 0, 0, 6, 9, 0, 0, 96, 144], [511, 511, 511, 505, 502, 511, 511, 415, 367], [0, 0, 0, 6, 15, 0, 0, 96, 255], 256⟩ (.q 0 (.q 1 (.q 2 (.q 3 (.q 4 (.q 5 (.q 6 (.q 7 (.x 8 .nil .no))))))))) TF.mixed (by kernel_rfl) rfl ?_
    refine RunT.quiet rfl rfl rfl (quiet_eq (sem_move ((Value.slice a19 n20 c21)) rfl ⟨rfl, rfl⟩)) ?_
    refine RunT.quiet rfl rfl rfl (quiet_eq (sem_move ((Value.int .i64 (i4))) rfl ⟨rfl, rfl⟩)) ?_
    refine RunT.quiet rfl rfl rfl (quiet_eq (sem_move ((Value.int .i64 ((n6 : Nat)))) rfl ⟨rfl, rfl⟩)) ?_
    refine RunT.quiet rfl rfl rfl (quiet_eq (sem_binI .i64 (i4) ((n6 : Nat)) ((Value.int .i64 (IntKind.wrap .i64 ((i4) + ((n6 : Nat)))))) rfl rfl rfl ⟨rfl, rfl⟩)) ?_
    obtain ⟨hi0, hi1, hi2, hS⟩ := hS
    refine RunT.quiet rfl rfl rfl (quiet_eq (sem_sliceSlI a19 n20 c21 (IntKind.wrap .i64 ((i4) + ((n6 : Nat)))) ((n20 : Nat)) rfl TF.slc_191 ⟨_, rfl⟩ rfl hi0 hi1 hi2 ⟨rfl, rfl⟩)) ?_
    refine RunT.quiet rfl rfl rfl (quiet_eq (sem_move ((Value.slice a1 n2 c3)) rfl ⟨rfl, rfl⟩)) ?_
    refine RunT.quiet rfl rfl rfl (quiet_eq (sem_move ((Value.int .i64 (i4))) rfl ⟨rfl, rfl⟩)) ?_
    obtain ⟨hi0, hi1, hi2, hS⟩ := hS
    refine RunT.quiet rfl rfl rfl (quiet_eq (sem_sliceSlI a1 n2 c3 (i4) ((n2 : Nat)) rfl TF.slc_191 ⟨_, rfl⟩ rfl hi0 hi1 hi2 ⟨rfl, rfl⟩)) ?_
    refine ⟨?_, trivial⟩
    refine OpH.go rfl rfl rfl (sem_copyL [(Value.slice (if c21 = Int.toNat (IntKind.wrap .i64 ((i4) + ((n6 : Nat)))) then a19 else Option.map (·.add (Int.toNat (IntKind.wrap .i64 ((i4) + ((n6 : Nat)))) * 3)) a19) (Int.toNat ((n20 : Nat)) - Int.toNat (IntKind.wrap .i64 ((i4) + ((n6 : Nat))))) (c21 - Int.toNat (IntKind.wrap .i64 ((i4) + ((n6 : Nat)))))), (Value.slice (if c3 = Int.toNat (i4) then a1 else Option.map (·.add (Int.toNat (i4) * 3)) a1) (Int.toNat ((n2 : Nat)) - Int.toNat (i4)) (c3 - Int.toNat (i4)))] rfl (semH_mono (fun v h24 hv => ?_) hS))
    obtain ⟨i25, rfl, hS⟩ := hv
    refine ⟨fun hz => Bool.noConfusion hz, ?_⟩
    refine Run.seq ?_
    refine Run.ops0 (idx := [0, 1]) rfl ?_
    refine Run.go rfl rfl rfl (sem_move ((Value.slice a19 n20 c21)) rfl ?_)
    refine Run.go rfl rfl rfl (sem_assign ((Value.slice a19 n20 c21)) rfl ?_)
    refine Run.region_end ?_
    refine Run.ret ⟨.inr rfl, ?_⟩
    exact hS.imp fun h' hq => ⟨a19, n20, c21, rfl, hq⟩
   ·have hS := hF hb17; clear hT hF
    refine Run.go rfl rfl rfl (sem_binI .i64 (IntKind.wrap .i64 (((n2 : Nat)) + ((n6 : Nat)))) ((c3 : Nat)) (.bool false) rfl rfl (binI_gtr_f hb17) ?_)
    refine Run.region_end ?_
    refine Run.condF rfl ?_
    refine Run.skip ?_
    refine Run.seq ?_
    refine Run.ops0 (idx := [0, 1, 2, 3, 4, 5]) rfl ?_
    refine Run.go rfl rfl rfl (sem_move ((Value.slice a1 n2 c3)) rfl ?_)
    refine Run.go rfl rfl rfl (sem_move ((Value.int .i64 ((n2 : Nat)))) rfl ?_)
    refine Run.go rfl rfl rfl (sem_move ((Value.int .i64 ((n6 : Nat)))) rfl ?_)
    refine Run.go rfl rfl rfl (sem_binI .i64 ((n2 : Nat)) ((n6 : Nat)) ((Value.int .i64 (IntKind.wrap .i64 (((n2 : Nat)) + ((n6 : Nat)))))) rfl rfl rfl ?_)
    obtain ⟨hi0, hi1, hi2, hS⟩ := hS
    refine Run.go rfl rfl rfl (sem_sliceSlI a1 n2 c3 (0) (IntKind.wrap .i64 (((n2 : Nat)) + ((n6 : Nat)))) rfl TF.slc_191 rfl ⟨_, rfl⟩ hi0 hi1 hi2 ?_)
    refine Run.go rfl rfl rfl (sem_assign ((Value.slice (if c3 = Int.toNat (0) then a1 else Option.map (·.add (Int.toNat (0) * 3)) a1) (Int.toNat (IntKind.wrap .i64 (((n2 : Nat)) + ((n6 : Nat)))) - Int.toNat (0)) (c3 - Int.toNat (0)))) rfl ?_)
    refine Run.region_end ?_
    refine Run.seq ?_
    refine Run.seq ?_
    refine Run.ops0 (idx := [0, 1, 2, 3, 4, 5, 6, 7]) rfl ?_
    refine Run.go rfl rfl rfl (sem_move ((Value.slice a5 n6 c7)) rfl ?_)
    refine Run.go rfl rfl rfl (sem_move ((Value.slice (if c3 = Int.toNat (0) then a1 else Option.map (·.add (Int.toNat (0) * 3)) a1) (Int.toNat (IntKind.wrap .i64 (((n2 : Nat)) + ((n6 : Nat)))) - Int.toNat (0)) (c3 - Int.toNat (0)))) rfl ?_)
    refine Run.go rfl rfl rfl (sem_move ((Value.int .i64 (i4))) rfl ?_)
    refine Run.go rfl rfl rfl (sem_move ((Value.int .i64 ((n6 : Nat)))) rfl ?_)
    refine Run.go rfl rfl rfl (sem_binI .i64 (i4) ((n6 : Nat)) ((Value.int .i64 (IntKind.wrap .i64 ((i4) + ((n6 : Nat)))))) rfl rfl rfl ?_)
    obtain ⟨hi0, hi1, hi2, hS⟩ := hS
    refine Run.go rfl rfl rfl (sem_sliceSlI (if c3 = Int.toNat (0) then a1 else Option.map (·.add (Int.toNat (0) * 3)) a1) (Int.toNat (IntKind.wrap .i64 (((n2 : Nat)) + ((n6 : Nat)))) - Int.toNat (0)) (c3 - Int.toNat (0)) (IntKind.wrap .i64 ((i4) + ((n6 : Nat)))) (((Int.toNat (IntKind.wrap .i64 (((n2 : Nat)) + ((n6 : Nat)))) - Int.toNat (0)) : Nat)) rfl TF.slc_191 ⟨_, rfl⟩ rfl hi0 hi1 hi2 ?_)
    refine Run.go rfl rfl rfl (sem_callXL [(Value.slice a5 n6 c7), (Value.slice (if (c3 - Int.toNat (0)) = Int.toNat (IntKind.wrap .i64 ((i4) + ((n6 : Nat)))) then (if c3 = Int.toNat (0) then a1 else Option.map (·.add (Int.toNat (0) * 3)) a1) else Option.map (·.add (Int.toNat (IntKind.wrap .i64 ((i4) + ((n6 : Nat)))) * 3)) (if c3 = Int.toNat (0) then a1 else Option.map (·.add (Int.toNat (0) * 3)) a1)) (Int.toNat (((Int.toNat (IntKind.wrap .i64 (((n2 : Nat)) + ((n6 : Nat)))) - Int.toNat (0)) : Nat)) - Int.toNat (IntKind.wrap .i64 ((i4) + ((n6 : Nat))))) ((c3 - Int.toNat (0)) - Int.toNat (IntKind.wrap .i64 ((i4) + ((n6 : Nat))))))] (TF.goesx_162) rfl rfl (semH_mono (fun v h26 hv => ?_) hS))
    obtain ⟨b27, rfl, hS⟩ := hv
    obtain ⟨hT, hF⟩ := hS
    cases b27
    ·have hS := hF rfl; clear hT hF
     refine Run.go rfl rfl rfl (sem_not false rfl ?_)
     refine Run.region_end ?_
     refine Run.condT rfl ?_
     refine Run.seq ?_
     refine Run.drawM (fun h' => h' = h26) [8] ⟨[0, 0, 0, 6, 9, 0, 0, 96, 144], [511, 511, 511, 505, 502, 511, 511, 415, 367], [0, 0, 0, 6, 15, 0, 0, 96, 255], 256⟩ (.q 0 (.q 1 (.q 2 (.q 3 (.q 4 (.q 5 (.q 6 (.q 7 (.x 8 .nil .no))))))))) TF.mixed (by kernel_rfl) rfl ?_
     refine RunT.quiet rfl rfl rfl (quiet_eq (sem_move ((Value.slice (if c3 = Int.toNat (0) then a1 else Option.map (·.add (Int.toNat (0) * 3)) a1) (Int.toNat (IntKind.wrap .i64 (((n2 : Nat)) + ((n6 : Nat)))) - Int.toNat (0)) (c3 - Int.toNat (0)))) rfl ⟨rfl, rfl⟩)) ?_
     refine RunT.quiet rfl rfl rfl (quiet_eq (sem_move ((Value.int .i64 (i4))) rfl ⟨rfl, rfl⟩)) ?_
     refine RunT.quiet rfl rfl rfl (quiet_eq (sem_move ((Value.int .i64 ((n6 : Nat)))) rfl ⟨rfl, rfl⟩)) ?_
     refine RunT.quiet rfl rfl rfl (quiet_eq (sem_binI .i64 (i4) ((n6 : Nat)) ((Value.int .i64 (IntKind.wrap .i64 ((i4) + ((n6 : Nat)))))) rfl rfl rfl ⟨rfl, rfl⟩)) ?_
     obtain ⟨hi0, hi1, hi2, hS⟩ := hS
     refine RunT.quiet rfl rfl rfl (quiet_eq (sem_sliceSlI (if c3 = Int.toNat (0) then a1 else Option.map (·.add (Int.toNat (0) * 3)) a1) (Int.toNat (IntKind.wrap .i64 (((n2 : Nat)) + ((n6 : Nat)))) - Int.toNat (0)) (c3 - Int.toNat (0)) (IntKind.wrap .i64 ((i4) + ((n6 : Nat)))) (((Int.toNat (IntKind.wrap .i64 (((n2 : Nat)) + ((n6 : Nat)))) - Int.toNat (0)) : Nat)) rfl TF.slc_191 ⟨_, rfl⟩ rfl hi0 hi1 hi2 ⟨rfl, rfl⟩)) ?_
     refine RunT.quiet rfl rfl rfl (quiet_eq (sem_move ((Value.slice (if c3 = Int.toNat (0) then a1 else Option.map (·.add (Int.toNat (0) * 3)) a1) (Int.toNat (IntKind.wrap .i64 (((n2 : Nat)) + ((n6 : Nat)))) - Int.toNat (0)) (c3 - Int.toNat (0)))) rfl ⟨rfl, rfl⟩)) ?_
     refine RunT.quiet rfl rfl rfl (quiet_eq (sem_move ((Value.int .i64 (i4))) rfl ⟨rfl, rfl⟩)) ?_
     obtain ⟨hi0, hi1, hi2, hS⟩ := hS
     refine RunT.quiet rfl rfl rfl (quiet_eq (sem_sliceSlI (if c3 = Int.toNat (0) then a1 else Option.map (·.add (Int.toNat (0) * 3)) a1) (Int.toNat (IntKind.wrap .i64 (((n2 : Nat)) + ((n6 : Nat)))) - Int.toNat (0)) (c3 - Int.toNat (0)) (i4) (((Int.toNat (IntKind.wrap .i64 (((n2 : Nat)) + ((n6 : Nat)))) - Int.toNat (0)) : Nat)) rfl TF.slc_191 ⟨_, rfl⟩ rfl hi0 hi1 hi2 ⟨rfl, rfl⟩)) ?_
     refine ⟨?_, trivial⟩
     refine OpH.go rfl rfl rfl (sem_copyL [(Value.slice (if (c3 - Int.toNat (0)) = Int.toNat (IntKind.wrap .i64 ((i4) + ((n6 : Nat)))) then (if c3 = Int.toNat (0) then a1 else Option.map (·.add (Int.toNat (0) * 3)) a1) else Option.map (·.add (Int.toNat (IntKind.wrap .i64 ((i4) + ((n6 : Nat)))) * 3)) (if c3 = Int.toNat (0) then a1 else Option.map (·.add (Int.toNat (0) * 3)) a1)) (Int.toNat (((Int.toNat (IntKind.wrap .i64 (((n2 : Nat)) + ((n6 : Nat)))) - Int.toNat (0)) : Nat)) - Int.toNat (IntKind.wrap .i64 ((i4) + ((n6 : Nat))))) ((c3 - Int.toNat (0)) - Int.toNat (IntKind.wrap .i64 ((i4) + ((n6 : Nat)))))), (Value.slice (if (c3 - Int.toNat (0)) = Int.toNat (i4) then (if c3 = Int.toNat (0) then a1 else Option.map (·.add (Int.toNat (0) * 3)) a1) else Option.map (·.add (Int.toNat (i4) * 3)) (if c3 = Int.toNat (0) then a1 else Option.map (·.add (Int.toNat (0) * 3)) a1)) (Int.toNat (((Int.toNat (IntKind.wrap .i64 (((n2 : Nat)) + ((n6 : Nat)))) - Int.toNat (0)) : Nat)) - Int.toNat (i4)) ((c3 - Int.toNat (0)) - Int.toNat (i4)))] rfl (semH_mono (fun v h28 hv => ?_) hS))
     obtain ⟨i29, rfl, hS⟩ := hv
     refine ⟨fun hz => Bool.noConfusion hz, ?_⟩
     refine Run.seq ?_
     refine Run.ops0 (idx := [0, 1, 2, 3, 4]) rfl ?_
     refine Run.go rfl rfl rfl (sem_move ((Value.slice (if c3 = Int.toNat (0) then a1 else Option.map (·.add (Int.toNat (0) * 3)) a1) (Int.toNat (IntKind.wrap .i64 (((n2 : Nat)) + ((n6 : Nat)))) - Int.toNat (0)) (c3 - Int.toNat (0)))) rfl ?_)
     refine Run.go rfl rfl rfl (sem_move ((Value.int .i64 (i4))) rfl ?_)
     obtain ⟨hi0, hi1, hi2, hS⟩ := hS
     refine Run.go rfl rfl rfl (sem_sliceSlI (if c3 = Int.toNat (0) then a1 else Option.map (·.add (Int.toNat (0) * 3)) a1) (Int.toNat (IntKind.wrap .i64 (((n2 : Nat)) + ((n6 : Nat)))) - Int.toNat (0)) (c3 - Int.toNat (0)) (i4) (((Int.toNat (IntKind.wrap .i64 (((n2 : Nat)) + ((n6 : Nat)))) - Int.toNat (0)) : Nat)) rfl TF.slc_191 ⟨_, rfl⟩ rfl hi0 hi1 hi2 ?_)
     refine Run.go rfl rfl rfl (sem_move ((Value.slice a5 n6 c7)) rfl ?_)
     refine Run.go rfl rfl rfl (sem_copyL [(Value.slice (if (c3 - Int.toNat (0)) = Int.toNat (i4) then (if c3 = Int.toNat (0) then a1 else Option.map (·.add (Int.toNat (0) * 3)) a1) else Option.map (·.add (Int.toNat (i4) * 3)) (if c3 = Int.toNat (0) then a1 else Option.map (·.add (Int.toNat (0) * 3)) a1)) (Int.toNat (((Int.toNat (IntKind.wrap .i64 (((n2 : Nat)) + ((n6 : Nat)))) - Int.toNat (0)) : Nat)) - Int.toNat (i4)) ((c3 - Int.toNat (0)) - Int.toNat (i4))), (Value.slice a5 n6 c7)] rfl (semH_mono (fun v h30 hv => ?_) hS))
     obtain ⟨i31, rfl, hS⟩ := hv
     refine Run.region_end ?_
     refine Run.seq ?_
     refine Run.ops0 (idx := [0, 1]) rfl ?_
     refine Run.go rfl rfl rfl (sem_move ((Value.slice (if c3 = Int.toNat (0) then a1 else Option.map (·.add (Int.toNat (0) * 3)) a1) (Int.toNat (IntKind.wrap .i64 (((n2 : Nat)) + ((n6 : Nat)))) - Int.toNat (0)) (c3 - Int.toNat (0)))) rfl ?_)
     refine Run.go rfl rfl rfl (sem_assign ((Value.slice (if c3 = Int.toNat (0) then a1 else Option.map (·.add (Int.toNat (0) * 3)) a1) (Int.toNat (IntKind.wrap .i64 (((n2 : Nat)) + ((n6 : Nat)))) - Int.toNat (0)) (c3 - Int.toNat (0)))) rfl ?_)
     refine Run.region_end ?_
     refine Run.ret ⟨.inr rfl, ?_⟩
     exact hS.imp fun h' hq => ⟨(if c3 = Int.toNat (0) then a1 else Option.map (·.add (Int.toNat (0) * 3)) a1), (Int.toNat (IntKind.wrap .i64 (((n2 : Nat)) + ((n6 : Nat)))) - Int.toNat (0)), (c3 - Int.toNat (0)), rfl, hq⟩
    ·have hS := hT rfl; clear hT hF
     refine Run.go rfl rfl rfl (sem_not true rfl ?_)
     refine Run.region_end ?_
     refine Run.condF rfl ?_
     refine Run.skip ?_
     refine Run.seq ?_
     refine Run.ops0 (idx := [0, 1, 2, 3, 4]) rfl ?_
     refine Run.go rfl rfl rfl (sem_move ((Value.slice (if c3 = Int.toNat (0) then a1 else Option.map (·.add (Int.toNat (0) * 3)) a1) (Int.toNat (IntKind.wrap .i64 (((n2 : Nat)) + ((n6 : Nat)))) - Int.toNat (0)) (c3 - Int.toNat (0)))) rfl ?_)
     refine Run.go rfl rfl rfl (sem_move ((Value.int .i64 ((n2 : Nat)))) rfl ?_)
     obtain ⟨hi0, hi1, hi2, hS⟩ := hS
     refine Run.go rfl rfl rfl (sem_sliceSlI (if c3 = Int.toNat (0) then a1 else Option.map (·.add (Int.toNat (0) * 3)) a1) (Int.toNat (IntKind.wrap .i64 (((n2 : Nat)) + ((n6 : Nat)))) - Int.toNat (0)) (c3 - Int.toNat (0)) ((n2 : Nat)) (((Int.toNat (IntKind.wrap .i64 (((n2 : Nat)) + ((n6 : Nat)))) - Int.toNat (0)) : Nat)) rfl TF.slc_191 ⟨_, rfl⟩ rfl hi0 hi1 hi2 ?_)
     refine Run.go rfl rfl rfl (sem_move ((Value.slice a5 n6 c7)) rfl ?_)
     refine Run.go rfl rfl rfl (sem_copyL [(Value.slice (if (c3 - Int.toNat (0)) = Int.toNat ((n2 : Nat)) then (if c3 = Int.toNat (0) then a1 else Option.map (·.add (Int.toNat (0) * 3)) a1) else Option.map (·.add (Int.toNat ((n2 : Nat)) * 3)) (if c3 = Int.toNat (0) then a1 else Option.map (·.add (Int.toNat (0) * 3)) a1)) (Int.toNat (((Int.toNat (IntKind.wrap .i64 (((n2 : Nat)) + ((n6 : Nat)))) - Int.toNat (0)) : Nat)) - Int.toNat ((n2 : Nat))) ((c3 - Int.toNat (0)) - Int.toNat ((n2 : Nat)))), (Value.slice a5 n6 c7)] rfl (semH_mono (fun v h32 hv => ?_) hS))
     obtain ⟨i33, rfl, hS⟩ := hv
     refine Run.region_end ?_
     refine Run.seq ?_
     refine Run.ops0 (idx := [0, 1, 2, 3, 4]) rfl ?_
     refine Run.go rfl rfl rfl (sem_move ((Value.slice (if c3 = Int.toNat (0) then a1 else Option.map (·.add (Int.toNat (0) * 3)) a1) (Int.toNat (IntKind.wrap .i64 (((n2 : Nat)) + ((n6 : Nat)))) - Int.toNat (0)) (c3 - Int.toNat (0)))) rfl ?_)
     refine Run.go rfl rfl rfl (sem_move ((Value.int .i64 (i4))) rfl ?_)
     obtain ⟨hi0, hi1, hi2, hS⟩ := hS
     refine Run.go rfl rfl rfl (sem_sliceSlI (if c3 = Int.toNat (0) then a1 else Option.map (·.add (Int.toNat (0) * 3)) a1) (Int.toNat (IntKind.wrap .i64 (((n2 : Nat)) + ((n6 : Nat)))) - Int.toNat (0)) (c3 - Int.toNat (0)) (i4) (((Int.toNat (IntKind.wrap .i64 (((n2 : Nat)) + ((n6 : Nat)))) - Int.toNat (0)) : Nat)) rfl TF.slc_191 ⟨_, rfl⟩ rfl hi0 hi1 hi2 ?_)
     refine Run.go rfl rfl rfl (sem_move ((Value.int .i64 ((n6 : Nat)))) rfl ?_)
     refine Run.go rfl rfl rfl (sem_callL [(Value.slice (if (c3 - Int.toNat (0)) = Int.toNat (i4) then (if c3 = Int.toNat (0) then a1 else Option.map (·.add (Int.toNat (0) * 3)) a1) else Option.map (·.add (Int.toNat (i4) * 3)) (if c3 = Int.toNat (0) then a1 else Option.map (·.add (Int.toNat (0) * 3)) a1)) (Int.toNat (((Int.toNat (IntKind.wrap .i64 (((n2 : Nat)) + ((n6 : Nat)))) - Int.toNat (0)) : Nat)) - Int.toNat (i4)) ((c3 - Int.toNat (0)) - Int.toNat (i4))), (Value.int .i64 ((n6 : Nat)))] (TF.goes_163) rfl rfl (Spec.mono hS fun v h34 hv => ?_))
     obtain ⟨rfl, hS⟩ := hv
     refine Run.region_end ?_
     refine Run.seq ?_
     refine Run.ops0 (idx := [0, 1]) rfl ?_
     refine Run.go rfl rfl rfl (sem_move ((Value.slice (if c3 = Int.toNat (0) then a1 else Option.map (·.add (Int.toNat (0) * 3)) a1) (Int.toNat (IntKind.wrap .i64 (((n2 : Nat)) + ((n6 : Nat)))) - Int.toNat (0)) (c3 - Int.toNat (0)))) rfl ?_)
     refine Run.go rfl rfl rfl (sem_assign ((Value.slice (if c3 = Int.toNat (0) then a1 else Option.map (·.add (Int.toNat (0) * 3)) a1) (Int.toNat (IntKind.wrap .i64 (((n2 : Nat)) + ((n6 : Nat)))) - Int.toNat (0)) (c3 - Int.toNat (0)))) rfl ?_)
     refine Run.region_end ?_
     refine Run.ret ⟨.inr rfl, ?_⟩
     exact hS.imp fun h' hq => ⟨(if c3 = Int.toNat (0) then a1 else Option.map (·.add (Int.toNat (0) * 3)) a1), (Int.toNat (IntKind.wrap .i64 (((n2 : Nat)) + ((n6 : Nat)))) - Int.toNat (0)), (c3 - Int.toNat (0)), rfl, hq⟩
set_option maxHeartbeats 4000000 in
theorem C_stylus_Reader_word.of {B : RO} {p1 : Option Addr} {h : Heap} {Q : Int → Heap → Prop} (hS : S_stylus_Reader_word B p1 h Q) : C_stylus_Reader_word B p1 h Q := by
 unfold S_stylus_Reader_word at hS
 unfold C_stylus_Reader_word
 refine Spec.of_run Try.func140 (N := 46) (rs := [ResultVar.tmp 2]) rfl rfl rfl (Nat.le_of_ble_eq_true rfl) ?_
 refine Run.seq ?_
 refine Run.ops0 (idx := [0]) rfl ?_
 refine Run.go rfl rfl rfl (sem_assign ((Value.int .u64 (0))) rfl ?_)
 refine Run.region_end ?_
 refine Run.seq ?_
 refine Run.ops0 (idx := [0]) rfl ?_
 refine Run.go rfl rfl rfl (sem_assign ((Value.int .u64 (0))) rfl ?_)
 refine Run.region_end ?_
 refine Run.seq ?_
 refine Run.seq ?_
 refine Run.ops0 (idx := [0]) rfl ?_
 refine Run.go rfl rfl rfl (sem_assign ((Value.int .i64 (0))) rfl ?_)
 refine Run.region_end ?_
 refine Run.block ?_
 obtain ⟨J9, m7, h0, hS⟩ := hS
 refine Run.of_fin (h0.imp fun h' h0 => ?_)
 refine Run.loop (σ := Int × Int × Nat) (fun x e h => J9 x.1 x.2.1 x.2.2 h ∧ Agree [(0, (Value.pointer p1)), (3, (Value.int .u64 (x.1))), (4, (Value.int .i64 (x.2.1)))] e) (fun x => x.2.2) ((0), (0), m7) ⟨h0, ⟨rfl, rfl, rfl, trivial⟩⟩ ?_; clear h0
 rintro ⟨i3, i4, m6⟩ e h5 ⟨hJ, hag⟩ ih8
 have hS := hS i3 i4 m6 h5 hJ; clear hJ
 refine Run.env hag ?_; clear hag
 refine Run.seq ?_
 refine Run.seq ?_
 refine Run.ops0 (idx := [0, 1]) rfl ?_
 refine Run.go rfl rfl rfl (sem_move ((Value.int .i64 (i4))) rfl ?_)
 obtain ⟨hT, hF⟩ := hS
 by_cases hb10 : (i4 : Int) < (64)
 ·have hS := hT hb10; clear hT hF
  refine Run.go rfl rfl rfl (sem_binI .i64 (i4) (64) (.bool true) rfl rfl (binI_lss_t hb10) ?_)
  refine Run.region_end ?_
  refine Run.condT rfl ?_
  refine Run.skip ?_
  refine Run.seq ?_
  refine Run.block ?_
  refine Run.seq ?_
  refine Run.ops0 (idx := [0, 1, 2]) rfl ?_
  refine Run.go rfl rfl rfl (sem_move ((Value.pointer p1)) rfl ?_)
  refine Run.go rfl rfl rfl (sem_callL [(Value.pointer p1), (Value.int .i64 (1))] (TF.goes_142) rfl rfl (Spec.mono hS fun v h11 hv => ?_))
  obtain ⟨s12, rfl, hS⟩ := hv
  refine Run.go rfl rfl rfl (sem_assign ((Value.string s12)) rfl ?_)
  refine Run.region_end ?_
  refine Run.seqJ (fun e h14 => Agree [(0, (Value.pointer p1)), (3, (Value.int .u64 (i3))), (4, (Value.int .i64 (i4))), (5, (Value.string s12))] e ∧ S_stylus_Reader_word_J1 B p1 i3 i4 m6 J9 s12 h14 Q) ?_ fun j13 => ?_
  ·rintro e h14 ⟨hag, hS⟩
   refine Run.env hag ?_; clear hag
   refine Run.seq ?_
   refine Run.ops0 (idx := [0, 1, 2, 3, 4, 5, 6, 7, 8]) rfl ?_
   refine Run.go rfl rfl rfl (sem_move ((Value.int .u64 (i3))) rfl ?_)
   refine Run.go rfl rfl rfl (sem_move ((Value.string s12)) rfl ?_)
   obtain ⟨hi0, hi1, hS⟩ := hS
   refine Run.go rfl rfl rfl (sem_indexStr' s12 .i64 (0) rfl rfl TF.isStr_9 hi0 hi1 ?_)
   refine Run.go rfl rfl rfl (sem_binI .u8 (byteAt s12 (Int.toNat (0))) (127) ((Value.int .u8 (IntKind.wrap .u8 ((BitVec.ofInt (IntKind.bits .u8) (byteAt s12 (Int.toNat (0))) &&& BitVec.ofInt (IntKind.bits .u8) (127)).toNat : Int)))) rfl rfl rfl ?_)
   refine Run.go rfl rfl rfl (sem_convI .u8 .u64 (IntKind.wrap .u8 ((BitVec.ofInt (IntKind.bits .u8) (byteAt s12 (Int.toNat (0))) &&& BitVec.ofInt (IntKind.bits .u8) (127)).toNat : Int)) rfl TF.int_5 TF.int_202 ?_)
   refine Run.go rfl rfl rfl (sem_move ((Value.int .i64 (i4))) rfl ?_)
   obtain ⟨hi0, hS⟩ := hS
   refine Run.go rfl rfl rfl (sem_shl .u64 .i64 (IntKind.wrap .u64 (IntKind.wrap .u8 ((BitVec.ofInt (IntKind.bits .u8) (byteAt s12 (Int.toNat (0))) &&& BitVec.ofInt (IntKind.bits .u8) (127)).toNat : Int))) (i4) rfl rfl hi0 ?_)
   refine Run.go rfl rfl rfl (sem_binI .u64 (i3) (IntKind.wrap .u64 ((IntKind.wrap .u64 (IntKind.wrap .u8 ((BitVec.ofInt (IntKind.bits .u8) (byteAt s12 (Int.toNat (0))) &&& BitVec.ofInt (IntKind.bits .u8) (127)).toNat : Int))) * 2 ^ (min (Int.toNat (i4)) (IntKind.bits .u64)))) ((Value.int .u64 (IntKind.wrap .u64 ((BitVec.ofInt (IntKind.bits .u64) (i3) ||| BitVec.ofInt (IntKind.bits .u64) (IntKind.wrap .u64 ((IntKind.wrap .u64 (IntKind.wrap .u8 ((BitVec.ofInt (IntKind.bits .u8) (byteAt s12 (Int.toNat (0))) &&& BitVec.ofInt (IntKind.bits .u8) (127)).toNat : Int))) * 2 ^ (min (Int.toNat (i4)) (IntKind.bits .u64))))).toNat : Int)))) rfl rfl rfl ?_)
   refine Run.go rfl rfl rfl (sem_assign ((Value.int .u64 (IntKind.wrap .u64 ((BitVec.ofInt (IntKind.bits .u64) (i3) ||| BitVec.ofInt (IntKind.bits .u64) (IntKind.wrap .u64 ((IntKind.wrap .u64 (IntKind.wrap .u8 ((BitVec.ofInt (IntKind.bits .u8) (byteAt s12 (Int.toNat (0))) &&& BitVec.ofInt (IntKind.bits .u8) (127)).toNat : Int))) * 2 ^ (min (Int.toNat (i4)) (IntKind.bits .u64))))).toNat : Int)))) rfl ?_)
   refine Run.region_end ?_
   refine Run.seq ?_
   refine Run.ops0 (idx := [0, 1, 2]) rfl ?_
   refine Run.go rfl rfl rfl (sem_move ((Value.string s12)) rfl ?_)
   obtain ⟨hi0, hi1, hS⟩ := hS
   refine Run.go rfl rfl rfl (sem_indexStr' s12 .i64 (0) rfl rfl TF.isStr_9 hi0 hi1 ?_)
   obtain ⟨hT, hF⟩ := hS
   by_cases hb15 : (byteAt s12 (Int.toNat (0)) : Int) < (128)
   ·have hS := hT hb15; clear hT hF
    refine Run.go rfl rfl rfl (sem_binI .u8 (byteAt s12 (Int.toNat (0))) (128) (.bool true) rfl rfl (binI_lss_t hb15) ?_)
    refine Run.region_end ?_
    refine Run.condT rfl ?_
    refine Run.seq ?_
    refine Run.ops0 (idx := [0, 1]) rfl ?_
    refine Run.go rfl rfl rfl (sem_move ((Value.int .u64 (IntKind.wrap .u64 ((BitVec.ofInt (IntKind.bits .u64) (i3) ||| BitVec.ofInt (IntKind.bits .u64) (IntKind.wrap .u64 ((IntKind.wrap .u64 (IntKind.wrap .u8 ((BitVec.ofInt (IntKind.bits .u8) (byteAt s12 (Int.toNat (0))) &&& BitVec.ofInt (IntKind.bits .u8) (127)).toNat : Int))) * 2 ^ (min (Int.toNat (i4)) (IntKind.bits .u64))))).toNat : Int)))) rfl ?_)
    refine Run.go rfl rfl rfl (sem_assign ((Value.int .u64 (IntKind.wrap .u64 ((BitVec.ofInt (IntKind.bits .u64) (i3) ||| BitVec.ofInt (IntKind.bits .u64) (IntKind.wrap .u64 ((IntKind.wrap .u64 (IntKind.wrap .u8 ((BitVec.ofInt (IntKind.bits .u8) (byteAt s12 (Int.toNat (0))) &&& BitVec.ofInt (IntKind.bits .u8) (127)).toNat : Int))) * 2 ^ (min (Int.toNat (i4)) (IntKind.bits .u64))))).toNat : Int)))) rfl ?_)
    refine Run.region_end ?_
    refine Run.ret ⟨.inr rfl, ?_⟩
    exact hS.imp fun h' hq => ⟨(IntKind.wrap .u64 ((BitVec.ofInt (IntKind.bits .u64) (i3) ||| BitVec.ofInt (IntKind.bits .u64) (IntKind.wrap .u64 ((IntKind.wrap .u64 (IntKind.wrap .u8 ((BitVec.ofInt (IntKind.bits .u8) (byteAt s12 (Int.toNat (0))) &&& BitVec.ofInt (IntKind.bits .u8) (127)).toNat : Int))) * 2 ^ (min (Int.toNat (i4)) (IntKind.bits .u64))))).toNat : Int)), rfl, hq⟩
   ·have hS := hF hb15; clear hT hF
    refine Run.go rfl rfl rfl (sem_binI .u8 (byteAt s12 (Int.toNat (0))) (128) (.bool false) rfl rfl (binI_lss_f hb15) ?_)
    refine Run.region_end ?_
    refine Run.condF rfl ?_
    refine Run.skip ?_
    refine Run.inBlock ?_
    refine Run.ops0 (idx := [0, 1, 2]) rfl ?_
    refine Run.go rfl rfl rfl (sem_move ((Value.int .i64 (i4))) rfl ?_)
    refine Run.go rfl rfl rfl (sem_binI .i64 (i4) (7) ((Value.int .i64 (IntKind.wrap .i64 ((i4) + (7))))) rfl rfl rfl ?_)
    refine Run.go rfl rfl rfl (sem_assign ((Value.int .i64 (IntKind.wrap .i64 ((i4) + (7))))) rfl ?_)
    refine Run.region_end ?_
    exact Run.of_fin (hS.imp fun h' ⟨m', hm, hS⟩ => ih8 ((IntKind.wrap .u64 ((BitVec.ofInt (IntKind.bits .u64) (i3) ||| BitVec.ofInt (IntKind.bits .u64) (IntKind.wrap .u64 ((IntKind.wrap .u64 (IntKind.wrap .u8 ((BitVec.ofInt (IntKind.bits .u8) (byteAt s12 (Int.toNat (0))) &&& BitVec.ofInt (IntKind.bits .u8) (127)).toNat : Int))) * 2 ^ (min (Int.toNat (i4)) (IntKind.bits .u64))))).toNat : Int)), (IntKind.wrap .i64 ((i4) + (7))), m') _ _ ⟨hS, ⟨rfl, rfl, rfl, trivial⟩⟩ hm)
  refine Run.seq ?_
  refine Run.ops0 (idx := [0, 1, 2, 3, 4, 5, 6, 7, 8, 9, 10, 11, 12, 13, 14, 15, 16, 17, 18, 19]) rfl ?_
  refine Run.go rfl rfl rfl (sem_move ((Value.string s12)) rfl ?_)
  obtain ⟨hT, hF⟩ := hS
  by_cases hb16 : s12 = (ByteArray.mk #[])
  ·have hS := hT hb16; clear hT hF
   refine Run.go rfl rfl rfl (sem_strEqT s12 (ByteArray.mk #[]) rfl rfl hb16 ?_)
   refine Run.go rfl rfl rfl (sem_move ((Value.bool true)) rfl ?_)
   refine Run.no rfl rfl rfl ?_
   refine Run.no rfl rfl rfl ?_
   refine Run.no rfl rfl rfl ?_
   refine Run.no rfl rfl rfl ?_
   refine Run.no rfl rfl rfl ?_
   refine Run.no rfl rfl rfl ?_
   refine Run.no rfl rfl rfl ?_
   refine Run.go rfl rfl rfl (sem_pick true ((Value.bool true)) rfl rfl ?_)
   refine Run.go rfl rfl rfl (sem_move ((Value.bool true)) rfl ?_)
   refine Run.no rfl rfl rfl ?_
   refine Run.no rfl rfl rfl ?_
   refine Run.no rfl rfl rfl ?_
   refine Run.no rfl rfl rfl ?_
   refine Run.no rfl rfl rfl ?_
   refine Run.no rfl rfl rfl ?_
   refine Run.no rfl rfl rfl ?_
   refine Run.go rfl rfl rfl (sem_pick true ((Value.bool true)) rfl rfl ?_)
   refine Run.region_end ?_
   refine Run.condT rfl ?_
   refine Run.exit rfl ?_
   refine Run.seq ?_
   refine Run.ops0 (idx := [0, 1]) rfl ?_
   refine Run.go rfl rfl rfl (sem_move ((Value.pointer p1)) rfl ?_)
   refine Run.go rfl rfl rfl (sem_callL [(Value.pointer p1)] (TF.goes_141) rfl rfl (Spec.mono hS fun v h17 hv => ?_))
   obtain ⟨rfl, hS⟩ := hv
   refine Run.region_end ?_
   refine Run.seq ?_
   refine Run.ops0 (idx := [0]) rfl ?_
   refine Run.go rfl rfl rfl (sem_assign ((Value.int .u64 (0))) rfl ?_)
   refine Run.region_end ?_
   refine Run.ret ⟨.inr rfl, ?_⟩
   exact hS.imp fun h' hq => ⟨(0), rfl, hq⟩
  ·have hS := hF hb16; clear hT hF
   refine Run.go rfl rfl rfl (sem_strEqF s12 (ByteArray.mk #[]) rfl rfl hb16 ?_)
   refine Run.go rfl rfl rfl (sem_move ((Value.bool false)) rfl ?_)
   refine Run.go rfl rfl rfl (sem_move ((Value.int .i64 (i4))) rfl ?_)
   obtain ⟨hT, hF⟩ := hS
   by_cases hb18 : (i4 : Int) = 63
   ·have hS := hT hb18; clear hT hF
    refine Run.go rfl rfl rfl (sem_binI .i64 (i4) (63) (.bool true) rfl rfl (binI_eql_t hb18) ?_)
    refine Run.go rfl rfl rfl (sem_move ((Value.bool true)) rfl ?_)
    refine Run.go rfl rfl rfl (sem_move ((Value.string s12)) rfl ?_)
    obtain ⟨hi0, hi1, hS⟩ := hS
    refine Run.go rfl rfl rfl (sem_indexStr' s12 .i64 (0) rfl rfl TF.isStr_9 hi0 hi1 ?_)
    obtain ⟨hT, hF⟩ := hS
    by_cases hb19 : (byteAt s12 (Int.toNat (0)) : Int) > (1)
    ·have hS := hT hb19; clear hT hF
     refine Run.go rfl rfl rfl (sem_binI .u8 (byteAt s12 (Int.toNat (0))) (1) (.bool true) rfl rfl (binI_gtr_t hb19) ?_)
     refine Run.go rfl rfl rfl (sem_pick true ((Value.bool true)) rfl rfl ?_)
     refine Run.go rfl rfl rfl (sem_pick false ((Value.bool true)) rfl rfl ?_)
     refine Run.go rfl rfl rfl (sem_move ((Value.bool true)) rfl ?_)
     refine Run.no rfl rfl rfl ?_
     refine Run.no rfl rfl rfl ?_
     refine Run.no rfl rfl rfl ?_
     refine Run.no rfl rfl rfl ?_
     refine Run.no rfl rfl rfl ?_
     refine Run.no rfl rfl rfl ?_
     refine Run.no rfl rfl rfl ?_
     refine Run.go rfl rfl rfl (sem_pick true ((Value.bool true)) rfl rfl ?_)
     refine Run.region_end ?_
     refine Run.condT rfl ?_
     refine Run.exit rfl ?_
     refine Run.seq ?_
     refine Run.ops0 (idx := [0, 1]) rfl ?_
     refine Run.go rfl rfl rfl (sem_move ((Value.pointer p1)) rfl ?_)
     refine Run.go rfl rfl rfl (sem_callL [(Value.pointer p1)] (TF.goes_141) rfl rfl (Spec.mono hS fun v h20 hv => ?_))
     obtain ⟨rfl, hS⟩ := hv
     refine Run.region_end ?_
     refine Run.seq ?_
     refine Run.ops0 (idx := [0]) rfl ?_
     refine Run.go rfl rfl rfl (sem_assign ((Value.int .u64 (0))) rfl ?_)
     refine Run.region_end ?_
     refine Run.ret ⟨.inr rfl, ?_⟩
     exact hS.imp fun h' hq => ⟨(0), rfl, hq⟩
    ·have hS := hF hb19; clear hT hF
     refine Run.go rfl rfl rfl (sem_binI .u8 (byteAt s12 (Int.toNat (0))) (1) (.bool false) rfl rfl (binI_gtr_f hb19) ?_)
     refine Run.go rfl rfl rfl (sem_pick true ((Value.bool false)) rfl rfl ?_)
     refine Run.go rfl rfl rfl (sem_pick false ((Value.bool false)) rfl rfl ?_)
     refine Run.go rfl rfl rfl (sem_move ((Value.bool false)) rfl ?_)
     refine Run.go rfl rfl rfl (sem_move ((Value.int .i64 (i4))) rfl ?_)
     obtain ⟨hT, hF⟩ := hS
     by_cases hb21 : (i4 : Int) > (0)
     ·have hS := hT hb21; clear hT hF
      refine Run.go rfl rfl rfl (sem_binI .i64 (i4) (0) (.bool true) rfl rfl (binI_gtr_t hb21) ?_)
      refine Run.go rfl rfl rfl (sem_move ((Value.bool true)) rfl ?_)
      refine Run.go rfl rfl rfl (sem_move ((Value.string s12)) rfl ?_)
      obtain ⟨hi0, hi1, hS⟩ := hS
      refine Run.go rfl rfl rfl (sem_indexStr' s12 .i64 (0) rfl rfl TF.isStr_9 hi0 hi1 ?_)
      obtain ⟨hT, hF⟩ := hS
      by_cases hb22 : (byteAt s12 (Int.toNat (0)) : Int) = 0
      ·have hS := hT hb22; clear hT hF
       refine Run.go rfl rfl rfl (sem_binI .u8 (byteAt s12 (Int.toNat (0))) (0) (.bool true) rfl rfl (binI_eql_t hb22) ?_)
       refine Run.go rfl rfl rfl (sem_pick true ((Value.bool true)) rfl rfl ?_)
       refine Run.go rfl rfl rfl (sem_pick false ((Value.bool true)) rfl rfl ?_)
       refine Run.region_end ?_
       refine Run.condT rfl ?_
       refine Run.exit rfl ?_
       refine Run.seq ?_
       refine Run.ops0 (idx := [0, 1]) rfl ?_
       refine Run.go rfl rfl rfl (sem_move ((Value.pointer p1)) rfl ?_)
       refine Run.go rfl rfl rfl (sem_callL [(Value.pointer p1)] (TF.goes_141) rfl rfl (Spec.mono hS fun v h23 hv => ?_))
       obtain ⟨rfl, hS⟩ := hv
       refine Run.region_end ?_
       refine Run.seq ?_
       refine Run.ops0 (idx := [0]) rfl ?_
       refine Run.go rfl rfl rfl (sem_assign ((Value.int .u64 (0))) rfl ?_)
       refine Run.region_end ?_
       refine Run.ret ⟨.inr rfl, ?_⟩
       exact hS.imp fun h' hq => ⟨(0), rfl, hq⟩
      ·have hS := hF hb22; clear hT hF
       refine Run.go rfl rfl rfl (sem_binI .u8 (byteAt s12 (Int.toNat (0))) (0) (.bool false) rfl rfl (binI_eql_f hb22) ?_)
       refine Run.go rfl rfl rfl (sem_pick true ((Value.bool false)) rfl rfl ?_)
       refine Run.go rfl rfl rfl (sem_pick false ((Value.bool false)) rfl rfl ?_)
       refine Run.region_end ?_
       refine Run.condF rfl ?_
       refine Run.skip ?_
       exact Run.of_fin (hS.imp fun h' hS => j13 _ _ ⟨⟨rfl, rfl, rfl, rfl, trivial⟩, hS⟩)
     ·have hS := hF hb21; clear hT hF
      refine Run.go rfl rfl rfl (sem_binI .i64 (i4) (0) (.bool false) rfl rfl (binI_gtr_f hb21) ?_)
      refine Run.go rfl rfl rfl (sem_move ((Value.bool false)) rfl ?_)
      refine Run.no rfl rfl rfl ?_
      refine Run.no rfl rfl rfl ?_
      refine Run.no rfl rfl rfl ?_
      refine Run.go rfl rfl rfl (sem_pick false ((Value.bool false)) rfl rfl ?_)
      refine Run.go rfl rfl rfl (sem_pick false ((Value.bool false)) rfl rfl ?_)
      refine Run.region_end ?_
      refine Run.condF rfl ?_
      refine Run.skip ?_
      exact Run.of_fin (hS.imp fun h' hS => j13 _ _ ⟨⟨rfl, rfl, rfl, rfl, trivial⟩, hS⟩)
   ·have hS := hF hb18; clear hT hF
    refine Run.go rfl rfl rfl (sem_binI .i64 (i4) (63) (.bool false) rfl rfl (binI_eql_f hb18) ?_)
    refine Run.go rfl rfl rfl (sem_move ((Value.bool false)) rfl ?_)
    refine Run.no rfl rfl rfl ?_
    refine Run.no rfl rfl rfl ?_
    refine Run.no rfl rfl rfl ?_
    refine Run.go rfl rfl rfl (sem_pick false ((Value.bool false)) rfl rfl ?_)
    refine Run.go rfl rfl rfl (sem_pick false ((Value.bool false)) rfl rfl ?_)
    refine Run.go rfl rfl rfl (sem_move ((Value.bool false)) rfl ?_)
    refine Run.go rfl rfl rfl (sem_move ((Value.int .i64 (i4))) rfl ?_)
    obtain ⟨hT, hF⟩ := hS
    by_cases hb24 : (i4 : Int) > (0)
    ·have hS := hT hb24; clear hT hF
     refine Run.go rfl rfl rfl (sem_binI .i64 (i4) (0) (.bool true) rfl rfl (binI_gtr_t hb24) ?_)
     refine Run.go rfl rfl rfl (sem_move ((Value.bool true)) rfl ?_)
     refine Run.go rfl rfl rfl (sem_move ((Value.string s12)) rfl ?_)
     obtain ⟨hi0, hi1, hS⟩ := hS
     refine Run.go rfl rfl rfl (sem_indexStr' s12 .i64 (0) rfl rfl TF.isStr_9 hi0 hi1 ?_)
     obtain ⟨hT, hF⟩ := hS
     by_cases hb25 : (byteAt s12 (Int.toNat (0)) : Int) = 0
     ·have hS := hT hb25; clear hT hF
      refine Run.go rfl rfl rfl (sem_binI .u8 (byteAt s12 (Int.toNat (0))) (0) (.bool true) rfl rfl (binI_eql_t hb25) ?_)
      refine Run.go rfl rfl rfl (sem_pick true ((Value.bool true)) rfl rfl ?_)
      refine Run.go rfl rfl rfl (sem_pick false ((Value.bool true)) rfl rfl ?_)
      refine Run.region_end ?_
      refine Run.condT rfl ?_
      refine Run.exit rfl ?_
      refine Run.seq ?_
      refine Run.ops0 (idx := [0, 1]) rfl ?_
      refine Run.go rfl rfl rfl (sem_move ((Value.pointer p1)) rfl ?_)
      refine Run.go rfl rfl rfl (sem_callL [(Value.pointer p1)] (TF.goes_141) rfl rfl (Spec.mono hS fun v h26 hv => ?_))
      obtain ⟨rfl, hS⟩ := hv
      refine Run.region_end ?_
      refine Run.seq ?_
      refine Run.ops0 (idx := [0]) rfl ?_
      refine Run.go rfl rfl rfl (sem_assign ((Value.int .u64 (0))) rfl ?_)
      refine Run.region_end ?_
      refine Run.ret ⟨.inr rfl, ?_⟩
      exact hS.imp fun h' hq => ⟨(0), rfl, hq⟩
     ·have hS := hF hb25; clear hT hF
      refine Run.go rfl rfl rfl (sem_binI .u8 (byteAt s12 (Int.toNat (0))) (0) (.bool false) rfl rfl (binI_eql_f hb25) ?_)
      refine Run.go rfl rfl rfl (sem_pick true ((Value.bool false)) rfl rfl ?_)
      refine Run.go rfl rfl rfl (sem_pick false ((Value.bool false)) rfl rfl ?_)
      refine Run.region_end ?_
      refine Run.condF rfl ?_
      refine Run.skip ?_
      exact Run.of_fin (hS.imp fun h' hS => j13 _ _ ⟨⟨rfl, rfl, rfl, rfl, trivial⟩, hS⟩)
    ·have hS := hF hb24; clear hT hF
     refine Run.go rfl rfl rfl (sem_binI .i64 (i4) (0) (.bool false) rfl rfl (binI_gtr_f hb24) ?_)
     refine Run.go rfl rfl rfl (sem_move ((Value.bool false)) rfl ?_)
     refine Run.no rfl rfl rfl ?_
     refine Run.no rfl rfl rfl ?_
     refine Run.no rfl rfl rfl ?_
     refine Run.go rfl rfl rfl (sem_pick false ((Value.bool false)) rfl rfl ?_)
     refine Run.go rfl rfl rfl (sem_pick false ((Value.bool false)) rfl rfl ?_)
     refine Run.region_end ?_
     refine Run.condF rfl ?_
     refine Run.skip ?_
     exact Run.of_fin (hS.imp fun h' hS => j13 _ _ ⟨⟨rfl, rfl, rfl, rfl, trivial⟩, hS⟩)
 ·have hS := hF hb10; clear hT hF
  refine Run.go rfl rfl rfl (sem_binI .i64 (i4) (64) (.bool false) rfl rfl (binI_lss_f hb10) ?_)
  refine Run.region_end ?_
  refine Run.condF rfl ?_
  refine Run.exit rfl ?_
  refine Run.seq ?_
  refine Run.ops0 (idx := [0, 1]) rfl ?_
  refine Run.go rfl rfl rfl (sem_move ((Value.pointer p1)) rfl ?_)
  refine Run.go rfl rfl rfl (sem_callL [(Value.pointer p1)] (TF.goes_141) rfl rfl (Spec.mono hS fun v h27 hv => ?_))
  obtain ⟨rfl, hS⟩ := hv
  refine Run.region_end ?_
  refine Run.seq ?_
  refine Run.ops0 (idx := [0]) rfl ?_
  refine Run.go rfl rfl rfl (sem_assign ((Value.int .u64 (0))) rfl ?_)
  refine Run.region_end ?_
  refine Run.ret ⟨.inr rfl, ?_⟩
  exact hS.imp fun h' hq => ⟨(0), rfl, hq⟩
set_option maxHeartbeats 4000000 in
theorem C_stylus_Reader_Spoil.of {B : RO} {p1 : Option Addr} {h : Heap} {Q : Heap → Prop} (hS : S_stylus_Reader_Spoil B p1 h Q) : C_stylus_Reader_Spoil B p1 h Q := by
 unfold S_stylus_Reader_Spoil at hS
 unfold C_stylus_Reader_Spoil
 refine Spec.of_run Try.func141 (N := 10) (rs := []) rfl rfl rfl (Nat.le_of_ble_eq_true rfl) ?_
 refine Run.seq ?_
 refine Run.ops0 (idx := [0, 1]) rfl ?_
 refine Run.go rfl rfl rfl (sem_move ((Value.pointer p1)) rfl ?_)
 obtain ⟨hT, hF⟩ := hS
 by_cases hb2 : p1 = none
 ·have hS := hT hb2; clear hT hF
  refine Run.go rfl rfl rfl (sem_ptrNilT p1 (.inr rfl) false rfl rfl TF.ptr_195 hb2 rfl ?_)
  refine Run.region_end ?_
  refine Run.condF rfl ?_
  refine Run.skip ?_
  refine Run.fall ⟨.inl rfl, ?_⟩
  exact hS.imp fun h' hq => ⟨rfl, hq⟩
 ·have hS := hF hb2; clear hT hF
  refine Run.go rfl rfl rfl (sem_ptrNilF p1 (.inr rfl) true rfl rfl TF.ptr_195 hb2 rfl ?_)
  refine Run.region_end ?_
  refine Run.condT rfl ?_
  refine Run.ops0 (idx := [0, 1, 2, 3, 4, 5, 6, 7]) rfl ?_
  refine Run.go rfl rfl rfl (sem_move ((Value.pointer p1)) rfl ?_)
  refine Run.go rfl rfl rfl (sem_move ((Value.pointer p1)) rfl ?_)
  obtain ⟨A3, e4, hS⟩ := hS
  refine Run.go rfl rfl rfl (sem_nilCheck A3 (congrArg Value.pointer e4) ?_)
  refine Run.go rfl rfl rfl (sem_fieldAddr A3 0 rfl TF.fld_249_0 ?_)
  obtain ⟨h5, hst, hS⟩ := hS
  refine Run.go rfl rfl rfl (sem_store1 A3 ((Value.string (ByteArray.mk #[]))) h5 rfl rfl rfl TF.sz_9 hst ?_)
  obtain ⟨A6, e7, hS⟩ := hS
  refine Run.go rfl rfl rfl (sem_nilCheck A6 (congrArg Value.pointer e7) ?_)
  refine Run.go rfl rfl rfl (sem_fieldAddr A6 1 rfl TF.fld_249_1 ?_)
  obtain ⟨h8, hst, hS⟩ := hS
  refine Run.go rfl rfl rfl (sem_store1 (Addr.add A6 1) ((Value.bool true)) h8 rfl rfl rfl TF.sz_4 hst ?_)
  refine Run.region_end ?_
  refine Run.fall ⟨.inl rfl, ?_⟩
  exact hS.imp fun h' hq => ⟨rfl, hq⟩
set_option maxHeartbeats 4000000 in
theorem C_stylus_Reader_Raw.of {B : RO} {p1 : Option Addr} {i2 : Int} {h : Heap} {Q : ByteArray → Heap → Prop} (hS : S_stylus_Reader_Raw B p1 i2 h Q) : C_stylus_Reader_Raw B p1 i2 h Q := by
 unfold S_stylus_Reader_Raw at hS
 unfold C_stylus_Reader_Raw
 refine Spec.of_run Try.func142 (N := 45) (rs := [ResultVar.tmp 4]) rfl rfl rfl (Nat.le_of_ble_eq_true rfl) ?_
 refine Run.seq ?_
 refine Run.ops0 (idx := [0]) rfl ?_
 refine Run.go rfl rfl rfl (sem_assign ((Value.string (ByteArray.mk #[]))) rfl ?_)
 refine Run.region_end ?_
 refine Run.seqJ (fun e h5 => Agree [(0, (Value.pointer p1)), (1, (Value.int .i64 (i2)))] e ∧ S_stylus_Reader_Raw_J1 B p1 i2 h5 Q) ?_ fun j4 => ?_
 ·rintro e h5 ⟨hag, hS⟩
  refine Run.env hag ?_; clear hag
  refine Run.seq ?_
  refine Run.ops0 (idx := [0, 1, 2, 3, 4, 5, 6]) rfl ?_
  refine Run.go rfl rfl rfl (sem_move ((Value.pointer p1)) rfl ?_)
  obtain ⟨A6, e7, hS⟩ := hS
  refine Run.go rfl rfl rfl (sem_nilCheck A6 (congrArg Value.pointer e7) ?_)
  refine Run.go rfl rfl rfl (sem_fieldAddr A6 0 rfl TF.fld_249_0 ?_)
  obtain ⟨s8, hl, hS⟩ := hS
  refine Run.go rfl rfl rfl (sem_load1 A6 ((Value.string s8)) rfl TF.agg_9 hl ?_)
  refine Run.go rfl rfl rfl (sem_move ((Value.int .i64 (i2))) rfl ?_)
  obtain ⟨hi0, hi1, hi2, hS⟩ := hS
  refine Run.go rfl rfl rfl (sem_sliceStrI s8 (0) (i2) rfl TF.isStr_9 rfl ⟨_, rfl⟩ hi0 hi1 hi2 ?_)
  refine Run.go rfl rfl rfl (sem_assign ((Value.string (ByteArray.extract s8 (Int.toNat (0)) (Int.toNat (i2))))) rfl ?_)
  refine Run.region_end ?_
  refine Run.seq ?_
  refine Run.ops0 (idx := [0, 1, 2, 3, 4, 5, 6, 7, 8, 9]) rfl ?_
  refine Run.go rfl rfl rfl (sem_move ((Value.pointer p1)) rfl ?_)
  refine Run.go rfl rfl rfl (sem_move ((Value.pointer p1)) rfl ?_)
  obtain ⟨A9, e10, hS⟩ := hS
  refine Run.go rfl rfl rfl (sem_nilCheck A9 (congrArg Value.pointer e10) ?_)
  refine Run.go rfl rfl rfl (sem_fieldAddr A9 0 rfl TF.fld_249_0 ?_)
  obtain ⟨s11, hl, hS⟩ := hS
  refine Run.go rfl rfl rfl (sem_load1 A9 ((Value.string s11)) rfl TF.agg_9 hl ?_)
  refine Run.go rfl rfl rfl (sem_move ((Value.int .i64 (i2))) rfl ?_)
  obtain ⟨hi0, hi1, hi2, hS⟩ := hS
  refine Run.go rfl rfl rfl (sem_sliceStrI s11 (i2) ((ByteArray.size s11 : Nat)) rfl TF.isStr_9 ⟨_, rfl⟩ rfl hi0 hi1 hi2 ?_)
  obtain ⟨A12, e13, hS⟩ := hS
  refine Run.go rfl rfl rfl (sem_nilCheck A12 (congrArg Value.pointer e13) ?_)
  refine Run.go rfl rfl rfl (sem_fieldAddr A12 0 rfl TF.fld_249_0 ?_)
  obtain ⟨h14, hst, hS⟩ := hS
  refine Run.go rfl rfl rfl (sem_store1 A12 ((Value.string (ByteArray.extract s11 (Int.toNat (i2)) (Int.toNat ((ByteArray.size s11 : Nat)))))) h14 rfl rfl rfl TF.sz_9 hst ?_)
  refine Run.region_end ?_
  refine Run.seq ?_
  refine Run.ops0 (idx := [0, 1]) rfl ?_
  refine Run.go rfl rfl rfl (sem_move ((Value.string (ByteArray.extract s8 (Int.toNat (0)) (Int.toNat (i2))))) rfl ?_)
  refine Run.go rfl rfl rfl (sem_assign ((Value.string (ByteArray.extract s8 (Int.toNat (0)) (Int.toNat (i2))))) rfl ?_)
  refine Run.region_end ?_
  refine Run.ret ⟨.inr rfl, ?_⟩
  exact hS.imp fun h' hq => ⟨(ByteArray.extract s8 (Int.toNat (0)) (Int.toNat (i2))), rfl, hq⟩
 refine Run.seq ?_
 refine Run.ops0 (idx := [0, 1, 2, 3, 4, 5, 6, 7, 8, 9, 10, 11, 12, 13, 14, 15, 16, 17, 18, 19, 20]) rfl ?_
 refine Run.go rfl rfl rfl (sem_move ((Value.pointer p1)) rfl ?_)
 obtain ⟨hT, hF⟩ := hS
 by_cases hb15 : p1 = none
 ·have hS := hT hb15; clear hT hF
  refine Run.go rfl rfl rfl (sem_ptrNilT p1 (.inl rfl) true rfl rfl TF.ptr_195 hb15 rfl ?_)
  refine Run.go rfl rfl rfl (sem_move ((Value.bool true)) rfl ?_)
  refine Run.no rfl rfl rfl ?_
  refine Run.no rfl rfl rfl ?_
  refine Run.no rfl rfl rfl ?_
  refine Run.no rfl rfl rfl ?_
  refine Run.go rfl rfl rfl (sem_pick true ((Value.bool true)) rfl rfl ?_)
  refine Run.go rfl rfl rfl (sem_move ((Value.bool true)) rfl ?_)
  refine Run.no rfl rfl rfl ?_
  refine Run.no rfl rfl rfl ?_
  refine Run.go rfl rfl rfl (sem_pick true ((Value.bool true)) rfl rfl ?_)
  refine Run.go rfl rfl rfl (sem_move ((Value.bool true)) rfl ?_)
  refine Run.no rfl rfl rfl ?_
  refine Run.no rfl rfl rfl ?_
  refine Run.no rfl rfl rfl ?_
  refine Run.no rfl rfl rfl ?_
  refine Run.no rfl rfl rfl ?_
  refine Run.no rfl rfl rfl ?_
  refine Run.no rfl rfl rfl ?_
  refine Run.go rfl rfl rfl (sem_pick true ((Value.bool true)) rfl rfl ?_)
  refine Run.region_end ?_
  refine Run.condT rfl ?_
  refine Run.seq ?_
  refine Run.ops0 (idx := [0, 1]) rfl ?_
  refine Run.go rfl rfl rfl (sem_move ((Value.pointer p1)) rfl ?_)
  refine Run.go rfl rfl rfl (sem_callL [(Value.pointer p1)] (TF.goes_141) rfl rfl (Spec.mono hS fun v h16 hv => ?_))
  obtain ⟨rfl, hS⟩ := hv
  refine Run.region_end ?_
  refine Run.seq ?_
  refine Run.ops0 (idx := [0]) rfl ?_
  refine Run.go rfl rfl rfl (sem_assign ((Value.string (ByteArray.mk #[]))) rfl ?_)
  refine Run.region_end ?_
  refine Run.ret ⟨.inr rfl, ?_⟩
  exact hS.imp fun h' hq => ⟨(ByteArray.mk #[]), rfl, hq⟩
 ·have hS := hF hb15; clear hT hF
  refine Run.go rfl rfl rfl (sem_ptrNilF p1 (.inl rfl) false rfl rfl TF.ptr_195 hb15 rfl ?_)
  refine Run.go rfl rfl rfl (sem_move ((Value.bool false)) rfl ?_)
  refine Run.go rfl rfl rfl (sem_move ((Value.pointer p1)) rfl ?_)
  obtain ⟨A17, e18, hS⟩ := hS
  refine Run.go rfl rfl rfl (sem_nilCheck A17 (congrArg Value.pointer e18) ?_)
  refine Run.go rfl rfl rfl (sem_fieldAddr A17 1 rfl TF.fld_249_1 ?_)
  obtain ⟨b19, hl, hS⟩ := hS
  obtain ⟨hT, hF⟩ := hS
  cases b19
  ·have hS := hF rfl; clear hT hF
   refine Run.go rfl rfl rfl (sem_load1 (Addr.add A17 1) (.bool false) rfl TF.agg_4 hl ?_)
   refine Run.go rfl rfl rfl (sem_pick false ((Value.bool false)) rfl rfl ?_)
   refine Run.go rfl rfl rfl (sem_move ((Value.bool false)) rfl ?_)
   refine Run.go rfl rfl rfl (sem_move ((Value.int .i64 (i2))) rfl ?_)
   obtain ⟨hT, hF⟩ := hS
   by_cases hb20 : (i2 : Int) < (0)
   ·have hS := hT hb20; clear hT hF
    refine Run.go rfl rfl rfl (sem_binI .i64 (i2) (0) (.bool true) rfl rfl (binI_lss_t hb20) ?_)
    refine Run.go rfl rfl rfl (sem_pick false ((Value.bool true)) rfl rfl ?_)
    refine Run.go rfl rfl rfl (sem_move ((Value.bool true)) rfl ?_)
    refine Run.no rfl rfl rfl ?_
    refine Run.no rfl rfl rfl ?_
    refine Run.no rfl rfl rfl ?_
    refine Run.no rfl rfl rfl ?_
    refine Run.no rfl rfl rfl ?_
    refine Run.no rfl rfl rfl ?_
    refine Run.no rfl rfl rfl ?_
    refine Run.go rfl rfl rfl (sem_pick true ((Value.bool true)) rfl rfl ?_)
    refine Run.region_end ?_
    refine Run.condT rfl ?_
    refine Run.seq ?_
    refine Run.ops0 (idx := [0, 1]) rfl ?_
    refine Run.go rfl rfl rfl (sem_move ((Value.pointer p1)) rfl ?_)
    refine Run.go rfl rfl rfl (sem_callL [(Value.pointer p1)] (TF.goes_141) rfl rfl (Spec.mono hS fun v h21 hv => ?_))
    obtain ⟨rfl, hS⟩ := hv
    refine Run.region_end ?_
    refine Run.seq ?_
    refine Run.ops0 (idx := [0]) rfl ?_
    refine Run.go rfl rfl rfl (sem_assign ((Value.string (ByteArray.mk #[]))) rfl ?_)
    refine Run.region_end ?_
    refine Run.ret ⟨.inr rfl, ?_⟩
    exact hS.imp fun h' hq => ⟨(ByteArray.mk #[]), rfl, hq⟩
   ·have hS := hF hb20; clear hT hF
    refine Run.go rfl rfl rfl (sem_binI .i64 (i2) (0) (.bool false) rfl rfl (binI_lss_f hb20) ?_)
    refine Run.go rfl rfl rfl (sem_pick false ((Value.bool false)) rfl rfl ?_)
    refine Run.go rfl rfl rfl (sem_move ((Value.bool false)) rfl ?_)
    refine Run.go rfl rfl rfl (sem_move ((Value.int .i64 (i2))) rfl ?_)
    refine Run.go rfl rfl rfl (sem_move ((Value.pointer p1)) rfl ?_)
    obtain ⟨A22, e23, hS⟩ := hS
    refine Run.go rfl rfl rfl (sem_nilCheck A22 (congrArg Value.pointer e23) ?_)
    refine Run.go rfl rfl rfl (sem_fieldAddr A22 0 rfl TF.fld_249_0 ?_)
    obtain ⟨s24, hl, hS⟩ := hS
    refine Run.go rfl rfl rfl (sem_load1 A22 ((Value.string s24)) rfl TF.agg_9 hl ?_)
    refine Run.go rfl rfl rfl (sem_lenStr s24 rfl TF.isStr_9 ?_)
    obtain ⟨hT, hF⟩ := hS
    by_cases hb25 : (i2 : Int) > ((ByteArray.size s24 : Nat))
    ·have hS := hT hb25; clear hT hF
     refine Run.go rfl rfl rfl (sem_binI .i64 (i2) ((ByteArray.size s24 : Nat)) (.bool true) rfl rfl (binI_gtr_t hb25) ?_)
     refine Run.go rfl rfl rfl (sem_pick false ((Value.bool true)) rfl rfl ?_)
     refine Run.region_end ?_
     refine Run.condT rfl ?_
     refine Run.seq ?_
     refine Run.ops0 (idx := [0, 1]) rfl ?_
     refine Run.go rfl rfl rfl (sem_move ((Value.pointer p1)) rfl ?_)
     refine Run.go rfl rfl rfl (sem_callL [(Value.pointer p1)] (TF.goes_141) rfl rfl (Spec.mono hS fun v h26 hv => ?_))
     obtain ⟨rfl, hS⟩ := hv
     refine Run.region_end ?_
     refine Run.seq ?_
     refine Run.ops0 (idx := [0]) rfl ?_
     refine Run.go rfl rfl rfl (sem_assign ((Value.string (ByteArray.mk #[]))) rfl ?_)
     refine Run.region_end ?_
     refine Run.ret ⟨.inr rfl, ?_⟩
     exact hS.imp fun h' hq => ⟨(ByteArray.mk #[]), rfl, hq⟩
    ·have hS := hF hb25; clear hT hF
     refine Run.go rfl rfl rfl (sem_binI .i64 (i2) ((ByteArray.size s24 : Nat)) (.bool false) rfl rfl (binI_gtr_f hb25) ?_)
     refine Run.go rfl rfl rfl (sem_pick false ((Value.bool false)) rfl rfl ?_)
     refine Run.region_end ?_
     refine Run.condF rfl ?_
     refine Run.skip ?_
     exact Run.of_fin (hS.imp fun h' hS => j4 _ _ ⟨⟨rfl, rfl, trivial⟩, hS⟩)
  ·have hS := hT rfl; clear hT hF
   refine Run.go rfl rfl rfl (sem_load1 (Addr.add A17 1) (.bool true) rfl TF.agg_4 hl ?_)
   refine Run.go rfl rfl rfl (sem_pick false ((Value.bool true)) rfl rfl ?_)
   refine Run.go rfl rfl rfl (sem_move ((Value.bool true)) rfl ?_)
   refine Run.no rfl rfl rfl ?_
   refine Run.no rfl rfl rfl ?_
   refine Run.go rfl rfl rfl (sem_pick true ((Value.bool true)) rfl rfl ?_)
   refine Run.go rfl rfl rfl (sem_move ((Value.bool true)) rfl ?_)
   refine Run.no rfl rfl rfl ?_
   refine Run.no rfl rfl rfl ?_
   refine Run.no rfl rfl rfl ?_
   refine Run.no rfl rfl rfl ?_
   refine Run.no rfl rfl rfl ?_
   refine Run.no rfl rfl rfl ?_
   refine Run.no rfl rfl rfl ?_
   refine Run.go rfl rfl rfl (sem_pick true ((Value.bool true)) rfl rfl ?_)
   refine Run.region_end ?_
   refine Run.condT rfl ?_
   refine Run.seq ?_
   refine Run.ops0 (idx := [0, 1]) rfl ?_
   refine Run.go rfl rfl rfl (sem_move ((Value.pointer p1)) rfl ?_)
   refine Run.go rfl rfl rfl (sem_callL [(Value.pointer p1)] (TF.goes_141) rfl rfl (Spec.mono hS fun v h27 hv => ?_))
   obtain ⟨rfl, hS⟩ := hv
   refine Run.region_end ?_
   refine Run.seq ?_
   refine Run.ops0 (idx := [0]) rfl ?_
   refine Run.go rfl rfl rfl (sem_assign ((Value.string (ByteArray.mk #[]))) rfl ?_)
   refine Run.region_end ?_
   refine Run.ret ⟨.inr rfl, ?_⟩
   exact hS.imp fun h' hq => ⟨(ByteArray.mk #[]), rfl, hq⟩
set_option maxHeartbeats 4000000 in
theorem C_countermandref01_Taken.of {B : RO} {s1 : ByteArray} {h : Heap} {Q : Int → Int → Heap → Prop} (hS : S_countermandref01_Taken B s1 h Q) : C_countermandref01_Taken B s1 h Q := by
 unfold S_countermandref01_Taken at hS
 unfold C_countermandref01_Taken
 refine Spec.of_run Try.func143 (N := 44) (rs := [ResultVar.tmp 2, ResultVar.tmp 3]) rfl rfl rfl (Nat.le_of_ble_eq_true rfl) ?_
 refine Run.seq ?_
 refine Run.ops0 (idx := [0, 1]) rfl ?_
 refine Run.go rfl rfl rfl (sem_assign ((Value.int .u64 (0))) rfl ?_)
 refine Run.go rfl rfl rfl (sem_assign ((Value.int .i64 (0))) rfl ?_)
 refine Run.region_end ?_
 refine Run.seq ?_
 refine Run.seq ?_
 refine Run.ops0 (idx := [0]) rfl ?_
 refine Run.go rfl rfl rfl (sem_assign ((Value.int .i64 (1))) rfl ?_)
 refine Run.region_end ?_
 refine Run.block ?_
 obtain ⟨J9, m7, h0, hS⟩ := hS
 refine Run.of_fin (h0.imp fun h' h0 => ?_)
 refine Run.loop (σ := Int × Nat) (fun x e h => J9 x.1 x.2 h ∧ Agree [(0, (Value.string s1)), (4, (Value.int .i64 (x.1)))] e) (fun x => x.2) ((1), m7) ⟨h0, ⟨rfl, rfl, trivial⟩⟩ ?_; clear h0
 rintro ⟨i4, m6⟩ e h5 ⟨hJ, hag⟩ ih8
 have hS := hS i4 m6 h5 hJ; clear hJ
 refine Run.env hag ?_; clear hag
 refine Run.seqJ (fun e h11 => Agree [(0, (Value.string s1)), (4, (Value.int .i64 (i4)))] e ∧ S_countermandref01_Taken_J1 B s1 i4 m6 J9 h11 Q) ?_ fun j10 => ?_
 ·rintro e h11 ⟨hag, hS⟩
  refine Run.env hag ?_; clear hag
  refine Run.seq ?_
  refine Run.block ?_
  refine Run.seq ?_
  refine Run.seq ?_
  refine Run.ops0 (idx := [0, 1, 2, 3, 4]) rfl ?_
  refine Run.go rfl rfl rfl (sem_move ((Value.string s1)) rfl ?_)
  refine Run.go rfl rfl rfl (sem_move ((Value.int .i64 (i4))) rfl ?_)
  refine Run.go rfl rfl rfl (sem_binI .i64 (i4) (1) ((Value.int .i64 (IntKind.wrap .i64 ((i4) - (1))))) rfl rfl rfl ?_)
  obtain ⟨hi0, hi1, hS⟩ := hS
  refine Run.go rfl rfl rfl (sem_indexStr' s1 .i64 (IntKind.wrap .i64 ((i4) - (1))) rfl rfl TF.isStr_9 hi0 hi1 ?_)
  obtain ⟨hT, hF⟩ := hS
  by_cases hb12 : (byteAt s1 (Int.toNat (IntKind.wrap .i64 ((i4) - (1)))) : Int) > (127)
  ·have hS := hT hb12; clear hT hF
   refine Run.go rfl rfl rfl (sem_binI .u8 (byteAt s1 (Int.toNat (IntKind.wrap .i64 ((i4) - (1))))) (127) (.bool true) rfl rfl (binI_gtr_t hb12) ?_)
   refine Run.region_end ?_
   refine Run.condT rfl ?_
   refine Run.exit rfl ?_
   refine Run.ops0 (idx := [0, 1, 2]) rfl ?_
   refine Run.go rfl rfl rfl (sem_move ((Value.int .i64 (i4))) rfl ?_)
   refine Run.go rfl rfl rfl (sem_binI .i64 (i4) (1) ((Value.int .i64 (IntKind.wrap .i64 ((i4) + (1))))) rfl rfl rfl ?_)
   refine Run.go rfl rfl rfl (sem_assign ((Value.int .i64 (IntKind.wrap .i64 ((i4) + (1))))) rfl ?_)
   refine Run.region_end ?_
   exact Run.of_fin (hS.imp fun h' ⟨m', hm, hS⟩ => ih8 ((IntKind.wrap .i64 ((i4) + (1))), m') _ _ ⟨hS, ⟨rfl, rfl, trivial⟩⟩ hm)
  ·have hS := hF hb12; clear hT hF
   refine Run.go rfl rfl rfl (sem_binI .u8 (byteAt s1 (Int.toNat (IntKind.wrap .i64 ((i4) - (1))))) (127) (.bool false) rfl rfl (binI_gtr_f hb12) ?_)
   refine Run.region_end ?_
   refine Run.condF rfl ?_
   refine Run.skip ?_
   refine Run.seq ?_
   refine Run.ops0 (idx := [0]) rfl ?_
   refine Run.go rfl rfl rfl (sem_assign ((Value.int .u64 (0))) rfl ?_)
   refine Run.region_end ?_
   refine Run.seqJ (fun e h15 => ∃ i14 : Int, Agree [(0, (Value.string s1)), (4, (Value.int .i64 (i4))), (5, (Value.int .u64 (i14)))] e ∧ S_countermandref01_Taken_J2 B s1 i4 i14 h15 Q) ?_ fun j13 => ?_
   ·rintro e h15 ⟨i14, hag, hS⟩
    refine Run.env hag ?_; clear hag
    refine Run.seq ?_
    refine Run.seq ?_
    skip
    skip
    skip
    obtain ⟨hi0, hi1, hi2, hS⟩ := hS
    have f20 := hi0; have f21 := hi1; have f22 := hi2
    refine Run.drawM (fun h' => True) [] ⟨[0, 1, 0, 0, 12, 18], [63, 62, 63, 63, 51, 45], [0, 0, 0, 0, 0, 0], 0⟩ (.q 0 (.q 2 (.q 3 (.q 4 (.x 1 (.q 5 .nil) .no))))) TF.mixed (by kernel_rfl) trivial ?_
    refine RunT.quiet rfl rfl rfl (fun h' hC => sem_move ((Value.int .u64 (i14))) rfl ⟨rfl, rfl⟩) ?_
    refine RunT.quiet rfl rfl rfl (fun h' hC => sem_move ((Value.string s1)) rfl ⟨rfl, rfl⟩) ?_
    refine RunT.quiet rfl rfl rfl (fun h' hC => sem_move ((Value.int .i64 (i4))) rfl ⟨rfl, rfl⟩) ?_
    refine RunT.quiet rfl rfl rfl (fun h' hC => sem_sliceStrI s1 (0) (i4) rfl TF.isStr_9 rfl ⟨_, rfl⟩ f20 f21 f22 ⟨rfl, rfl⟩) ?_
    refine ⟨?_, trivial⟩
    refine OpH.go rfl rfl rfl (sem_callL [(Value.int .u64 (i14))] (TF.goes_144) rfl rfl (Spec.mono hS fun v h23 hv => ?_))
    obtain ⟨s24, rfl, hS⟩ := hv
    refine ⟨fun _ => trivial, ?_⟩
    obtain ⟨hT, hF⟩ := hS
    by_cases hb25 : s24 = (ByteArray.extract s1 (Int.toNat (0)) (Int.toNat (i4)))
    ·have hS := hT hb25; clear hT hF
     refine RunT.quiet rfl rfl rfl (fun h' hC => sem_strNeT s24 (ByteArray.extract s1 (Int.toNat (0)) (Int.toNat (i4))) rfl rfl hb25 ⟨rfl, rfl⟩) ?_
     refine Run.condF rfl ?_
     refine Run.skip ?_
     refine Run.seq ?_
     refine Run.ops0 (idx := [0, 1, 2, 3]) rfl ?_
     refine Run.go rfl rfl rfl (sem_move ((Value.int .u64 (i14))) rfl ?_)
     refine Run.go rfl rfl rfl (sem_move ((Value.int .i64 (i4))) rfl ?_)
     refine Run.go rfl rfl rfl (sem_assign ((Value.int .u64 (i14))) rfl ?_)
     refine Run.go rfl rfl rfl (sem_assign ((Value.int .i64 (i4))) rfl ?_)
     refine Run.region_end ?_
     refine Run.ret ⟨.inr rfl, ?_⟩
     exact hS.imp fun h' hq => ⟨(i14), (i4), rfl, hq⟩
    ·have hS := hF hb25; clear hT hF
     refine RunT.quiet rfl rfl rfl (fun h' hC => sem_strNeF s24 (ByteArray.extract s1 (Int.toNat (0)) (Int.toNat (i4))) rfl rfl hb25 ⟨rfl, rfl⟩) ?_
     refine Run.condT rfl ?_
     refine Run.seq ?_
     refine Run.ops0 (idx := [0, 1]) rfl ?_
     refine Run.go rfl rfl rfl (sem_assign ((Value.int .u64 (0))) rfl ?_)
     refine Run.go rfl rfl rfl (sem_assign ((Value.int .i64 (0))) rfl ?_)
     refine Run.region_end ?_
     refine Run.ret ⟨.inr rfl, ?_⟩
     exact hS.imp fun h' hq => ⟨(0), (0), rfl, hq⟩
   refine Run.seq ?_
   refine Run.ops0 (idx := [0, 1, 2]) rfl ?_
   refine Run.go rfl rfl rfl (sem_move ((Value.int .i64 (i4))) rfl ?_)
   refine Run.go rfl rfl rfl (sem_binI .i64 (i4) (1) ((Value.int .i64 (IntKind.wrap .i64 ((i4) - (1))))) rfl rfl rfl ?_)
   refine Run.go rfl rfl rfl (sem_assign ((Value.int .i64 (IntKind.wrap .i64 ((i4) - (1))))) rfl ?_)
   refine Run.region_end ?_
   refine Run.block ?_
   obtain ⟨J32, m30, h0, hS⟩ := hS
   refine Run.of_fin (h0.imp fun h' h0 => ?_)
   refine Run.loop (σ := Int × Int × Nat) (fun x e h => J32 x.1 x.2.1 x.2.2 h ∧ Agree [(0, (Value.string s1)), (4, (Value.int .i64 (i4))), (5, (Value.int .u64 (x.1))), (6, (Value.int .i64 (x.2.1)))] e) (fun x => x.2.2) ((0), (IntKind.wrap .i64 ((i4) - (1))), m30) ⟨h0, ⟨rfl, rfl, rfl, rfl, trivial⟩⟩ ?_; clear h0
   rintro ⟨i26, i27, m29⟩ e h28 ⟨hJ, hag⟩ ih31
   have hS := hS i26 i27 m29 h28 hJ; clear hJ
   refine Run.env hag ?_; clear hag
   refine Run.seq ?_
   refine Run.seq ?_
   refine Run.ops0 (idx := [0, 1]) rfl ?_
   refine Run.go rfl rfl rfl (sem_move ((Value.int .i64 (i27))) rfl ?_)
   obtain ⟨hT, hF⟩ := hS
   by_cases hb33 : (i27 : Int) ≥ (0)
   ·have hS := hT hb33; clear hT hF
    refine Run.go rfl rfl rfl (sem_binI .i64 (i27) (0) (.bool true) rfl rfl (binI_geq_t hb33) ?_)
    refine Run.region_end ?_
    refine Run.condT rfl ?_
    refine Run.skip ?_
    refine Run.seq ?_
    refine Run.block ?_
    refine Run.ops0 (idx := [0, 1, 2, 3, 4, 5, 6, 7, 8]) rfl ?_
    refine Run.go rfl rfl rfl (sem_move ((Value.int .u64 (i26))) rfl ?_)
    refine Run.go rfl rfl rfl (sem_binI .u64 (i26) (128) ((Value.int .u64 (IntKind.wrap .u64 ((i26) * (128))))) rfl rfl rfl ?_)
    refine Run.go rfl rfl rfl (sem_move ((Value.string s1)) rfl ?_)
    refine Run.go rfl rfl rfl (sem_move ((Value.int .i64 (i27))) rfl ?_)
    obtain ⟨hi0, hi1, hS⟩ := hS
    refine Run.go rfl rfl rfl (sem_indexStr' s1 .i64 (i27) rfl rfl TF.isStr_9 hi0 hi1 ?_)
    refine Run.go rfl rfl rfl (sem_convI .u8 .u64 (byteAt s1 (Int.toNat (i27))) rfl TF.int_5 TF.int_202 ?_)
    obtain ⟨hi0, hS⟩ := hS
    refine Run.go rfl rfl rfl (sem_binI .u64 (IntKind.wrap .u64 (byteAt s1 (Int.toNat (i27)))) (128) ((Value.int .u64 (Int.tmod (IntKind.wrap .u64 (byteAt s1 (Int.toNat (i27)))) (128)))) rfl rfl (binI_rem hi0) ?_)
    refine Run.go rfl rfl rfl (sem_binI .u64 (IntKind.wrap .u64 ((i26) * (128))) (Int.tmod (IntKind.wrap .u64 (byteAt s1 (Int.toNat (i27)))) (128)) ((Value.int .u64 (IntKind.wrap .u64 ((IntKind.wrap .u64 ((i26) * (128))) + (Int.tmod (IntKind.wrap .u64 (byteAt s1 (Int.toNat (i27)))) (128)))))) rfl rfl rfl ?_)
    refine Run.go rfl rfl rfl (sem_assign ((Value.int .u64 (IntKind.wrap .u64 ((IntKind.wrap .u64 ((i26) * (128))) + (Int.tmod (IntKind.wrap .u64 (byteAt s1 (Int.toNat (i27)))) (128)))))) rfl ?_)
    refine Run.region_end ?_
    refine Run.inBlock ?_
    refine Run.ops0 (idx := [0, 1, 2]) rfl ?_
    refine Run.go rfl rfl rfl (sem_move ((Value.int .i64 (i27))) rfl ?_)
    refine Run.go rfl rfl rfl (sem_binI .i64 (i27) (1) ((Value.int .i64 (IntKind.wrap .i64 ((i27) - (1))))) rfl rfl rfl ?_)
    refine Run.go rfl rfl rfl (sem_assign ((Value.int .i64 (IntKind.wrap .i64 ((i27) - (1))))) rfl ?_)
    refine Run.region_end ?_
    exact Run.of_fin (hS.imp fun h' ⟨m', hm, hS⟩ => ih31 ((IntKind.wrap .u64 ((IntKind.wrap .u64 ((i26) * (128))) + (Int.tmod (IntKind.wrap .u64 (byteAt s1 (Int.toNat (i27)))) (128)))), (IntKind.wrap .i64 ((i27) - (1))), m') _ _ ⟨hS, ⟨rfl, rfl, rfl, rfl, trivial⟩⟩ hm)
   ·have hS := hF hb33; clear hT hF
    refine Run.go rfl rfl rfl (sem_binI .i64 (i27) (0) (.bool false) rfl rfl (binI_geq_f hb33) ?_)
    refine Run.region_end ?_
    refine Run.condF rfl ?_
    refine Run.exit rfl ?_
    exact Run.of_fin (hS.imp fun h' hS => j13 _ _ ⟨(i26), ⟨rfl, rfl, rfl, trivial⟩, hS⟩)
 refine Run.seq ?_
 refine Run.ops0 (idx := [0, 1, 2, 3, 4, 5, 6, 7]) rfl ?_
 refine Run.go rfl rfl rfl (sem_move ((Value.int .i64 (i4))) rfl ?_)
 obtain ⟨hT, hF⟩ := hS
 by_cases hb34 : (i4 : Int) ≤ (10)
 ·have hS := hT hb34; clear hT hF
  refine Run.go rfl rfl rfl (sem_binI .i64 (i4) (10) (.bool true) rfl rfl (binI_leq_t hb34) ?_)
  refine Run.go rfl rfl rfl (sem_move ((Value.bool true)) rfl ?_)
  refine Run.go rfl rfl rfl (sem_move ((Value.int .i64 (i4))) rfl ?_)
  refine Run.go rfl rfl rfl (sem_move ((Value.string s1)) rfl ?_)
  refine Run.go rfl rfl rfl (sem_lenStr s1 rfl TF.isStr_9 ?_)
  obtain ⟨hT, hF⟩ := hS
  by_cases hb35 : (i4 : Int) ≤ ((ByteArray.size s1 : Nat))
  ·have hS := hT hb35; clear hT hF
   refine Run.go rfl rfl rfl (sem_binI .i64 (i4) ((ByteArray.size s1 : Nat)) (.bool true) rfl rfl (binI_leq_t hb35) ?_)
   refine Run.go rfl rfl rfl (sem_pick true ((Value.bool true)) rfl rfl ?_)
   refine Run.region_end ?_
   refine Run.condT rfl ?_
   refine Run.skip ?_
   exact Run.of_fin (hS.imp fun h' hS => j10 _ _ ⟨⟨rfl, rfl, trivial⟩, hS⟩)
  ·have hS := hF hb35; clear hT hF
   refine Run.go rfl rfl rfl (sem_binI .i64 (i4) ((ByteArray.size s1 : Nat)) (.bool false) rfl rfl (binI_leq_f hb35) ?_)
   refine Run.go rfl rfl rfl (sem_pick true ((Value.bool false)) rfl rfl ?_)
   refine Run.region_end ?_
   refine Run.condF rfl ?_
   refine Run.exit rfl ?_
   refine Run.seq ?_
   refine Run.ops0 (idx := [0, 1]) rfl ?_
   refine Run.go rfl rfl rfl (sem_assign ((Value.int .u64 (0))) rfl ?_)
   refine Run.go rfl rfl rfl (sem_assign ((Value.int .i64 (0))) rfl ?_)
   refine Run.region_end ?_
   refine Run.ret ⟨.inr rfl, ?_⟩
   exact hS.imp fun h' hq => ⟨(0), (0), rfl, hq⟩
 ·have hS := hF hb34; clear hT hF
  refine Run.go rfl rfl rfl (sem_binI .i64 (i4) (10) (.bool false) rfl rfl (binI_leq_f hb34) ?_)
  refine Run.go rfl rfl rfl (sem_move ((Value.bool false)) rfl ?_)
  refine Run.no rfl rfl rfl ?_
  refine Run.no rfl rfl rfl ?_
  refine Run.no rfl rfl rfl ?_
  refine Run.no rfl rfl rfl ?_
  refine Run.go rfl rfl rfl (sem_pick false ((Value.bool false)) rfl rfl ?_)
  refine Run.region_end ?_
  refine Run.condF rfl ?_
  refine Run.exit rfl ?_
  refine Run.seq ?_
  refine Run.ops0 (idx := [0, 1]) rfl ?_
  refine Run.go rfl rfl rfl (sem_assign ((Value.int .u64 (0))) rfl ?_)
  refine Run.go rfl rfl rfl (sem_assign ((Value.int .i64 (0))) rfl ?_)
  refine Run.region_end ?_
  refine Run.ret ⟨.inr rfl, ?_⟩
  exact hS.imp fun h' hq => ⟨(0), (0), rfl, hq⟩
end Go.Proofs.Ythloobpjkeodgaa.H
