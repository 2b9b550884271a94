/- The functions do what they ask for. No condition. -/
import Derived.Test.YthloobpjkeodgaaXwS
namespace Go.Proofs.Ythloobpjkeodgaa.H
open Go
set_option linter.unusedVariables false
set_option maxRecDepth 100000

set_option maxHeartbeats 4000000 in
theorem C_countermandref04_Log_Append.of {B : RO} {p1 : Option Addr} {s2 : ByteArray} {h : Heap} {Q : Int → Heap → Prop} (hS : S_countermandref04_Log_Append B p1 s2 h Q) : C_countermandref04_Log_Append B p1 s2 h Q := by
 unfold S_countermandref04_Log_Append at hS
 unfold C_countermandref04_Log_Append
 refine Spec.of_run Try.func97 (N := 23) (rs := [ResultVar.tmp 4]) rfl rfl rfl (Nat.le_of_ble_eq_true rfl) ?_
 refine Run.seq ?_
 refine Run.ops0 (idx := [0]) rfl ?_
 refine Run.go rfl rfl rfl (sem_assign ((Value.int .i64 (0))) rfl ?_)
 refine Run.region_end ?_
 refine Run.seq ?_
 refine Run.seq ?_
 refine Run.ops0 (idx := [0, 1, 2]) rfl ?_
 refine Run.go rfl rfl rfl (sem_move ((Value.string s2)) rfl ?_)
 refine Run.go rfl rfl rfl (sem_lenStr s2 rfl TF.isStr_9 ?_)
 obtain ⟨hT, hF⟩ := hS
 by_cases hb4 : ((ByteArray.size s2 : Nat) : Int) > (1024)
 ·have hS := hT hb4; clear hT hF
  refine Run.go rfl rfl rfl (sem_binI .i64 ((ByteArray.size s2 : Nat)) (1024) (.bool true) rfl rfl (binI_gtr_t hb4) ?_)
  refine Run.region_end ?_
  refine Run.condT rfl ?_
  refine Run.seq ?_
  refine Run.ops0 (idx := [0]) rfl ?_
  refine Run.go rfl rfl rfl (sem_assign ((Value.int .i64 (3))) rfl ?_)
  refine Run.region_end ?_
  refine Run.ret ⟨.inr rfl, ?_⟩
  exact hS.imp fun h' hq => ⟨(3), rfl, hq⟩
 ·have hS := hF hb4; clear hT hF
  refine Run.go rfl rfl rfl (sem_binI .i64 ((ByteArray.size s2 : Nat)) (1024) (.bool false) rfl rfl (binI_gtr_f hb4) ?_)
  refine Run.region_end ?_
  refine Run.condF rfl ?_
  refine Run.skip ?_
  refine Run.seq ?_
  refine Run.seq ?_
  refine Run.ops0 (idx := [0, 1, 2, 3]) rfl ?_
  refine Run.go rfl rfl rfl (sem_move ((Value.pointer p1)) rfl ?_)
  obtain ⟨A5, e6, hS⟩ := hS
  refine Run.go rfl rfl rfl (sem_nilCheck A5 (congrArg Value.pointer e6) ?_)
  refine Run.go rfl rfl rfl (sem_fieldAddr A5 2 rfl TF.fld_90_2 ?_)
  obtain ⟨b7, hl, hS⟩ := hS
  obtain ⟨hT, hF⟩ := hS
  cases b7
  ·have hS := hF rfl; clear hT hF
   refine Run.go rfl rfl rfl (sem_load1 (Addr.add A5 2) (.bool false) rfl TF.agg_4 hl ?_)
   refine Run.region_end ?_
   refine Run.condF rfl ?_
   refine Run.skip ?_
   refine Run.seq ?_
   skip
   obtain ⟨A9, e10, hS⟩ := hS
   skip
   skip
   obtain ⟨p13, hl, hS⟩ := hS
   have f14 := hl
   skip
   obtain ⟨A16, e17, hS⟩ := hS
   skip
   skip
   obtain ⟨i20, hl, hS⟩ := hS
   have f21 := hl
   skip
   refine Run.drawM (fun h' => cellH B h' A9 = some (Value.pointer p13) ∧ cellH B h' (Addr.add A16 1) = some (Value.int .i64 (i20)) ∧ True) [] ⟨[0, 1, 2, 4, 0, 16, 32, 64, 0, 256, 648, 2047], [4095, 4094, 4093, 4091, 4095, 4079, 4063, 4031, 4095, 3839, 3447, 3071], [0, 0, 0, 0, 0, 0, 0, 0, 0, 0, 0, 0], 0⟩ (.q 0 (.q 1 (.q 2 (.q 3 (.q 4 (.q 5 (.q 6 (.q 7 (.q 8 (.x 9 (.x 10 (.q 11 .nil) .no) .no)))))))))) TF.mixed (by kernel_rfl) ⟨f14, f21, trivial⟩ ?_
   refine RunT.quiet rfl rfl rfl (fun h' hC => sem_move ((Value.pointer p1)) rfl ⟨rfl, rfl⟩) ?_
   refine RunT.quiet rfl rfl rfl (fun h' hC => sem_nilCheck A9 (congrArg Value.pointer e10) ⟨rfl, rfl⟩) ?_
   refine RunT.quiet rfl rfl rfl (fun h' hC => sem_fieldAddr A9 0 rfl TF.fld_90_0 ⟨rfl, rfl⟩) ?_
   refine RunT.quiet rfl rfl rfl (fun h' hC => sem_load1 A9 ((Value.pointer p13)) rfl TF.agg_88 hC.1 ⟨rfl, rfl⟩) ?_
   refine RunT.quiet rfl rfl rfl (fun h' hC => sem_move ((Value.pointer p1)) rfl ⟨rfl, rfl⟩) ?_
   refine RunT.quiet rfl rfl rfl (fun h' hC => sem_nilCheck A16 (congrArg Value.pointer e17) ⟨rfl, rfl⟩) ?_
   refine RunT.quiet rfl rfl rfl (fun h' hC => sem_fieldAddr A16 1 rfl TF.fld_90_1 ⟨rfl, rfl⟩) ?_
   refine RunT.quiet rfl rfl rfl (fun h' hC => sem_load1 (Addr.add A16 1) ((Value.int .i64 (i20))) rfl TF.agg_3 hC.2.1 ⟨rfl, rfl⟩) ?_
   refine RunT.quiet rfl rfl rfl (fun h' hC => sem_move ((Value.string s2)) rfl ⟨rfl, rfl⟩) ?_
   refine ⟨?_, trivial⟩
   refine OpH.go rfl rfl rfl (sem_callL [(Value.string s2)] (TF.goes_136) rfl rfl (Spec.mono hS fun v h23 hv => ?_))
   obtain ⟨s24, rfl, hS⟩ := hv
   obtain ⟨g25, g26, hS⟩ := hS
   refine ⟨fun _ => ⟨g25, g26, trivial⟩, ?_⟩
   refine ⟨?_, trivial⟩
   refine OpH.go rfl rfl rfl (sem_callL [(Value.pointer p13), (Value.int .i64 (i20)), (Value.string s24)] (TF.goes_100) rfl rfl (Spec.mono hS fun v h27 hv => ?_))
   obtain ⟨i28, rfl, hS⟩ := hv
   obtain ⟨g29, g30, hS⟩ := hS
   refine ⟨fun _ => ⟨g29, g30, trivial⟩, ?_⟩
   refine RunT.quiet rfl rfl rfl (fun h' hC => sem_assign ((Value.int .i64 (i28))) rfl ⟨rfl, rfl⟩) ?_
   refine Run.ret ⟨.inr rfl, ?_⟩
   exact hS.imp fun h' hq => ⟨(i28), rfl, hq⟩
  ·have hS := hT rfl; clear hT hF
   refine Run.go rfl rfl rfl (sem_load1 (Addr.add A5 2) (.bool true) rfl TF.agg_4 hl ?_)
   refine Run.region_end ?_
   refine Run.condT rfl ?_
   refine Run.seq ?_
   refine Run.ops0 (idx := [0]) rfl ?_
   refine Run.go rfl rfl rfl (sem_assign ((Value.int .i64 (9))) rfl ?_)
   refine Run.region_end ?_
   refine Run.ret ⟨.inr rfl, ?_⟩
   exact hS.imp fun h' hq => ⟨(9), rfl, hq⟩
set_option maxHeartbeats 4000000 in
theorem C_countermandref04_Log_Clear.of {B : RO} {p1 : Option Addr} {h : Heap} {Q : Heap → Prop} (hS : S_countermandref04_Log_Clear B p1 h Q) : C_countermandref04_Log_Clear B p1 h Q := by
 unfold S_countermandref04_Log_Clear at hS
 unfold C_countermandref04_Log_Clear
 refine Spec.of_run Try.func98 (N := 14) (rs := []) rfl rfl rfl (Nat.le_of_ble_eq_true rfl) ?_
 refine Run.seq ?_
 refine Run.drawM (fun h' => h' = h) [8] ⟨[0, 1, 2, 4, 0, 16, 32, 64, 136], [511, 510, 509, 507, 511, 495, 479, 447, 375], [0, 1, 3, 7, 0, 16, 48, 112, 255], 256⟩ (.q 0 (.q 1 (.q 2 (.q 3 (.q 4 (.q 5 (.q 6 (.q 7 (.x 8 .nil .no))))))))) TF.mixed (by kernel_rfl) rfl ?_
 refine RunT.quiet rfl rfl rfl (quiet_eq (sem_move ((Value.pointer p1)) rfl ⟨rfl, rfl⟩)) ?_
 obtain ⟨A2, e3, hS⟩ := hS
 refine RunT.quiet rfl rfl rfl (quiet_eq (sem_nilCheck A2 (congrArg Value.pointer e3) ⟨rfl, rfl⟩)) ?_
 refine RunT.quiet rfl rfl rfl (quiet_eq (sem_fieldAddr A2 0 rfl TF.fld_90_0 ⟨rfl, rfl⟩)) ?_
 obtain ⟨p4, hl, hS⟩ := hS
 refine RunT.quiet rfl rfl rfl (quiet_eq (sem_load1 A2 ((Value.pointer p4)) rfl TF.agg_88 hl ⟨rfl, rfl⟩)) ?_
 refine RunT.quiet rfl rfl rfl (quiet_eq (sem_move ((Value.pointer p1)) rfl ⟨rfl, rfl⟩)) ?_
 obtain ⟨A5, e6, hS⟩ := hS
 refine RunT.quiet rfl rfl rfl (quiet_eq (sem_nilCheck A5 (congrArg Value.pointer e6) ⟨rfl, rfl⟩)) ?_
 refine RunT.quiet rfl rfl rfl (quiet_eq (sem_fieldAddr A5 1 rfl TF.fld_90_1 ⟨rfl, rfl⟩)) ?_
 obtain ⟨i7, hl, hS⟩ := hS
 refine RunT.quiet rfl rfl rfl (quiet_eq (sem_load1 (Addr.add A5 1) ((Value.int .i64 (i7))) rfl TF.agg_3 hl ⟨rfl, rfl⟩)) ?_
 refine ⟨?_, trivial⟩
 refine OpH.go rfl rfl rfl (sem_callL [(Value.pointer p4), (Value.int .i64 (i7))] (TF.goes_137) rfl rfl (Spec.mono hS fun v h8 hv => ?_))
 obtain ⟨i9, rfl, hS⟩ := hv
 refine ⟨fun hz => Bool.noConfusion hz, ?_⟩
 refine Run.ops0 (idx := [0, 1, 2, 3]) rfl ?_
 refine Run.go rfl rfl rfl (sem_move ((Value.pointer p1)) rfl ?_)
 obtain ⟨A10, e11, hS⟩ := hS
 refine Run.go rfl rfl rfl (sem_nilCheck A10 (congrArg Value.pointer e11) ?_)
 refine Run.go rfl rfl rfl (sem_fieldAddr A10 2 rfl TF.fld_90_2 ?_)
 obtain ⟨h12, hst, hS⟩ := hS
 refine Run.go rfl rfl rfl (sem_store1 (Addr.add A10 2) ((Value.bool false)) h12 rfl rfl rfl TF.sz_4 hst ?_)
 refine Run.region_end ?_
 refine Run.fall ⟨.inl rfl, ?_⟩
 exact hS.imp fun h' hq => ⟨rfl, hq⟩
set_option maxHeartbeats 4000000 in
theorem C_countermandref03_Disk_Crash.of {B : RO} {p1 : Option Addr} {i2 : Int} {i3 : Int} {h : Heap} {Q : Heap → Prop} (hS : S_countermandref03_Disk_Crash B p1 i2 i3 h Q) : C_countermandref03_Disk_Crash B p1 i2 i3 h Q := by
 unfold S_countermandref03_Disk_Crash at hS
 unfold C_countermandref03_Disk_Crash
 refine Spec.of_run Try.func99 (N := 83) (rs := []) rfl rfl rfl (Nat.le_of_ble_eq_true rfl) ?_
 refine Run.seq ?_
 refine Run.drawM (fun h' => h' = h) [] ⟨[0, 1, 2, 4, 0, 16, 32, 64, 136, 511], [1023, 1022, 1021, 1019, 1023, 1007, 991, 959, 887, 767], [0, 0, 0, 0, 0, 0, 0, 0, 0, 0], 0⟩ (.q 0 (.q 1 (.q 2 (.q 3 (.q 4 (.q 5 (.q 6 (.q 7 (.q 8 (.q 9 .nil)))))))))) TF.mixed (by kernel_rfl) rfl ?_
 refine RunT.quiet rfl rfl rfl (quiet_eq (sem_move ((Value.pointer p1)) rfl ⟨rfl, rfl⟩)) ?_
 obtain ⟨A4, e5, hS⟩ := hS
 refine RunT.quiet rfl rfl rfl (quiet_eq (sem_nilCheck A4 (congrArg Value.pointer e5) ⟨rfl, rfl⟩)) ?_
 refine RunT.quiet rfl rfl rfl (quiet_eq (sem_fieldAddr A4 0 rfl TF.fld_94_0 ⟨rfl, rfl⟩)) ?_
 obtain ⟨a6, n7, c8, hl, hS⟩ := hS
 refine RunT.quiet rfl rfl rfl (quiet_eq (sem_load1 A4 ((Value.slice a6 n7 c8)) rfl TF.agg_92 hl ⟨rfl, rfl⟩)) ?_
 refine RunT.quiet rfl rfl rfl (quiet_eq (sem_move ((Value.pointer p1)) rfl ⟨rfl, rfl⟩)) ?_
 obtain ⟨A9, e10, hS⟩ := hS
 refine RunT.quiet rfl rfl rfl (quiet_eq (sem_nilCheck A9 (congrArg Value.pointer e10) ⟨rfl, rfl⟩)) ?_
 refine RunT.quiet rfl rfl rfl (quiet_eq (sem_fieldAddr A9 1 rfl TF.fld_94_1 ⟨rfl, rfl⟩)) ?_
 obtain ⟨i11, hl, hS⟩ := hS
 refine RunT.quiet rfl rfl rfl (quiet_eq (sem_load1 (Addr.add A9 1) ((Value.int .i64 (i11))) rfl TF.agg_3 hl ⟨rfl, rfl⟩)) ?_
 obtain ⟨hi0, hi1, hi2, hS⟩ := hS
 refine RunT.quiet rfl rfl rfl (quiet_eq (sem_sliceSlI a6 n7 c8 (i11) ((n7 : Nat)) rfl TF.slc_92 ⟨_, rfl⟩ rfl hi0 hi1 hi2 ⟨rfl, rfl⟩)) ?_
 refine RunT.quiet rfl rfl rfl (quiet_eq (sem_assign ((Value.slice (if c8 = Int.toNat (i11) then a6 else Option.map (·.add (Int.toNat (i11) * 3)) a6) (Int.toNat ((n7 : Nat)) - Int.toNat (i11)) (c8 - Int.toNat (i11)))) rfl ⟨rfl, rfl⟩)) ?_
 refine Run.seq ?_
 refine Run.ops0 (idx := [0, 1, 2, 3, 4, 5]) rfl ?_
 refine Run.go rfl rfl rfl (sem_move ((Value.int .i64 (i2))) rfl ?_)
 refine Run.go rfl rfl rfl (sem_max .i64 (i2) (0) rfl rfl ?_)
 refine Run.go rfl rfl rfl (sem_move ((Value.slice (if c8 = Int.toNat (i11) then a6 else Option.map (·.add (Int.toNat (i11) * 3)) a6) (Int.toNat ((n7 : Nat)) - Int.toNat (i11)) (c8 - Int.toNat (i11)))) rfl ?_)
 refine Run.go rfl rfl rfl (sem_lenSl (if c8 = Int.toNat (i11) then a6 else Option.map (·.add (Int.toNat (i11) * 3)) a6) (Int.toNat ((n7 : Nat)) - Int.toNat (i11)) (c8 - Int.toNat (i11)) rfl TF.sl_92 ?_)
 refine Run.go rfl rfl rfl (sem_min .i64 (if (0 : Int) > (i2) then (0 : Int) else (i2)) (((Int.toNat ((n7 : Nat)) - Int.toNat (i11)) : Nat)) rfl rfl ?_)
 refine Run.go rfl rfl rfl (sem_assign ((Value.int .i64 (if (((Int.toNat ((n7 : Nat)) - Int.toNat (i11)) : Nat) : Int) < (if (0 : Int) > (i2) then (0 : Int) else (i2)) then (((Int.toNat ((n7 : Nat)) - Int.toNat (i11)) : Nat) : Int) else (if (0 : Int) > (i2) then (0 : Int) else (i2))))) rfl ?_)
 refine Run.region_end ?_
 refine Run.seq ?_
 skip
 obtain ⟨A13, e14, hS⟩ := hS
 skip
 skip
 obtain ⟨a17, n18, c19, hl, hS⟩ := hS
 have f20 := hl
 skip
 obtain ⟨A22, e23, hS⟩ := hS
 skip
 skip
 obtain ⟨i26, hl, hS⟩ := hS
 have f27 := hl
 skip
 skip
 obtain ⟨hi0, hi1, hi2, hS⟩ := hS
 have f31 := hi0; have f32 := hi1; have f33 := hi2
 refine Run.drawM (fun h' => cellH B h' A13 = some (Value.slice a17 n18 c19) ∧ cellH B h' (Addr.add A22 1) = some (Value.int .i64 (i26)) ∧ True) [] ⟨[0, 0, 2, 4, 8, 0, 32, 64, 128, 0, 768, 1040, 2049, 8191], [16383, 16383, 16381, 16379, 16375, 16383, 16351, 16319, 16255, 16383, 15615, 15343, 14334, 12287], [0, 0, 0, 0, 0, 0, 0, 0, 0, 0, 0, 0, 0, 0], 0⟩ (.q 1 (.q 2 (.q 3 (.q 4 (.q 5 (.q 6 (.q 7 (.q 8 (.q 9 (.q 10 (.q 11 (.x 0 (.x 12 (.q 13 .nil) .no) .no)))))))))))) TF.mixed (by kernel_rfl) ⟨f20, f27, trivial⟩ ?_
 refine RunT.quiet rfl rfl rfl (fun h' hC => sem_move ((Value.pointer p1)) rfl ⟨rfl, rfl⟩) ?_
 refine RunT.quiet rfl rfl rfl (fun h' hC => sem_nilCheck A13 (congrArg Value.pointer e14) ⟨rfl, rfl⟩) ?_
 refine RunT.quiet rfl rfl rfl (fun h' hC => sem_fieldAddr A13 0 rfl TF.fld_94_0 ⟨rfl, rfl⟩) ?_
 refine RunT.quiet rfl rfl rfl (fun h' hC => sem_load1 A13 ((Value.slice a17 n18 c19)) rfl TF.agg_92 hC.1 ⟨rfl, rfl⟩) ?_
 refine RunT.quiet rfl rfl rfl (fun h' hC => sem_move ((Value.pointer p1)) rfl ⟨rfl, rfl⟩) ?_
 refine RunT.quiet rfl rfl rfl (fun h' hC => sem_nilCheck A22 (congrArg Value.pointer e23) ⟨rfl, rfl⟩) ?_
 refine RunT.quiet rfl rfl rfl (fun h' hC => sem_fieldAddr A22 1 rfl TF.fld_94_1 ⟨rfl, rfl⟩) ?_
 refine RunT.quiet rfl rfl rfl (fun h' hC => sem_load1 (Addr.add A22 1) ((Value.int .i64 (i26))) rfl TF.agg_3 hC.2.1 ⟨rfl, rfl⟩) ?_
 refine RunT.quiet rfl rfl rfl (fun h' hC => sem_move ((Value.int .i64 (if (((Int.toNat ((n7 : Nat)) - Int.toNat (i11)) : Nat) : Int) < (if (0 : Int) > (i2) then (0 : Int) else (i2)) then (((Int.toNat ((n7 : Nat)) - Int.toNat (i11)) : Nat) : Int) else (if (0 : Int) > (i2) then (0 : Int) else (i2))))) rfl ⟨rfl, rfl⟩) ?_
 refine RunT.quiet rfl rfl rfl (fun h' hC => sem_binI .i64 (i26) (if (((Int.toNat ((n7 : Nat)) - Int.toNat (i11)) : Nat) : Int) < (if (0 : Int) > (i2) then (0 : Int) else (i2)) then (((Int.toNat ((n7 : Nat)) - Int.toNat (i11)) : Nat) : Int) else (if (0 : Int) > (i2) then (0 : Int) else (i2))) ((Value.int .i64 (IntKind.wrap .i64 ((i26) + (if (((Int.toNat ((n7 : Nat)) - Int.toNat (i11)) : Nat) : Int) < (if (0 : Int) > (i2) then (0 : Int) else (i2)) then (((Int.toNat ((n7 : Nat)) - Int.toNat (i11)) : Nat) : Int) else (if (0 : Int) > (i2) then (0 : Int) else (i2))))))) rfl rfl rfl ⟨rfl, rfl⟩) ?_
 refine RunT.quiet rfl rfl rfl (fun h' hC => sem_sliceSlI a17 n18 c19 (0) (IntKind.wrap .i64 ((i26) + (if (((Int.toNat ((n7 : Nat)) - Int.toNat (i11)) : Nat) : Int) < (if (0 : Int) > (i2) then (0 : Int) else (i2)) then (((Int.toNat ((n7 : Nat)) - Int.toNat (i11)) : Nat) : Int) else (if (0 : Int) > (i2) then (0 : Int) else (i2))))) rfl TF.slc_92 rfl ⟨_, rfl⟩ f31 f32 f33 ⟨rfl, rfl⟩) ?_
 refine ⟨?_, trivial⟩
 refine OpH.go rfl rfl rfl (sem_buildSlice0N TF.slc_92 (fun k34 hb1 hb2 h35 hb3 => ?_))
 have hS := hS k34 hb1 hb2 h35 hb3
 obtain ⟨g36, g37, hS⟩ := hS
 refine ⟨fun _ => ⟨g36, g37, trivial⟩, ?_⟩
 refine ⟨?_, trivial⟩
 refine OpH.go rfl rfl rfl (sem_appendL [(Value.slice (some ⟨k34, 0, none⟩) 0 0), (Value.slice (if c19 = Int.toNat (0) then a17 else Option.map (·.add (Int.toNat (0) * 3)) a17) (Int.toNat (IntKind.wrap .i64 ((i26) + (if (((Int.toNat ((n7 : Nat)) - Int.toNat (i11)) : Nat) : Int) < (if (0 : Int) > (i2) then (0 : Int) else (i2)) then (((Int.toNat ((n7 : Nat)) - Int.toNat (i11)) : Nat) : Int) else (if (0 : Int) > (i2) then (0 : Int) else (i2))))) - Int.toNat (0)) (c19 - Int.toNat (0)))] rfl (semH_mono (fun v h38 hv => ?_) hS))
 obtain ⟨a39, n40, c41, rfl, hS⟩ := hv
 obtain ⟨g42, g43, hS⟩ := hS
 refine ⟨fun _ => ⟨g42, g43, trivial⟩, ?_⟩
 refine RunT.quiet rfl rfl rfl (fun h' hC => sem_assign ((Value.slice a39 n40 c41)) rfl ⟨rfl, rfl⟩) ?_
 refine Run.seqJ (fun e h48 => ∃ a45 : Option Addr, ∃ n46 : Nat, ∃ c47 : Nat, Agree [(0, (Value.pointer p1)), (8, (Value.slice a45 n46 c47))] e ∧ S_countermandref03_Disk_Crash_J1 B p1 a45 n46 c47 h48 Q) ?_ fun j44 => ?_
 ·rintro e h48 ⟨a45, n46, c47, hag, hS⟩
  refine Run.env hag ?_; clear hag
  refine Run.seq ?_
  refine Run.ops0 (idx := [0, 1, 2, 3, 4]) rfl ?_
  refine Run.go rfl rfl rfl (sem_move ((Value.pointer p1)) rfl ?_)
  refine Run.go rfl rfl rfl (sem_move ((Value.slice a45 n46 c47)) rfl ?_)
  obtain ⟨A49, e50, hS⟩ := hS
  refine Run.go rfl rfl rfl (sem_nilCheck A49 (congrArg Value.pointer e50) ?_)
  refine Run.go rfl rfl rfl (sem_fieldAddr A49 0 rfl TF.fld_94_0 ?_)
  obtain ⟨h51, hst, hS⟩ := hS
  refine Run.go rfl rfl rfl (sem_store1 A49 ((Value.slice a45 n46 c47)) h51 rfl rfl rfl TF.sz_92 hst ?_)
  refine Run.region_end ?_
  refine Run.ops0 (idx := [0, 1, 2, 3, 4, 5]) rfl ?_
  refine Run.go rfl rfl rfl (sem_move ((Value.pointer p1)) rfl ?_)
  refine Run.go rfl rfl rfl (sem_move ((Value.slice a45 n46 c47)) rfl ?_)
  refine Run.go rfl rfl rfl (sem_lenSl a45 n46 c47 rfl TF.sl_92 ?_)
  obtain ⟨A52, e53, hS⟩ := hS
  refine Run.go rfl rfl rfl (sem_nilCheck A52 (congrArg Value.pointer e53) ?_)
  refine Run.go rfl rfl rfl (sem_fieldAddr A52 1 rfl TF.fld_94_1 ?_)
  obtain ⟨h54, hst, hS⟩ := hS
  refine Run.go rfl rfl rfl (sem_store1 (Addr.add A52 1) ((Value.int .i64 ((n46 : Nat)))) h54 rfl rfl rfl TF.sz_3 hst ?_)
  refine Run.region_end ?_
  refine Run.fall ⟨.inl rfl, ?_⟩
  exact hS.imp fun h' hq => ⟨rfl, hq⟩
 refine Run.seqJ (fun e h57 => ∃ b56 : Bool, Agree [(0, (Value.pointer p1)), (2, (Value.int .i64 (i3))), (6, (Value.slice (if c8 = Int.toNat (i11) then a6 else Option.map (·.add (Int.toNat (i11) * 3)) a6) (Int.toNat ((n7 : Nat)) - Int.toNat (i11)) (c8 - Int.toNat (i11)))), (7, (Value.int .i64 (if (((Int.toNat ((n7 : Nat)) - Int.toNat (i11)) : Nat) : Int) < (if (0 : Int) > (i2) then (0 : Int) else (i2)) then (((Int.toNat ((n7 : Nat)) - Int.toNat (i11)) : Nat) : Int) else (if (0 : Int) > (i2) then (0 : Int) else (i2))))), (8, (Value.slice a39 n40 c41)), (48, (Value.bool b56))] e ∧ S_countermandref03_Disk_Crash_J2 B p1 i2 i3 a6 n7 c8 i11 a39 n40 c41 b56 h57 Q) ?_ fun j55 => ?_
 ·rintro e h57 ⟨b56, hag, hS⟩
  refine Run.env hag ?_; clear hag
  obtain ⟨hT, hF⟩ := hS
  cases b56
  ·have hS := hF rfl; clear hT hF
   refine Run.condF rfl ?_
   refine Run.skip ?_
   exact Run.of_fin (hS.imp fun h' hS => j44 _ _ ⟨a39, n40, c41, ⟨rfl, rfl, trivial⟩, hS⟩)
  ·have hS := hT rfl; clear hT hF
   refine Run.condT rfl ?_
   refine Run.seq ?_
   refine Run.ops0 (idx := [0, 1, 2, 3, 4, 5, 6, 7, 8, 9]) rfl ?_
   refine Run.go rfl rfl rfl (sem_move ((Value.int .i64 (i3))) rfl ?_)
   refine Run.go rfl rfl rfl (sem_max .i64 (i3) (0) rfl rfl ?_)
   refine Run.go rfl rfl rfl (sem_move ((Value.slice (if c8 = Int.toNat (i11) then a6 else Option.map (·.add (Int.toNat (i11) * 3)) a6) (Int.toNat ((n7 : Nat)) - Int.toNat (i11)) (c8 - Int.toNat (i11)))) rfl ?_)
   refine Run.go rfl rfl rfl (sem_move ((Value.int .i64 (if (((Int.toNat ((n7 : Nat)) - Int.toNat (i11)) : Nat) : Int) < (if (0 : Int) > (i2) then (0 : Int) else (i2)) then (((Int.toNat ((n7 : Nat)) - Int.toNat (i11)) : Nat) : Int) else (if (0 : Int) > (i2) then (0 : Int) else (i2))))) rfl ?_)
   obtain ⟨A58, e59, hi0, hi1, hS⟩ := hS
   refine Run.go rfl rfl rfl (sem_indexAddrS A58 (Int.toNat ((n7 : Nat)) - Int.toNat (i11)) (c8 - Int.toNat (i11)) .i64 (if (((Int.toNat ((n7 : Nat)) - Int.toNat (i11)) : Nat) : Int) < (if (0 : Int) > (i2) then (0 : Int) else (i2)) then (((Int.toNat ((n7 : Nat)) - Int.toNat (i11)) : Nat) : Int) else (if (0 : Int) > (i2) then (0 : Int) else (i2))) (congrArg (fun a => Value.slice a (Int.toNat ((n7 : Nat)) - Int.toNat (i11)) (c8 - Int.toNat (i11))) e59) rfl TF.slc_92 hi0 hi1 ?_)
   refine Run.go rfl rfl rfl (sem_fieldAddr (Addr.add A58 (Int.toNat (if (((Int.toNat ((n7 : Nat)) - Int.toNat (i11)) : Nat) : Int) < (if (0 : Int) > (i2) then (0 : Int) else (i2)) then (((Int.toNat ((n7 : Nat)) - Int.toNat (i11)) : Nat) : Int) else (if (0 : Int) > (i2) then (0 : Int) else (i2))) * 3)) 2 rfl TF.fld_189_2 ?_)
   obtain ⟨s60, hl, hS⟩ := hS
   refine Run.go rfl rfl rfl (sem_load1 (Addr.add (Addr.add A58 (Int.toNat (if (((Int.toNat ((n7 : Nat)) - Int.toNat (i11)) : Nat) : Int) < (if (0 : Int) > (i2) then (0 : Int) else (i2)) then (((Int.toNat ((n7 : Nat)) - Int.toNat (i11)) : Nat) : Int) else (if (0 : Int) > (i2) then (0 : Int) else (i2))) * 3)) 2) ((Value.string s60)) rfl TF.agg_9 hl ?_)
   refine Run.go rfl rfl rfl (sem_lenStr s60 rfl TF.isStr_9 ?_)
   refine Run.go rfl rfl rfl (sem_min .i64 (if (0 : Int) > (i3) then (0 : Int) else (i3)) ((ByteArray.size s60 : Nat)) rfl rfl ?_)
   refine Run.go rfl rfl rfl (sem_assign ((Value.int .i64 (if ((ByteArray.size s60 : Nat) : Int) < (if (0 : Int) > (i3) then (0 : Int) else (i3)) then ((ByteArray.size s60 : Nat) : Int) else (if (0 : Int) > (i3) then (0 : Int) else (i3))))) rfl ?_)
   refine Run.region_end ?_
   skip
   skip
   skip
   obtain ⟨A64, e65, hi0, hi1, hS⟩ := hS
   have f67 := hi0; have f68 := hi1
   skip
   obtain ⟨i70, hl, hS⟩ := hS
   have f71 := hl
   skip
   skip
   obtain ⟨A74, e75, hi0, hi1, hS⟩ := hS
   have f77 := hi0; have f78 := hi1
   skip
   obtain ⟨s80, hl, hS⟩ := hS
   have f81 := hl
   skip
   obtain ⟨hi0, hi1, hi2, hS⟩ := hS
   have f84 := hi0; have f85 := hi1; have f86 := hi2
   skip
   refine Run.drawM (fun h' => cellH B h' (Addr.add A64 (Int.toNat (if (((Int.toNat ((n7 : Nat)) - Int.toNat (i11)) : Nat) : Int) < (if (0 : Int) > (i2) then (0 : Int) else (i2)) then (((Int.toNat ((n7 : Nat)) - Int.toNat (i11)) : Nat) : Int) else (if (0 : Int) > (i2) then (0 : Int) else (i2))) * 3)) = some (Value.int .i64 (i70)) ∧ cellH B h' (Addr.add (Addr.add A74 (Int.toNat (if (((Int.toNat ((n7 : Nat)) - Int.toNat (i11)) : Nat) : Int) < (if (0 : Int) > (i2) then (0 : Int) else (i2)) then (((Int.toNat ((n7 : Nat)) - Int.toNat (i11)) : Nat) : Int) else (if (0 : Int) > (i2) then (0 : Int) else (i2))) * 3)) 2) = some (Value.string s80) ∧ True) [] ⟨[0, 0, 0, 6, 8, 16, 0, 0, 192, 256, 512, 0, 3072, 4128, 8192, 16385, 65535], [131071, 131071, 131071, 131065, 131063, 131055, 131071, 131071, 130879, 130815, 130559, 131071, 127999, 126943, 122879, 114686, 98302], [0, 0, 0, 0, 0, 0, 0, 0, 0, 0, 0, 0, 0, 0, 0, 0, 0], 0⟩ (.q 0 (.q 1 (.q 2 (.q 3 (.q 4 (.q 5 (.q 6 (.q 7 (.q 8 (.q 9 (.q 10 (.q 11 (.q 12 (.q 13 (.x 14 (.x 15 (.q 16 .nil) .no) .no))))))))))))))) TF.mixed (by kernel_rfl) ⟨f71, f81, trivial⟩ ?_
   refine RunT.quiet rfl rfl rfl (fun h' hC => sem_move ((Value.slice a39 n40 c41)) rfl ⟨rfl, rfl⟩) ?_
   refine RunT.quiet rfl rfl rfl (fun h' hC => sem_move ((Value.slice (if c8 = Int.toNat (i11) then a6 else Option.map (·.add (Int.toNat (i11) * 3)) a6) (Int.toNat ((n7 : Nat)) - Int.toNat (i11)) (c8 - Int.toNat (i11)))) rfl ⟨rfl, rfl⟩) ?_
   refine RunT.quiet rfl rfl rfl (fun h' hC => sem_move ((Value.int .i64 (if (((Int.toNat ((n7 : Nat)) - Int.toNat (i11)) : Nat) : Int) < (if (0 : Int) > (i2) then (0 : Int) else (i2)) then (((Int.toNat ((n7 : Nat)) - Int.toNat (i11)) : Nat) : Int) else (if (0 : Int) > (i2) then (0 : Int) else (i2))))) rfl ⟨rfl, rfl⟩) ?_
   refine RunT.quiet rfl rfl rfl (fun h' hC => sem_indexAddrS A64 (Int.toNat ((n7 : Nat)) - Int.toNat (i11)) (c8 - Int.toNat (i11)) .i64 (if (((Int.toNat ((n7 : Nat)) - Int.toNat (i11)) : Nat) : Int) < (if (0 : Int) > (i2) then (0 : Int) else (i2)) then (((Int.toNat ((n7 : Nat)) - Int.toNat (i11)) : Nat) : Int) else (if (0 : Int) > (i2) then (0 : Int) else (i2))) (congrArg (fun a => Value.slice a (Int.toNat ((n7 : Nat)) - Int.toNat (i11)) (c8 - Int.toNat (i11))) e65) rfl TF.slc_92 f67 f68 ⟨rfl, rfl⟩) ?_
   refine RunT.quiet rfl rfl rfl (fun h' hC => sem_fieldAddr (Addr.add A64 (Int.toNat (if (((Int.toNat ((n7 : Nat)) - Int.toNat (i11)) : Nat) : Int) < (if (0 : Int) > (i2) then (0 : Int) else (i2)) then (((Int.toNat ((n7 : Nat)) - Int.toNat (i11)) : Nat) : Int) else (if (0 : Int) > (i2) then (0 : Int) else (i2))) * 3)) 0 rfl TF.fld_189_0 ⟨rfl, rfl⟩) ?_
   refine RunT.quiet rfl rfl rfl (fun h' hC => sem_load1 (Addr.add A64 (Int.toNat (if (((Int.toNat ((n7 : Nat)) - Int.toNat (i11)) : Nat) : Int) < (if (0 : Int) > (i2) then (0 : Int) else (i2)) then (((Int.toNat ((n7 : Nat)) - Int.toNat (i11)) : Nat) : Int) else (if (0 : Int) > (i2) then (0 : Int) else (i2))) * 3)) ((Value.int .i64 (i70))) rfl TF.agg_3 hC.1 ⟨rfl, rfl⟩) ?_
   refine RunT.quiet rfl rfl rfl (fun h' hC => sem_move ((Value.slice (if c8 = Int.toNat (i11) then a6 else Option.map (·.add (Int.toNat (i11) * 3)) a6) (Int.toNat ((n7 : Nat)) - Int.toNat (i11)) (c8 - Int.toNat (i11)))) rfl ⟨rfl, rfl⟩) ?_
   refine RunT.quiet rfl rfl rfl (fun h' hC => sem_move ((Value.int .i64 (if (((Int.toNat ((n7 : Nat)) - Int.toNat (i11)) : Nat) : Int) < (if (0 : Int) > (i2) then (0 : Int) else (i2)) then (((Int.toNat ((n7 : Nat)) - Int.toNat (i11)) : Nat) : Int) else (if (0 : Int) > (i2) then (0 : Int) else (i2))))) rfl ⟨rfl, rfl⟩) ?_
   refine RunT.quiet rfl rfl rfl (fun h' hC => sem_indexAddrS A74 (Int.toNat ((n7 : Nat)) - Int.toNat (i11)) (c8 - Int.toNat (i11)) .i64 (if (((Int.toNat ((n7 : Nat)) - Int.toNat (i11)) : Nat) : Int) < (if (0 : Int) > (i2) then (0 : Int) else (i2)) then (((Int.toNat ((n7 : Nat)) - Int.toNat (i11)) : Nat) : Int) else (if (0 : Int) > (i2) then (0 : Int) else (i2))) (congrArg (fun a => Value.slice a (Int.toNat ((n7 : Nat)) - Int.toNat (i11)) (c8 - Int.toNat (i11))) e75) rfl TF.slc_92 f77 f78 ⟨rfl, rfl⟩) ?_
   refine RunT.quiet rfl rfl rfl (fun h' hC => sem_fieldAddr (Addr.add A74 (Int.toNat (if (((Int.toNat ((n7 : Nat)) - Int.toNat (i11)) : Nat) : Int) < (if (0 : Int) > (i2) then (0 : Int) else (i2)) then (((Int.toNat ((n7 : Nat)) - Int.toNat (i11)) : Nat) : Int) else (if (0 : Int) > (i2) then (0 : Int) else (i2))) * 3)) 2 rfl TF.fld_189_2 ⟨rfl, rfl⟩) ?_
   refine RunT.quiet rfl rfl rfl (fun h' hC => sem_load1 (Addr.add (Addr.add A74 (Int.toNat (if (((Int.toNat ((n7 : Nat)) - Int.toNat (i11)) : Nat) : Int) < (if (0 : Int) > (i2) then (0 : Int) else (i2)) then (((Int.toNat ((n7 : Nat)) - Int.toNat (i11)) : Nat) : Int) else (if (0 : Int) > (i2) then (0 : Int) else (i2))) * 3)) 2) ((Value.string s80)) rfl TF.agg_9 hC.2.1 ⟨rfl, rfl⟩) ?_
   refine RunT.quiet rfl rfl rfl (fun h' hC => sem_move ((Value.int .i64 (if ((ByteArray.size s60 : Nat) : Int) < (if (0 : Int) > (i3) then (0 : Int) else (i3)) then ((ByteArray.size s60 : Nat) : Int) else (if (0 : Int) > (i3) then (0 : Int) else (i3))))) rfl ⟨rfl, rfl⟩) ?_
   refine RunT.quiet rfl rfl rfl (fun h' hC => sem_sliceStrI s80 (0) (if ((ByteArray.size s60 : Nat) : Int) < (if (0 : Int) > (i3) then (0 : Int) else (i3)) then ((ByteArray.size s60 : Nat) : Int) else (if (0 : Int) > (i3) then (0 : Int) else (i3))) rfl TF.isStr_9 rfl ⟨_, rfl⟩ f84 f85 f86 ⟨rfl, rfl⟩) ?_
   refine RunT.quiet rfl rfl rfl (fun h' hC => sem_buildSL [(0, (Value.int .i64 (i70))), (2, (Value.string (ByteArray.extract s80 (Int.toNat (0)) (Int.toNat (if ((ByteArray.size s60 : Nat) : Int) < (if (0 : Int) > (i3) then (0 : Int) else (i3)) then ((ByteArray.size s60 : Nat) : Int) else (if (0 : Int) > (i3) then (0 : Int) else (i3)))))))] [(Value.int .i64 (i70)), (Value.bool false), (Value.string (ByteArray.extract s80 (Int.toNat (0)) (Int.toNat (if ((ByteArray.size s60 : Nat) : Int) < (if (0 : Int) > (i3) then (0 : Int) else (i3)) then ((ByteArray.size s60 : Nat) : Int) else (if (0 : Int) > (i3) then (0 : Int) else (i3))))))] TF.zero_189 TF.places_189 rfl rfl ⟨rfl, rfl⟩) ?_
   refine ⟨?_, trivial⟩
   refine OpH.go rfl rfl rfl (sem_buildSliceL [(0, (Value.agg #[(Value.int .i64 (i70)), (Value.bool false), (Value.string (ByteArray.extract s80 (Int.toNat (0)) (Int.toNat (if ((ByteArray.size s60 : Nat) : Int) < (if (0 : Int) > (i3) then (0 : Int) else (i3)) then ((ByteArray.size s60 : Nat) : Int) else (if (0 : Int) > (i3) then (0 : Int) else (i3))))))]))] [(Value.int .i64 (i70)), (Value.bool false), (Value.string (ByteArray.extract s80 (Int.toNat (0)) (Int.toNat (if ((ByteArray.size s60 : Nat) : Int) < (if (0 : Int) > (i3) then (0 : Int) else (i3)) then ((ByteArray.size s60 : Nat) : Int) else (if (0 : Int) > (i3) then (0 : Int) else (i3))))))] TF.slc_92 TF.zero_189 rfl (by decide) (by decide) rfl rfl (fun k88 hb1 hb2 h89 hb3 => ?_))
   have hS := hS k88 hb1 hb2 h89 hb3
   obtain ⟨g90, g91, hS⟩ := hS
   refine ⟨fun _ => ⟨g90, g91, trivial⟩, ?_⟩
   refine ⟨?_, trivial⟩
   refine OpH.go rfl rfl rfl (sem_appendL [(Value.slice a39 n40 c41), (Value.slice (some ⟨k88, 0, none⟩) 1 1)] rfl (semH_mono (fun v h92 hv => ?_) hS))
   obtain ⟨a93, n94, c95, rfl, hS⟩ := hv
   obtain ⟨g96, g97, hS⟩ := hS
   refine ⟨fun _ => ⟨g96, g97, trivial⟩, ?_⟩
   refine RunT.quiet rfl rfl rfl (fun h' hC => sem_assign ((Value.slice a93 n94 c95)) rfl ⟨rfl, rfl⟩) ?_
   exact Run.of_fin (hS.imp fun h' hS => j44 _ _ ⟨a93, n94, c95, ⟨rfl, rfl, trivial⟩, hS⟩)
 refine Run.ops0 (idx := [0, 1, 2, 3, 4, 5, 6, 7, 8, 9, 10, 11]) rfl ?_
 refine Run.go rfl rfl rfl (sem_move ((Value.int .i64 (if (((Int.toNat ((n7 : Nat)) - Int.toNat (i11)) : Nat) : Int) < (if (0 : Int) > (i2) then (0 : Int) else (i2)) then (((Int.toNat ((n7 : Nat)) - Int.toNat (i11)) : Nat) : Int) else (if (0 : Int) > (i2) then (0 : Int) else (i2))))) rfl ?_)
 refine Run.go rfl rfl rfl (sem_move ((Value.slice (if c8 = Int.toNat (i11) then a6 else Option.map (·.add (Int.toNat (i11) * 3)) a6) (Int.toNat ((n7 : Nat)) - Int.toNat (i11)) (c8 - Int.toNat (i11)))) rfl ?_)
 refine Run.go rfl rfl rfl (sem_lenSl (if c8 = Int.toNat (i11) then a6 else Option.map (·.add (Int.toNat (i11) * 3)) a6) (Int.toNat ((n7 : Nat)) - Int.toNat (i11)) (c8 - Int.toNat (i11)) rfl TF.sl_92 ?_)
 obtain ⟨hT, hF⟩ := hS
 by_cases hb98 : (if (((Int.toNat ((n7 : Nat)) - Int.toNat (i11)) : Nat) : Int) < (if (0 : Int) > (i2) then (0 : Int) else (i2)) then (((Int.toNat ((n7 : Nat)) - Int.toNat (i11)) : Nat) : Int) else (if (0 : Int) > (i2) then (0 : Int) else (i2)) : Int) < (((Int.toNat ((n7 : Nat)) - Int.toNat (i11)) : Nat))
 ·have hS := hT hb98; clear hT hF
  refine Run.go rfl rfl rfl (sem_binI .i64 (if (((Int.toNat ((n7 : Nat)) - Int.toNat (i11)) : Nat) : Int) < (if (0 : Int) > (i2) then (0 : Int) else (i2)) then (((Int.toNat ((n7 : Nat)) - Int.toNat (i11)) : Nat) : Int) else (if (0 : Int) > (i2) then (0 : Int) else (i2))) (((Int.toNat ((n7 : Nat)) - Int.toNat (i11)) : Nat)) (.bool true) rfl rfl (binI_lss_t hb98) ?_)
  refine Run.go rfl rfl rfl (sem_move ((Value.bool true)) rfl ?_)
  refine Run.go rfl rfl rfl (sem_move ((Value.slice (if c8 = Int.toNat (i11) then a6 else Option.map (·.add (Int.toNat (i11) * 3)) a6) (Int.toNat ((n7 : Nat)) - Int.toNat (i11)) (c8 - Int.toNat (i11)))) rfl ?_)
  refine Run.go rfl rfl rfl (sem_move ((Value.int .i64 (if (((Int.toNat ((n7 : Nat)) - Int.toNat (i11)) : Nat) : Int) < (if (0 : Int) > (i2) then (0 : Int) else (i2)) then (((Int.toNat ((n7 : Nat)) - Int.toNat (i11)) : Nat) : Int) else (if (0 : Int) > (i2) then (0 : Int) else (i2))))) rfl ?_)
  obtain ⟨A99, e100, hi0, hi1, hS⟩ := hS
  refine Run.go rfl rfl rfl (sem_indexAddrS A99 (Int.toNat ((n7 : Nat)) - Int.toNat (i11)) (c8 - Int.toNat (i11)) .i64 (if (((Int.toNat ((n7 : Nat)) - Int.toNat (i11)) : Nat) : Int) < (if (0 : Int) > (i2) then (0 : Int) else (i2)) then (((Int.toNat ((n7 : Nat)) - Int.toNat (i11)) : Nat) : Int) else (if (0 : Int) > (i2) then (0 : Int) else (i2))) (congrArg (fun a => Value.slice a (Int.toNat ((n7 : Nat)) - Int.toNat (i11)) (c8 - Int.toNat (i11))) e100) rfl TF.slc_92 hi0 hi1 ?_)
  refine Run.go rfl rfl rfl (sem_fieldAddr (Addr.add A99 (Int.toNat (if (((Int.toNat ((n7 : Nat)) - Int.toNat (i11)) : Nat) : Int) < (if (0 : Int) > (i2) then (0 : Int) else (i2)) then (((Int.toNat ((n7 : Nat)) - Int.toNat (i11)) : Nat) : Int) else (if (0 : Int) > (i2) then (0 : Int) else (i2))) * 3)) 1 rfl TF.fld_189_1 ?_)
  obtain ⟨b101, hl, hS⟩ := hS
  obtain ⟨hT, hF⟩ := hS
  cases b101
  ·have hS := hF rfl; clear hT hF
   refine Run.go rfl rfl rfl (sem_load1 (Addr.add (Addr.add A99 (Int.toNat (if (((Int.toNat ((n7 : Nat)) - Int.toNat (i11)) : Nat) : Int) < (if (0 : Int) > (i2) then (0 : Int) else (i2)) then (((Int.toNat ((n7 : Nat)) - Int.toNat (i11)) : Nat) : Int) else (if (0 : Int) > (i2) then (0 : Int) else (i2))) * 3)) 1) (.bool false) rfl TF.agg_4 hl ?_)
   refine Run.go rfl rfl rfl (sem_not false rfl ?_)
   refine Run.go rfl rfl rfl (sem_pick true ((Value.bool true)) rfl rfl ?_)
   refine Run.region_end ?_
   exact Run.of_fin (hS.imp fun h' hS => j55 _ _ ⟨(true), ⟨rfl, rfl, rfl, rfl, rfl, rfl, trivial⟩, hS⟩)
  ·have hS := hT rfl; clear hT hF
   refine Run.go rfl rfl rfl (sem_load1 (Addr.add (Addr.add A99 (Int.toNat (if (((Int.toNat ((n7 : Nat)) - Int.toNat (i11)) : Nat) : Int) < (if (0 : Int) > (i2) then (0 : Int) else (i2)) then (((Int.toNat ((n7 : Nat)) - Int.toNat (i11)) : Nat) : Int) else (if (0 : Int) > (i2) then (0 : Int) else (i2))) * 3)) 1) (.bool true) rfl TF.agg_4 hl ?_)
   refine Run.go rfl rfl rfl (sem_not true rfl ?_)
   refine Run.go rfl rfl rfl (sem_pick true ((Value.bool false)) rfl rfl ?_)
   refine Run.region_end ?_
   exact Run.of_fin (hS.imp fun h' hS => j55 _ _ ⟨(false), ⟨rfl, rfl, rfl, rfl, rfl, rfl, trivial⟩, hS⟩)
 ·have hS := hF hb98; clear hT hF
  refine Run.go rfl rfl rfl (sem_binI .i64 (if (((Int.toNat ((n7 : Nat)) - Int.toNat (i11)) : Nat) : Int) < (if (0 : Int) > (i2) then (0 : Int) else (i2)) then (((Int.toNat ((n7 : Nat)) - Int.toNat (i11)) : Nat) : Int) else (if (0 : Int) > (i2) then (0 : Int) else (i2))) (((Int.toNat ((n7 : Nat)) - Int.toNat (i11)) : Nat)) (.bool false) rfl rfl (binI_lss_f hb98) ?_)
  refine Run.go rfl rfl rfl (sem_move ((Value.bool false)) rfl ?_)
  refine Run.no rfl rfl rfl ?_
  refine Run.no rfl rfl rfl ?_
  refine Run.no rfl rfl rfl ?_
  refine Run.no rfl rfl rfl ?_
  refine Run.no rfl rfl rfl ?_
  refine Run.no rfl rfl rfl ?_
  refine Run.go rfl rfl rfl (sem_pick false ((Value.bool false)) rfl rfl ?_)
  refine Run.region_end ?_
  exact Run.of_fin (hS.imp fun h' hS => j55 _ _ ⟨(false), ⟨rfl, rfl, rfl, rfl, rfl, rfl, trivial⟩, hS⟩)
set_option maxHeartbeats 4000000 in
theorem C_countermandref03_Disk_Append.of {B : RO} {p1 : Option Addr} {i2 : Int} {s3 : ByteArray} {h : Heap} {Q : Int → Heap → Prop} (hS : S_countermandref03_Disk_Append B p1 i2 s3 h Q) : C_countermandref03_Disk_Append B p1 i2 s3 h Q := by
 unfold S_countermandref03_Disk_Append at hS
 unfold C_countermandref03_Disk_Append
 refine Spec.of_run Try.func100 (N := 40) (rs := [ResultVar.tmp 6]) rfl rfl rfl (Nat.le_of_ble_eq_true rfl) ?_
 refine Run.seq ?_
 refine Run.ops0 (idx := [0]) rfl ?_
 refine Run.go rfl rfl rfl (sem_assign ((Value.int .i64 (0))) rfl ?_)
 refine Run.region_end ?_
 refine Run.seqJ (fun e h6 => Agree [(0, (Value.pointer p1)), (1, (Value.int .i64 (i2))), (2, (Value.string s3))] e ∧ S_countermandref03_Disk_Append_J1 B p1 i2 s3 h6 Q) ?_ fun j5 => ?_
 ·rintro e h6 ⟨hag, hS⟩
  refine Run.env hag ?_; clear hag
  refine Run.seq ?_
  refine Run.seq ?_
  refine Run.ops0 (idx := [0, 1, 2, 3, 4, 5, 6, 7, 8, 9, 10, 11, 12]) rfl ?_
  refine Run.go rfl rfl rfl (sem_move ((Value.pointer p1)) rfl ?_)
  refine Run.go rfl rfl rfl (sem_move ((Value.int .i64 (i2))) rfl ?_)
  refine Run.go rfl rfl rfl (sem_move ((Value.pointer p1)) rfl ?_)
  obtain ⟨A7, e8, hS⟩ := hS
  refine Run.go rfl rfl rfl (sem_nilCheck A7 (congrArg Value.pointer e8) ?_)
  refine Run.go rfl rfl rfl (sem_fieldAddr A7 0 rfl TF.fld_94_0 ?_)
  refine Run.ldSl hS fun a9 n10 c11 h12 hl hS => ?_
  refine Run.go rfl rfl rfl (sem_load1 A7 ((Value.slice a9 n10 c11)) rfl TF.agg_92 hl ?_)
  refine Run.go rfl rfl rfl (sem_lenSl a9 n10 c11 rfl TF.sl_92 ?_)
  refine Run.go rfl rfl rfl (sem_callL [(Value.pointer p1), (Value.int .i64 (i2)), (Value.int .i64 ((n10 : Nat)))] (TF.goes_58) rfl rfl (Spec.mono hS fun v h13 hv => ?_))
  obtain ⟨s14, rfl, hS⟩ := hv
  refine Run.go rfl rfl rfl (sem_lenStr s14 rfl TF.isStr_9 ?_)
  refine Run.go rfl rfl rfl (sem_move ((Value.string s3)) rfl ?_)
  refine Run.go rfl rfl rfl (sem_lenStr s3 rfl TF.isStr_9 ?_)
  refine Run.go rfl rfl rfl (sem_binI .i64 ((ByteArray.size s14 : Nat)) ((ByteArray.size s3 : Nat)) ((Value.int .i64 (IntKind.wrap .i64 (((ByteArray.size s14 : Nat)) + ((ByteArray.size s3 : Nat)))))) rfl rfl rfl ?_)
  obtain ⟨hT, hF⟩ := hS
  by_cases hb15 : (IntKind.wrap .i64 (((ByteArray.size s14 : Nat)) + ((ByteArray.size s3 : Nat))) : Int) > (16384)
  ·have hS := hT hb15; clear hT hF
   refine Run.go rfl rfl rfl (sem_binI .i64 (IntKind.wrap .i64 (((ByteArray.size s14 : Nat)) + ((ByteArray.size s3 : Nat)))) (16384) (.bool true) rfl rfl (binI_gtr_t hb15) ?_)
   refine Run.region_end ?_
   refine Run.condT rfl ?_
   refine Run.seq ?_
   refine Run.ops0 (idx := [0]) rfl ?_
   refine Run.go rfl rfl rfl (sem_assign ((Value.int .i64 (6))) rfl ?_)
   refine Run.region_end ?_
   refine Run.ret ⟨.inr rfl, ?_⟩
   exact hS.imp fun h' hq => ⟨(6), rfl, hq⟩
  ·have hS := hF hb15; clear hT hF
   refine Run.go rfl rfl rfl (sem_binI .i64 (IntKind.wrap .i64 (((ByteArray.size s14 : Nat)) + ((ByteArray.size s3 : Nat)))) (16384) (.bool false) rfl rfl (binI_gtr_f hb15) ?_)
   refine Run.region_end ?_
   refine Run.condF rfl ?_
   refine Run.skip ?_
   refine Run.seq ?_
   refine Run.ops0 (idx := [0, 1, 2, 3, 4, 5, 6, 7, 8, 9, 10, 11, 12, 13, 14]) rfl ?_
   refine Run.go rfl rfl rfl (sem_move ((Value.pointer p1)) rfl ?_)
   refine Run.go rfl rfl rfl (sem_buildSlice0N TF.slc_92 (fun k16 hb1 hb2 h17 hb3 => ?_))
   have hS := hS k16 hb1 hb2 h17 hb3
   refine Run.go rfl rfl rfl (sem_move ((Value.pointer p1)) rfl ?_)
   obtain ⟨A18, e19, hS⟩ := hS
   refine Run.go rfl rfl rfl (sem_nilCheck A18 (congrArg Value.pointer e19) ?_)
   refine Run.go rfl rfl rfl (sem_fieldAddr A18 0 rfl TF.fld_94_0 ?_)
   refine Run.ldSl hS fun a20 n21 c22 h23 hl hS => ?_
   refine Run.go rfl rfl rfl (sem_load1 A18 ((Value.slice a20 n21 c22)) rfl TF.agg_92 hl ?_)
   refine Run.go rfl rfl rfl (sem_appendL [(Value.slice (some ⟨k16, 0, none⟩) 0 0), (Value.slice a20 n21 c22)] rfl (semH_mono (fun v h24 hv => ?_) hS))
   obtain ⟨a25, n26, c27, rfl, hS⟩ := hv
   refine Run.go rfl rfl rfl (sem_move ((Value.int .i64 (i2))) rfl ?_)
   refine Run.go rfl rfl rfl (sem_move ((Value.string s3)) rfl ?_)
   refine Run.go rfl rfl rfl (sem_buildSL [(0, (Value.int .i64 (i2))), (2, (Value.string s3))] [(Value.int .i64 (i2)), (Value.bool false), (Value.string s3)] TF.zero_189 TF.places_189 rfl rfl ?_)
   refine Run.go rfl rfl rfl (sem_buildSliceL [(0, (Value.agg #[(Value.int .i64 (i2)), (Value.bool false), (Value.string s3)]))] [(Value.int .i64 (i2)), (Value.bool false), (Value.string s3)] TF.slc_92 TF.zero_189 rfl (by decide) (by decide) rfl rfl (fun k28 hb1 hb2 h29 hb3 => ?_))
   have hS := hS k28 hb1 hb2 h29 hb3
   refine Run.go rfl rfl rfl (sem_appendL [(Value.slice a25 n26 c27), (Value.slice (some ⟨k28, 0, none⟩) 1 1)] rfl (semH_mono (fun v h30 hv => ?_) hS))
   obtain ⟨a31, n32, c33, rfl, hS⟩ := hv
   obtain ⟨A34, e35, hS⟩ := hS
   refine Run.go rfl rfl rfl (sem_nilCheck A34 (congrArg Value.pointer e35) ?_)
   refine Run.go rfl rfl rfl (sem_fieldAddr A34 0 rfl TF.fld_94_0 ?_)
   obtain ⟨h36, hst, hS⟩ := hS
   refine Run.go rfl rfl rfl (sem_store1 A34 ((Value.slice a31 n32 c33)) h36 rfl rfl rfl TF.sz_92 hst ?_)
   refine Run.region_end ?_
   refine Run.seq ?_
   refine Run.ops0 (idx := [0]) rfl ?_
   refine Run.go rfl rfl rfl (sem_assign ((Value.int .i64 (0))) rfl ?_)
   refine Run.region_end ?_
   refine Run.ret ⟨.inr rfl, ?_⟩
   exact hS.imp fun h' hq => ⟨(0), rfl, hq⟩
 refine Run.seq ?_
 refine Run.ops0 (idx := [0, 1, 2, 3, 4, 5]) rfl ?_
 refine Run.go rfl rfl rfl (sem_move ((Value.int .i64 (i2))) rfl ?_)
 obtain ⟨hT, hF⟩ := hS
 by_cases hb37 : (i2 : Int) = 0
 ·have hS := hT hb37; clear hT hF
  refine Run.go rfl rfl rfl (sem_binI .i64 (i2) (0) (.bool false) rfl rfl (binI_neq_t hb37) ?_)
  refine Run.go rfl rfl rfl (sem_move ((Value.bool false)) rfl ?_)
  refine Run.no rfl rfl rfl ?_
  refine Run.no rfl rfl rfl ?_
  refine Run.go rfl rfl rfl (sem_pick false ((Value.bool false)) rfl rfl ?_)
  refine Run.region_end ?_
  refine Run.condF rfl ?_
  refine Run.skip ?_
  exact Run.of_fin (hS.imp fun h' hS => j5 _ _ ⟨⟨rfl, rfl, rfl, trivial⟩, hS⟩)
 ·have hS := hF hb37; clear hT hF
  refine Run.go rfl rfl rfl (sem_binI .i64 (i2) (0) (.bool true) rfl rfl (binI_neq_f hb37) ?_)
  refine Run.go rfl rfl rfl (sem_move ((Value.bool true)) rfl ?_)
  refine Run.go rfl rfl rfl (sem_move ((Value.int .i64 (i2))) rfl ?_)
  obtain ⟨hT, hF⟩ := hS
  by_cases hb38 : (i2 : Int) = 1
  ·have hS := hT hb38; clear hT hF
   refine Run.go rfl rfl rfl (sem_binI .i64 (i2) (1) (.bool false) rfl rfl (binI_neq_t hb38) ?_)
   refine Run.go rfl rfl rfl (sem_pick true ((Value.bool false)) rfl rfl ?_)
   refine Run.region_end ?_
   refine Run.condF rfl ?_
   refine Run.skip ?_
   exact Run.of_fin (hS.imp fun h' hS => j5 _ _ ⟨⟨rfl, rfl, rfl, trivial⟩, hS⟩)
  ·have hS := hF hb38; clear hT hF
   refine Run.go rfl rfl rfl (sem_binI .i64 (i2) (1) (.bool true) rfl rfl (binI_neq_f hb38) ?_)
   refine Run.go rfl rfl rfl (sem_pick true ((Value.bool true)) rfl rfl ?_)
   refine Run.region_end ?_
   refine Run.condT rfl ?_
   refine Run.seq ?_
   refine Run.ops0 (idx := [0]) rfl ?_
   refine Run.go rfl rfl rfl (sem_assign ((Value.int .i64 (1))) rfl ?_)
   refine Run.region_end ?_
   refine Run.ret ⟨.inr rfl, ?_⟩
   exact hS.imp fun h' hq => ⟨(1), rfl, hq⟩
set_option maxHeartbeats 4000000 in
theorem C_countermandref02_Open.of {B : RO} {s1 : ByteArray} {h : Heap} {Q : ByteArray → Int → Heap → Prop} (hS : S_countermandref02_Open B s1 h Q) : C_countermandref02_Open B s1 h Q := by
 unfold S_countermandref02_Open at hS
 unfold C_countermandref02_Open
 refine Spec.of_run Try.func101 (N := 40) (rs := [ResultVar.tmp 2, ResultVar.tmp 3]) rfl rfl rfl (Nat.le_of_ble_eq_true rfl) ?_
 refine Run.seq ?_
 refine Run.ops0 (idx := [0, 1]) rfl ?_
 refine Run.go rfl rfl rfl (sem_assign ((Value.string (ByteArray.mk #[]))) rfl ?_)
 refine Run.go rfl rfl rfl (sem_assign ((Value.int .i64 (0))) rfl ?_)
 refine Run.region_end ?_
 refine Run.seq ?_
 refine Run.seq ?_
 refine Run.ops0 (idx := [0, 1, 2]) rfl ?_
 refine Run.go rfl rfl rfl (sem_move ((Value.string s1)) rfl ?_)
 refine Run.go rfl rfl rfl (sem_lenStr s1 rfl TF.isStr_9 ?_)
 obtain ⟨hT, hF⟩ := hS
 by_cases hb4 : ((ByteArray.size s1 : Nat) : Int) < (6)
 ·have hS := hT hb4; clear hT hF
  refine Run.go rfl rfl rfl (sem_binI .i64 ((ByteArray.size s1 : Nat)) (6) (.bool true) rfl rfl (binI_lss_t hb4) ?_)
  refine Run.region_end ?_
  refine Run.condT rfl ?_
  refine Run.seq ?_
  refine Run.ops0 (idx := [0, 1]) rfl ?_
  refine Run.go rfl rfl rfl (sem_assign ((Value.string (ByteArray.mk #[]))) rfl ?_)
  refine Run.go rfl rfl rfl (sem_assign ((Value.int .i64 (0))) rfl ?_)
  refine Run.region_end ?_
  refine Run.ret ⟨.inr rfl, ?_⟩
  exact hS.imp fun h' hq => ⟨(ByteArray.mk #[]), (0), rfl, hq⟩
 ·have hS := hF hb4; clear hT hF
  refine Run.go rfl rfl rfl (sem_binI .i64 ((ByteArray.size s1 : Nat)) (6) (.bool false) rfl rfl (binI_lss_f hb4) ?_)
  refine Run.region_end ?_
  refine Run.condF rfl ?_
  refine Run.skip ?_
  refine Run.seq ?_
  refine Run.drawM (fun h' => h' = h) [] ⟨[0, 1, 2, 4, 0, 16, 32, 72, 255], [511, 510, 509, 507, 511, 495, 479, 439, 383], [0, 0, 0, 0, 0, 0, 0, 0, 0], 0⟩ (.q 0 (.q 1 (.q 2 (.q 3 (.q 4 (.q 5 (.q 6 (.q 7 (.q 8 .nil))))))))) TF.mixed (by kernel_rfl) rfl ?_
  refine RunT.quiet rfl rfl rfl (quiet_eq (sem_move ((Value.string s1)) rfl ⟨rfl, rfl⟩)) ?_
  obtain ⟨hi0, hi1, hS⟩ := hS
  refine RunT.quiet rfl rfl rfl (quiet_eq (sem_indexStr' s1 .i64 (0) rfl rfl TF.isStr_9 hi0 hi1 ⟨rfl, rfl⟩)) ?_
  refine RunT.quiet rfl rfl rfl (quiet_eq (sem_convI .u8 .i64 (byteAt s1 (Int.toNat (0))) rfl TF.int_5 TF.int_3 ⟨rfl, rfl⟩)) ?_
  refine RunT.quiet rfl rfl rfl (quiet_eq (sem_binI .i64 (256) (IntKind.wrap .i64 (byteAt s1 (Int.toNat (0)))) ((Value.int .i64 (IntKind.wrap .i64 ((256) * (IntKind.wrap .i64 (byteAt s1 (Int.toNat (0)))))))) rfl rfl rfl ⟨rfl, rfl⟩)) ?_
  refine RunT.quiet rfl rfl rfl (quiet_eq (sem_move ((Value.string s1)) rfl ⟨rfl, rfl⟩)) ?_
  obtain ⟨hi0, hi1, hS⟩ := hS
  refine RunT.quiet rfl rfl rfl (quiet_eq (sem_indexStr' s1 .i64 (1) rfl rfl TF.isStr_9 hi0 hi1 ⟨rfl, rfl⟩)) ?_
  refine RunT.quiet rfl rfl rfl (quiet_eq (sem_convI .u8 .i64 (byteAt s1 (Int.toNat (1))) rfl TF.int_5 TF.int_3 ⟨rfl, rfl⟩)) ?_
  refine RunT.quiet rfl rfl rfl (quiet_eq (sem_binI .i64 (IntKind.wrap .i64 ((256) * (IntKind.wrap .i64 (byteAt s1 (Int.toNat (0)))))) (IntKind.wrap .i64 (byteAt s1 (Int.toNat (1)))) ((Value.int .i64 (IntKind.wrap .i64 ((IntKind.wrap .i64 ((256) * (IntKind.wrap .i64 (byteAt s1 (Int.toNat (0)))))) + (IntKind.wrap .i64 (byteAt s1 (Int.toNat (1)))))))) rfl rfl rfl ⟨rfl, rfl⟩)) ?_
  refine RunT.quiet rfl rfl rfl (quiet_eq (sem_assign ((Value.int .i64 (IntKind.wrap .i64 ((IntKind.wrap .i64 ((256) * (IntKind.wrap .i64 (byteAt s1 (Int.toNat (0)))))) + (IntKind.wrap .i64 (byteAt s1 (Int.toNat (1)))))))) rfl ⟨rfl, rfl⟩)) ?_
  refine Run.seqJ (fun e h6 => Agree [(0, (Value.string s1)), (4, (Value.int .i64 (IntKind.wrap .i64 ((IntKind.wrap .i64 ((256) * (IntKind.wrap .i64 (byteAt s1 (Int.toNat (0)))))) + (IntKind.wrap .i64 (byteAt s1 (Int.toNat (1))))))))] e ∧ S_countermandref02_Open_J1 B s1 h6 Q) ?_ fun j5 => ?_
  ·rintro e h6 ⟨hag, hS⟩
   refine Run.env hag ?_; clear hag
   refine Run.seq ?_
   refine Run.ops0 (idx := [0, 1, 2, 3, 4]) rfl ?_
   refine Run.go rfl rfl rfl (sem_move ((Value.string s1)) rfl ?_)
   refine Run.go rfl rfl rfl (sem_move ((Value.int .i64 (IntKind.wrap .i64 ((IntKind.wrap .i64 ((256) * (IntKind.wrap .i64 (byteAt s1 (Int.toNat (0)))))) + (IntKind.wrap .i64 (byteAt s1 (Int.toNat (1)))))))) rfl ?_)
   refine Run.go rfl rfl rfl (sem_binI .i64 (2) (IntKind.wrap .i64 ((IntKind.wrap .i64 ((256) * (IntKind.wrap .i64 (byteAt s1 (Int.toNat (0)))))) + (IntKind.wrap .i64 (byteAt s1 (Int.toNat (1)))))) ((Value.int .i64 (IntKind.wrap .i64 ((2) + (IntKind.wrap .i64 ((IntKind.wrap .i64 ((256) * (IntKind.wrap .i64 (byteAt s1 (Int.toNat (0)))))) + (IntKind.wrap .i64 (byteAt s1 (Int.toNat (1)))))))))) rfl rfl rfl ?_)
   obtain ⟨hi0, hi1, hi2, hS⟩ := hS
   refine Run.go rfl rfl rfl (sem_sliceStrI s1 (2) (IntKind.wrap .i64 ((2) + (IntKind.wrap .i64 ((IntKind.wrap .i64 ((256) * (IntKind.wrap .i64 (byteAt s1 (Int.toNat (0)))))) + (IntKind.wrap .i64 (byteAt s1 (Int.toNat (1)))))))) rfl TF.isStr_9 ⟨_, rfl⟩ ⟨_, rfl⟩ hi0 hi1 hi2 ?_)
   refine Run.go rfl rfl rfl (sem_assign ((Value.string (ByteArray.extract s1 (Int.toNat (2)) (Int.toNat (IntKind.wrap .i64 ((2) + (IntKind.wrap .i64 ((IntKind.wrap .i64 ((256) * (IntKind.wrap .i64 (byteAt s1 (Int.toNat (0)))))) + (IntKind.wrap .i64 (byteAt s1 (Int.toNat (1)))))))))))) rfl ?_)
   refine Run.region_end ?_
   refine Run.seq ?_
   refine Run.seq ?_
   skip
   skip
   skip
   skip
   obtain ⟨hi0, hi1, hi2, hS⟩ := hS
   have f12 := hi0; have f13 := hi1; have f14 := hi2
   refine Run.drawM (fun h' => True) [] ⟨[0, 1, 0, 0, 8, 20, 34], [127, 126, 127, 127, 119, 107, 93], [0, 0, 0, 0, 0, 0, 0], 0⟩ (.q 0 (.q 2 (.q 3 (.q 4 (.q 5 (.x 1 (.q 6 .nil) .no)))))) TF.mixed (by kernel_rfl) trivial ?_
   refine RunT.quiet rfl rfl rfl (fun h' hC => sem_move ((Value.string (ByteArray.extract s1 (Int.toNat (2)) (Int.toNat (IntKind.wrap .i64 ((2) + (IntKind.wrap .i64 ((IntKind.wrap .i64 ((256) * (IntKind.wrap .i64 (byteAt s1 (Int.toNat (0)))))) + (IntKind.wrap .i64 (byteAt s1 (Int.toNat (1)))))))))))) rfl ⟨rfl, rfl⟩) ?_
   refine RunT.quiet rfl rfl rfl (fun h' hC => sem_move ((Value.string s1)) rfl ⟨rfl, rfl⟩) ?_
   refine RunT.quiet rfl rfl rfl (fun h' hC => sem_move ((Value.int .i64 (IntKind.wrap .i64 ((IntKind.wrap .i64 ((256) * (IntKind.wrap .i64 (byteAt s1 (Int.toNat (0)))))) + (IntKind.wrap .i64 (byteAt s1 (Int.toNat (1)))))))) rfl ⟨rfl, rfl⟩) ?_
   refine RunT.quiet rfl rfl rfl (fun h' hC => sem_binI .i64 (6) (IntKind.wrap .i64 ((IntKind.wrap .i64 ((256) * (IntKind.wrap .i64 (byteAt s1 (Int.toNat (0)))))) + (IntKind.wrap .i64 (byteAt s1 (Int.toNat (1)))))) ((Value.int .i64 (IntKind.wrap .i64 ((6) + (IntKind.wrap .i64 ((IntKind.wrap .i64 ((256) * (IntKind.wrap .i64 (byteAt s1 (Int.toNat (0)))))) + (IntKind.wrap .i64 (byteAt s1 (Int.toNat (1)))))))))) rfl rfl rfl ⟨rfl, rfl⟩) ?_
   refine RunT.quiet rfl rfl rfl (fun h' hC => sem_sliceStrI s1 (0) (IntKind.wrap .i64 ((6) + (IntKind.wrap .i64 ((IntKind.wrap .i64 ((256) * (IntKind.wrap .i64 (byteAt s1 (Int.toNat (0)))))) + (IntKind.wrap .i64 (byteAt s1 (Int.toNat (1)))))))) rfl TF.isStr_9 rfl ⟨_, rfl⟩ f12 f13 f14 ⟨rfl, rfl⟩) ?_
   refine ⟨?_, trivial⟩
   refine OpH.go rfl rfl rfl (sem_callL [(Value.string (ByteArray.extract s1 (Int.toNat (2)) (Int.toNat (IntKind.wrap .i64 ((2) + (IntKind.wrap .i64 ((IntKind.wrap .i64 ((256) * (IntKind.wrap .i64 (byteAt s1 (Int.toNat (0)))))) + (IntKind.wrap .i64 (byteAt s1 (Int.toNat (1)))))))))))] (TF.goes_136) rfl rfl (Spec.mono hS fun v h15 hv => ?_))
   obtain ⟨s16, rfl, hS⟩ := hv
   refine ⟨fun _ => trivial, ?_⟩
   obtain ⟨hT, hF⟩ := hS
   by_cases hb17 : s16 = (ByteArray.extract s1 (Int.toNat (0)) (Int.toNat (IntKind.wrap .i64 ((6) + (IntKind.wrap .i64 ((IntKind.wrap .i64 ((256) * (IntKind.wrap .i64 (byteAt s1 (Int.toNat (0)))))) + (IntKind.wrap .i64 (byteAt s1 (Int.toNat (1))))))))))
   ·have hS := hT hb17; clear hT hF
    refine RunT.quiet rfl rfl rfl (fun h' hC => sem_strNeT s16 (ByteArray.extract s1 (Int.toNat (0)) (Int.toNat (IntKind.wrap .i64 ((6) + (IntKind.wrap .i64 ((IntKind.wrap .i64 ((256) * (IntKind.wrap .i64 (byteAt s1 (Int.toNat (0)))))) + (IntKind.wrap .i64 (byteAt s1 (Int.toNat (1)))))))))) rfl rfl hb17 ⟨rfl, rfl⟩) ?_
    refine Run.condF rfl ?_
    refine Run.skip ?_
    refine Run.seq ?_
    refine Run.ops0 (idx := [0, 1, 2, 3, 4]) rfl ?_
    refine Run.go rfl rfl rfl (sem_move ((Value.string (ByteArray.extract s1 (Int.toNat (2)) (Int.toNat (IntKind.wrap .i64 ((2) + (IntKind.wrap .i64 ((IntKind.wrap .i64 ((256) * (IntKind.wrap .i64 (byteAt s1 (Int.toNat (0)))))) + (IntKind.wrap .i64 (byteAt s1 (Int.toNat (1)))))))))))) rfl ?_)
    refine Run.go rfl rfl rfl (sem_move ((Value.int .i64 (IntKind.wrap .i64 ((IntKind.wrap .i64 ((256) * (IntKind.wrap .i64 (byteAt s1 (Int.toNat (0)))))) + (IntKind.wrap .i64 (byteAt s1 (Int.toNat (1)))))))) rfl ?_)
    refine Run.go rfl rfl rfl (sem_binI .i64 (6) (IntKind.wrap .i64 ((IntKind.wrap .i64 ((256) * (IntKind.wrap .i64 (byteAt s1 (Int.toNat (0)))))) + (IntKind.wrap .i64 (byteAt s1 (Int.toNat (1)))))) ((Value.int .i64 (IntKind.wrap .i64 ((6) + (IntKind.wrap .i64 ((IntKind.wrap .i64 ((256) * (IntKind.wrap .i64 (byteAt s1 (Int.toNat (0)))))) + (IntKind.wrap .i64 (byteAt s1 (Int.toNat (1)))))))))) rfl rfl rfl ?_)
    refine Run.go rfl rfl rfl (sem_assign ((Value.string (ByteArray.extract s1 (Int.toNat (2)) (Int.toNat (IntKind.wrap .i64 ((2) + (IntKind.wrap .i64 ((IntKind.wrap .i64 ((256) * (IntKind.wrap .i64 (byteAt s1 (Int.toNat (0)))))) + (IntKind.wrap .i64 (byteAt s1 (Int.toNat (1)))))))))))) rfl ?_)
    refine Run.go rfl rfl rfl (sem_assign ((Value.int .i64 (IntKind.wrap .i64 ((6) + (IntKind.wrap .i64 ((IntKind.wrap .i64 ((256) * (IntKind.wrap .i64 (byteAt s1 (Int.toNat (0)))))) + (IntKind.wrap .i64 (byteAt s1 (Int.toNat (1)))))))))) rfl ?_)
    refine Run.region_end ?_
    refine Run.ret ⟨.inr rfl, ?_⟩
    exact hS.imp fun h' hq => ⟨(ByteArray.extract s1 (Int.toNat (2)) (Int.toNat (IntKind.wrap .i64 ((2) + (IntKind.wrap .i64 ((IntKind.wrap .i64 ((256) * (IntKind.wrap .i64 (byteAt s1 (Int.toNat (0)))))) + (IntKind.wrap .i64 (byteAt s1 (Int.toNat (1)))))))))), (IntKind.wrap .i64 ((6) + (IntKind.wrap .i64 ((IntKind.wrap .i64 ((256) * (IntKind.wrap .i64 (byteAt s1 (Int.toNat (0)))))) + (IntKind.wrap .i64 (byteAt s1 (Int.toNat (1)))))))), rfl, hq⟩
   ·have hS := hF hb17; clear hT hF
    refine RunT.quiet rfl rfl rfl (fun h' hC => sem_strNeF s16 (ByteArray.extract s1 (Int.toNat (0)) (Int.toNat (IntKind.wrap .i64 ((6) + (IntKind.wrap .i64 ((IntKind.wrap .i64 ((256) * (IntKind.wrap .i64 (byteAt s1 (Int.toNat (0)))))) + (IntKind.wrap .i64 (byteAt s1 (Int.toNat (1)))))))))) rfl rfl hb17 ⟨rfl, rfl⟩) ?_
    refine Run.condT rfl ?_
    refine Run.seq ?_
    refine Run.ops0 (idx := [0, 1]) rfl ?_
    refine Run.go rfl rfl rfl (sem_assign ((Value.string (ByteArray.mk #[]))) rfl ?_)
    refine Run.go rfl rfl rfl (sem_assign ((Value.int .i64 (0))) rfl ?_)
    refine Run.region_end ?_
    refine Run.ret ⟨.inr rfl, ?_⟩
    exact hS.imp fun h' hq => ⟨(ByteArray.mk #[]), (0), rfl, hq⟩
  refine Run.seq ?_
  refine Run.ops0 (idx := [0, 1, 2, 3, 4, 5, 6, 7, 8]) rfl ?_
  refine Run.go rfl rfl rfl (sem_move ((Value.int .i64 (IntKind.wrap .i64 ((IntKind.wrap .i64 ((256) * (IntKind.wrap .i64 (byteAt s1 (Int.toNat (0)))))) + (IntKind.wrap .i64 (byteAt s1 (Int.toNat (1)))))))) rfl ?_)
  obtain ⟨hT, hF⟩ := hS
  by_cases hb18 : (IntKind.wrap .i64 ((IntKind.wrap .i64 ((256) * (IntKind.wrap .i64 (byteAt s1 (Int.toNat (0)))))) + (IntKind.wrap .i64 (byteAt s1 (Int.toNat (1))))) : Int) > (1024)
  ·have hS := hT hb18; clear hT hF
   refine Run.go rfl rfl rfl (sem_binI .i64 (IntKind.wrap .i64 ((IntKind.wrap .i64 ((256) * (IntKind.wrap .i64 (byteAt s1 (Int.toNat (0)))))) + (IntKind.wrap .i64 (byteAt s1 (Int.toNat (1)))))) (1024) (.bool true) rfl rfl (binI_gtr_t hb18) ?_)
   refine Run.go rfl rfl rfl (sem_move ((Value.bool true)) rfl ?_)
   refine Run.no rfl rfl rfl ?_
   refine Run.no rfl rfl rfl ?_
   refine Run.no rfl rfl rfl ?_
   refine Run.no rfl rfl rfl ?_
   refine Run.no rfl rfl rfl ?_
   refine Run.go rfl rfl rfl (sem_pick true ((Value.bool true)) rfl rfl ?_)
   refine Run.region_end ?_
   refine Run.condT rfl ?_
   refine Run.seq ?_
   refine Run.ops0 (idx := [0, 1]) rfl ?_
   refine Run.go rfl rfl rfl (sem_assign ((Value.string (ByteArray.mk #[]))) rfl ?_)
   refine Run.go rfl rfl rfl (sem_assign ((Value.int .i64 (0))) rfl ?_)
   refine Run.region_end ?_
   refine Run.ret ⟨.inr rfl, ?_⟩
   exact hS.imp fun h' hq => ⟨(ByteArray.mk #[]), (0), rfl, hq⟩
  ·have hS := hF hb18; clear hT hF
   refine Run.go rfl rfl rfl (sem_binI .i64 (IntKind.wrap .i64 ((IntKind.wrap .i64 ((256) * (IntKind.wrap .i64 (byteAt s1 (Int.toNat (0)))))) + (IntKind.wrap .i64 (byteAt s1 (Int.toNat (1)))))) (1024) (.bool false) rfl rfl (binI_gtr_f hb18) ?_)
   refine Run.go rfl rfl rfl (sem_move ((Value.bool false)) rfl ?_)
   refine Run.go rfl rfl rfl (sem_move ((Value.string s1)) rfl ?_)
   refine Run.go rfl rfl rfl (sem_lenStr s1 rfl TF.isStr_9 ?_)
   refine Run.go rfl rfl rfl (sem_move ((Value.int .i64 (IntKind.wrap .i64 ((IntKind.wrap .i64 ((256) * (IntKind.wrap .i64 (byteAt s1 (Int.toNat (0)))))) + (IntKind.wrap .i64 (byteAt s1 (Int.toNat (1)))))))) rfl ?_)
   refine Run.go rfl rfl rfl (sem_binI .i64 (6) (IntKind.wrap .i64 ((IntKind.wrap .i64 ((256) * (IntKind.wrap .i64 (byteAt s1 (Int.toNat (0)))))) + (IntKind.wrap .i64 (byteAt s1 (Int.toNat (1)))))) ((Value.int .i64 (IntKind.wrap .i64 ((6) + (IntKind.wrap .i64 ((IntKind.wrap .i64 ((256) * (IntKind.wrap .i64 (byteAt s1 (Int.toNat (0)))))) + (IntKind.wrap .i64 (byteAt s1 (Int.toNat (1)))))))))) rfl rfl rfl ?_)
   obtain ⟨hT, hF⟩ := hS
   by_cases hb19 : ((ByteArray.size s1 : Nat) : Int) < (IntKind.wrap .i64 ((6) + (IntKind.wrap .i64 ((IntKind.wrap .i64 ((256) * (IntKind.wrap .i64 (byteAt s1 (Int.toNat (0)))))) + (IntKind.wrap .i64 (byteAt s1 (Int.toNat (1))))))))
   ·have hS := hT hb19; clear hT hF
    refine Run.go rfl rfl rfl (sem_binI .i64 ((ByteArray.size s1 : Nat)) (IntKind.wrap .i64 ((6) + (IntKind.wrap .i64 ((IntKind.wrap .i64 ((256) * (IntKind.wrap .i64 (byteAt s1 (Int.toNat (0)))))) + (IntKind.wrap .i64 (byteAt s1 (Int.toNat (1)))))))) (.bool true) rfl rfl (binI_lss_t hb19) ?_)
    refine Run.go rfl rfl rfl (sem_pick false ((Value.bool true)) rfl rfl ?_)
    refine Run.region_end ?_
    refine Run.condT rfl ?_
    refine Run.seq ?_
    refine Run.ops0 (idx := [0, 1]) rfl ?_
    refine Run.go rfl rfl rfl (sem_assign ((Value.string (ByteArray.mk #[]))) rfl ?_)
    refine Run.go rfl rfl rfl (sem_assign ((Value.int .i64 (0))) rfl ?_)
    refine Run.region_end ?_
    refine Run.ret ⟨.inr rfl, ?_⟩
    exact hS.imp fun h' hq => ⟨(ByteArray.mk #[]), (0), rfl, hq⟩
   ·have hS := hF hb19; clear hT hF
    refine Run.go rfl rfl rfl (sem_binI .i64 ((ByteArray.size s1 : Nat)) (IntKind.wrap .i64 ((6) + (IntKind.wrap .i64 ((IntKind.wrap .i64 ((256) * (IntKind.wrap .i64 (byteAt s1 (Int.toNat (0)))))) + (IntKind.wrap .i64 (byteAt s1 (Int.toNat (1)))))))) (.bool false) rfl rfl (binI_lss_f hb19) ?_)
    refine Run.go rfl rfl rfl (sem_pick false ((Value.bool false)) rfl rfl ?_)
    refine Run.region_end ?_
    refine Run.condF rfl ?_
    refine Run.skip ?_
    exact Run.of_fin (hS.imp fun h' hS => j5 _ _ ⟨⟨rfl, rfl, trivial⟩, hS⟩)
set_option maxHeartbeats 4000000 in
theorem C_countermandref02_Row.of {B : RO} {a1 : Option Addr} {n2 : Nat} {c3 : Nat} {h : Heap} {Q : ByteArray → Heap → Prop} (hS : S_countermandref02_Row B a1 n2 c3 h Q) : C_countermandref02_Row B a1 n2 c3 h Q := by
 unfold S_countermandref02_Row at hS
 unfold C_countermandref02_Row
 refine Spec.of_run Try.func102 (N := 18) (rs := [ResultVar.tmp 2]) rfl rfl rfl (Nat.le_of_ble_eq_true rfl) ?_
 refine Run.seq ?_
 refine Run.ops0 (idx := [0]) rfl ?_
 refine Run.go rfl rfl rfl (sem_assign ((Value.string (ByteArray.mk #[]))) rfl ?_)
 refine Run.region_end ?_
 refine Run.seq ?_
 refine Run.ops0 (idx := [0]) rfl ?_
 refine Run.go rfl rfl rfl (sem_assign ((Value.string (ByteArray.mk #[]))) rfl ?_)
 refine Run.region_end ?_
 refine Run.seq ?_
 refine Run.seq ?_
 refine Run.ops0 (idx := [0, 1, 2]) rfl ?_
 refine Run.go rfl rfl rfl (sem_move ((Value.slice a1 n2 c3)) rfl ?_)
 refine Run.go rfl rfl rfl (sem_lenSl a1 n2 c3 rfl TF.sl_55 ?_)
 refine Run.go rfl rfl rfl (sem_move ((Value.int .i64 (0))) rfl ?_)
 refine Run.region_end ?_
 refine Run.block ?_
 obtain ⟨J11, m9, h0, hS⟩ := hS
 refine Run.of_fin (h0.imp fun h' h0 => ?_)
 refine Run.loop (σ := ByteArray × Int × Nat) (fun x e h => J11 x.1 x.2.1 x.2.2 h ∧ Agree [(3, (Value.string x.1)), (6, (Value.slice a1 n2 c3)), (7, (Value.int .i64 ((n2 : Nat)))), (8, (Value.int .i64 (x.2.1)))] e) (fun x => x.2.2) ((ByteArray.mk #[]), (0), m9) ⟨h0, ⟨rfl, rfl, rfl, rfl, trivial⟩⟩ ?_; clear h0
 rintro ⟨s5, i6, m8⟩ e h7 ⟨hJ, hag⟩ ih10
 have hS := hS s5 i6 m8 h7 hJ; clear hJ
 refine Run.env hag ?_; clear hag
 refine Run.seq ?_
 refine Run.ops0 (idx := [0]) rfl ?_
 obtain ⟨hT, hF⟩ := hS
 by_cases hb12 : (i6 : Int) < ((n2 : Nat))
 ·have hS := hT hb12; clear hT hF
  refine Run.go rfl rfl rfl (sem_binI .i64 (i6) ((n2 : Nat)) (.bool true) rfl rfl (binI_lss_t hb12) ?_)
  refine Run.region_end ?_
  refine Run.seq ?_
  refine Run.condT rfl ?_
  refine Run.skip ?_
  refine Run.seq ?_
  refine Run.block ?_
  refine Run.seq ?_
  refine Run.ops0 (idx := [0, 1, 2]) rfl ?_
  obtain ⟨A13, e14, hi0, hi1, hS⟩ := hS
  refine Run.go rfl rfl rfl (sem_indexAddrS A13 n2 c3 .i64 (i6) (congrArg (fun a => Value.slice a n2 c3) e14) rfl TF.slc_55 hi0 hi1 ?_)
  obtain ⟨s15, hl, hS⟩ := hS
  refine Run.go rfl rfl rfl (sem_load1 (Addr.add A13 (Int.toNat (i6) * 1)) ((Value.string s15)) rfl TF.agg_9 hl ?_)
  refine Run.go rfl rfl rfl (sem_assign ((Value.string s15)) rfl ?_)
  refine Run.region_end ?_
  refine Run.ops0 (idx := [0, 1, 2, 3, 4]) rfl ?_
  refine Run.go rfl rfl rfl (sem_move ((Value.string s5)) rfl ?_)
  refine Run.go rfl rfl rfl (sem_move ((Value.string s15)) rfl ?_)
  refine Run.go rfl rfl rfl (sem_callL [(Value.string s15)] (TF.goes_136) rfl rfl (Spec.mono hS fun v h16 hv => ?_))
  obtain ⟨s17, rfl, hS⟩ := hv
  obtain ⟨hi0, hS⟩ := hS
  refine Run.go rfl rfl rfl (sem_strAdd s5 s17 rfl rfl hi0 ?_)
  refine Run.go rfl rfl rfl (sem_assign ((Value.string (s5 ++ s17))) rfl ?_)
  refine Run.region_end ?_
  refine Run.inBlock ?_
  refine Run.ops0 (idx := [0, 1]) rfl ?_
  refine Run.go rfl rfl rfl (sem_binI .i64 (i6) (1) ((Value.int .i64 (IntKind.wrap .i64 ((i6) + (1))))) rfl rfl rfl ?_)
  refine Run.go rfl rfl rfl (sem_move ((Value.int .i64 (IntKind.wrap .i64 ((i6) + (1))))) rfl ?_)
  refine Run.region_end ?_
  exact Run.of_fin (hS.imp fun h' ⟨m', hm, hS⟩ => ih10 ((s5 ++ s17), (IntKind.wrap .i64 ((i6) + (1))), m') _ _ ⟨hS, ⟨rfl, rfl, rfl, rfl, trivial⟩⟩ hm)
 ·have hS := hF hb12; clear hT hF
  refine Run.go rfl rfl rfl (sem_binI .i64 (i6) ((n2 : Nat)) (.bool false) rfl rfl (binI_lss_f hb12) ?_)
  refine Run.region_end ?_
  refine Run.seq ?_
  refine Run.condF rfl ?_
  refine Run.exit rfl ?_
  refine Run.seq ?_
  refine Run.ops0 (idx := [0, 1]) rfl ?_
  refine Run.go rfl rfl rfl (sem_move ((Value.string s5)) rfl ?_)
  refine Run.go rfl rfl rfl (sem_assign ((Value.string s5)) rfl ?_)
  refine Run.region_end ?_
  refine Run.ret ⟨.inr rfl, ?_⟩
  exact hS.imp fun h' hq => ⟨s5, rfl, hq⟩
set_option maxHeartbeats 4000000 in
theorem C_wafer_foots.of {B : RO} {i1 : Int} {h : Heap} {Q : ByteArray → Heap → Prop} (hS : S_wafer_foots B i1 h Q) : C_wafer_foots B i1 h Q := by
 unfold S_wafer_foots at hS
 unfold C_wafer_foots
 refine Spec.of_run Try.func132 (N := 16) (rs := [ResultVar.tmp 2]) rfl rfl rfl (Nat.le_of_ble_eq_true rfl) ?_
 refine Run.seq ?_
 refine Run.ops0 (idx := [0]) rfl ?_
 refine Run.go rfl rfl rfl (sem_assign ((Value.string (ByteArray.mk #[]))) rfl ?_)
 refine Run.region_end ?_
 refine Run.seq ?_
 refine Run.ops0 (idx := [0, 1, 2, 3, 4, 5, 6, 7, 8, 9, 10, 11, 12, 13]) rfl ?_
 refine Run.go rfl rfl rfl (sem_move ((Value.int .u32 (i1))) rfl ?_)
 refine Run.go rfl rfl rfl (sem_convI .u32 .u8 (i1) rfl TF.int_243 TF.int_5 ?_)
 refine Run.go rfl rfl rfl (sem_move ((Value.int .u32 (i1))) rfl ?_)
 obtain ⟨hi0, hS⟩ := hS
 refine Run.go rfl rfl rfl (sem_shr .u32 .u64 (i1) (8) rfl rfl hi0 ?_)
 refine Run.go rfl rfl rfl (sem_convI .u32 .u8 (Int.fdiv (i1) (2 ^ (min (Int.toNat (8)) (IntKind.bits .u32)))) rfl TF.int_243 TF.int_5 ?_)
 refine Run.go rfl rfl rfl (sem_move ((Value.int .u32 (i1))) rfl ?_)
 obtain ⟨hi0, hS⟩ := hS
 refine Run.go rfl rfl rfl (sem_shr .u32 .u64 (i1) (16) rfl rfl hi0 ?_)
 refine Run.go rfl rfl rfl (sem_convI .u32 .u8 (Int.fdiv (i1) (2 ^ (min (Int.toNat (16)) (IntKind.bits .u32)))) rfl TF.int_243 TF.int_5 ?_)
 refine Run.go rfl rfl rfl (sem_move ((Value.int .u32 (i1))) rfl ?_)
 obtain ⟨hi0, hS⟩ := hS
 refine Run.go rfl rfl rfl (sem_shr .u32 .u64 (i1) (24) rfl rfl hi0 ?_)
 refine Run.go rfl rfl rfl (sem_convI .u32 .u8 (Int.fdiv (i1) (2 ^ (min (Int.toNat (24)) (IntKind.bits .u32)))) rfl TF.int_243 TF.int_5 ?_)
 refine Run.go rfl rfl rfl (sem_buildSliceL [(0, (Value.int .u8 (IntKind.wrap .u8 (i1)))), (1, (Value.int .u8 (IntKind.wrap .u8 (Int.fdiv (i1) (2 ^ (min (Int.toNat (8)) (IntKind.bits .u32))))))), (2, (Value.int .u8 (IntKind.wrap .u8 (Int.fdiv (i1) (2 ^ (min (Int.toNat (16)) (IntKind.bits .u32))))))), (3, (Value.int .u8 (IntKind.wrap .u8 (Int.fdiv (i1) (2 ^ (min (Int.toNat (24)) (IntKind.bits .u32)))))))] [(Value.int .u8 (IntKind.wrap .u8 (i1))), (Value.int .u8 (IntKind.wrap .u8 (Int.fdiv (i1) (2 ^ (min (Int.toNat (8)) (IntKind.bits .u32)))))), (Value.int .u8 (IntKind.wrap .u8 (Int.fdiv (i1) (2 ^ (min (Int.toNat (16)) (IntKind.bits .u32)))))), (Value.int .u8 (IntKind.wrap .u8 (Int.fdiv (i1) (2 ^ (min (Int.toNat (24)) (IntKind.bits .u32))))))] TF.slc_208 TF.zero_5 rfl (by decide) (by decide) rfl rfl (fun k3 hb1 hb2 h4 hb3 => ?_))
 have hS := hS k3 hb1 hb2 h4 hb3
 refine Run.go rfl rfl rfl (sem_convW ((Value.slice (some ⟨k3, 0, none⟩) 4 4)) rfl (semH_mono (fun v h6 hv => ?_) hS))
 obtain ⟨s5, rfl, hS⟩ := hv
 refine Run.go rfl rfl rfl (sem_assign ((Value.string s5)) rfl ?_)
 refine Run.region_end ?_
 refine Run.ret ⟨.inr rfl, ?_⟩
 exact hS.imp fun h' hq => ⟨s5, rfl, hq⟩
set_option maxHeartbeats 4000000 in
theorem C_wafer_Sum.of {B : RO} {s1 : ByteArray} {h : Heap} {Q : Int → Heap → Prop} (hS : S_wafer_Sum B s1 h Q) : C_wafer_Sum B s1 h Q := by
 unfold S_wafer_Sum at hS
 unfold C_wafer_Sum
 refine Spec.of_run Try.func133 (N := 29) (rs := [ResultVar.tmp 2]) rfl rfl rfl (Nat.le_of_ble_eq_true rfl) ?_
 refine Run.seq ?_
 refine Run.ops0 (idx := [0]) rfl ?_
 refine Run.go rfl rfl rfl (sem_assign ((Value.int .u32 (0))) rfl ?_)
 refine Run.region_end ?_
 refine Run.seq ?_
 refine Run.ops0 (idx := [0]) rfl ?_
 refine Run.go rfl rfl rfl (sem_assign ((Value.int .u32 (4294967295))) rfl ?_)
 refine Run.region_end ?_
 refine Run.seq ?_
 refine Run.seq ?_
 refine Run.ops0 (idx := [0, 1, 2]) rfl ?_
 refine Run.go rfl rfl rfl (sem_move ((Value.string s1)) rfl ?_)
 refine Run.go rfl rfl rfl (sem_lenStr s1 rfl TF.isStr_9 ?_)
 refine Run.go rfl rfl rfl (sem_move ((Value.int .i64 (0))) rfl ?_)
 refine Run.region_end ?_
 refine Run.block ?_
 obtain ⟨J9, m7, h0, hS⟩ := hS
 refine Run.of_fin (h0.imp fun h' h0 => ?_)
 refine Run.loop (σ := Int × Int × Nat) (fun x e h => J9 x.1 x.2.1 x.2.2 h ∧ Agree [(0, (Value.string s1)), (3, (Value.int .u32 (x.1))), (6, (Value.int .i64 ((ByteArray.size s1 : Nat)))), (7, (Value.int .i64 (x.2.1)))] e) (fun x => x.2.2) ((4294967295), (0), m7) ⟨h0, ⟨rfl, rfl, rfl, rfl, trivial⟩⟩ ?_; clear h0
 rintro ⟨i3, i4, m6⟩ e h5 ⟨hJ, hag⟩ ih8
 have hS := hS i3 i4 m6 h5 hJ; clear hJ
 refine Run.env hag ?_; clear hag
 refine Run.seq ?_
 refine Run.ops0 (idx := [0]) rfl ?_
 obtain ⟨hT, hF⟩ := hS
 by_cases hb10 : (i4 : Int) < ((ByteArray.size s1 : Nat))
 ·have hS := hT hb10; clear hT hF
  refine Run.go rfl rfl rfl (sem_binI .i64 (i4) ((ByteArray.size s1 : Nat)) (.bool true) rfl rfl (binI_lss_t hb10) ?_)
  refine Run.region_end ?_
  refine Run.seq ?_
  refine Run.condT rfl ?_
  refine Run.skip ?_
  refine Run.seq ?_
  refine Run.block ?_
  refine Run.seq ?_
  refine Run.ops0 (idx := [0, 1]) rfl ?_
  refine Run.go rfl rfl rfl (sem_move ((Value.int .i64 (i4))) rfl ?_)
  refine Run.go rfl rfl rfl (sem_assign ((Value.int .i64 (i4))) rfl ?_)
  refine Run.region_end ?_
  refine Run.seq ?_
  refine Run.ops0 (idx := [0, 1, 2, 3, 4, 5, 6]) rfl ?_
  refine Run.go rfl rfl rfl (sem_move ((Value.int .u32 (i3))) rfl ?_)
  refine Run.go rfl rfl rfl (sem_move ((Value.string s1)) rfl ?_)
  refine Run.go rfl rfl rfl (sem_move ((Value.int .i64 (i4))) rfl ?_)
  obtain ⟨hi0, hi1, hS⟩ := hS
  refine Run.go rfl rfl rfl (sem_indexStr' s1 .i64 (i4) rfl rfl TF.isStr_9 hi0 hi1 ?_)
  refine Run.go rfl rfl rfl (sem_convI .u8 .u32 (byteAt s1 (Int.toNat (i4))) rfl TF.int_5 TF.int_243 ?_)
  refine Run.go rfl rfl rfl (sem_binI .u32 (i3) (IntKind.wrap .u32 (byteAt s1 (Int.toNat (i4)))) ((Value.int .u32 (IntKind.wrap .u32 ((BitVec.ofInt (IntKind.bits .u32) (i3) ^^^ BitVec.ofInt (IntKind.bits .u32) (IntKind.wrap .u32 (byteAt s1 (Int.toNat (i4))))).toNat : Int)))) rfl rfl rfl ?_)
  refine Run.go rfl rfl rfl (sem_assign ((Value.int .u32 (IntKind.wrap .u32 ((BitVec.ofInt (IntKind.bits .u32) (i3) ^^^ BitVec.ofInt (IntKind.bits .u32) (IntKind.wrap .u32 (byteAt s1 (Int.toNat (i4))))).toNat : Int)))) rfl ?_)
  refine Run.region_end ?_
  refine Run.seq ?_
  refine Run.ops0 (idx := [0]) rfl ?_
  refine Run.go rfl rfl rfl (sem_move ((Value.int .i64 (0))) rfl ?_)
  refine Run.region_end ?_
  refine Run.block ?_
  obtain ⟨J17, m15, h0, hS⟩ := hS
  refine Run.of_fin (h0.imp fun h' h0 => ?_)
  refine Run.loop (σ := Int × Int × Nat) (fun x e h => J17 x.1 x.2.1 x.2.2 h ∧ Agree [(0, (Value.string s1)), (3, (Value.int .u32 (x.1))), (6, (Value.int .i64 ((ByteArray.size s1 : Nat)))), (7, (Value.int .i64 (i4))), (16, (Value.int .i64 (x.2.1)))] e) (fun x => x.2.2) ((IntKind.wrap .u32 ((BitVec.ofInt (IntKind.bits .u32) (i3) ^^^ BitVec.ofInt (IntKind.bits .u32) (IntKind.wrap .u32 (byteAt s1 (Int.toNat (i4))))).toNat : Int)), (0), m15) ⟨h0, ⟨rfl, rfl, rfl, rfl, rfl, trivial⟩⟩ ?_; clear h0
  rintro ⟨i11, i12, m14⟩ e h13 ⟨hJ, hag⟩ ih16
  have hS := hS i11 i12 m14 h13 hJ; clear hJ
  refine Run.env hag ?_; clear hag
  refine Run.seq ?_
  refine Run.ops0 (idx := [0]) rfl ?_
  obtain ⟨hT, hF⟩ := hS
  by_cases hb18 : (i12 : Int) < (8)
  ·have hS := hT hb18; clear hT hF
   refine Run.go rfl rfl rfl (sem_binI .i64 (i12) (8) (.bool true) rfl rfl (binI_lss_t hb18) ?_)
   refine Run.region_end ?_
   refine Run.seq ?_
   refine Run.condT rfl ?_
   refine Run.skip ?_
   refine Run.seq ?_
   refine Run.block ?_
   refine Run.ops0 (idx := [0, 1, 2, 3, 4, 5, 6, 7]) rfl ?_
   refine Run.go rfl rfl rfl (sem_move ((Value.int .u32 (i11))) rfl ?_)
   obtain ⟨hi0, hS⟩ := hS
   refine Run.go rfl rfl rfl (sem_shr .u32 .u64 (i11) (1) rfl rfl hi0 ?_)
   refine Run.go rfl rfl rfl (sem_move ((Value.int .u32 (i11))) rfl ?_)
   refine Run.go rfl rfl rfl (sem_binI .u32 (i11) (1) ((Value.int .u32 (IntKind.wrap .u32 ((BitVec.ofInt (IntKind.bits .u32) (i11) &&& BitVec.ofInt (IntKind.bits .u32) (1)).toNat : Int)))) rfl rfl rfl ?_)
   refine Run.go rfl rfl rfl (sem_neg .u32 (IntKind.wrap .u32 ((BitVec.ofInt (IntKind.bits .u32) (i11) &&& BitVec.ofInt (IntKind.bits .u32) (1)).toNat : Int)) rfl ?_)
   refine Run.go rfl rfl rfl (sem_binI .u32 (2197175160) (IntKind.wrap .u32 (0 - (IntKind.wrap .u32 ((BitVec.ofInt (IntKind.bits .u32) (i11) &&& BitVec.ofInt (IntKind.bits .u32) (1)).toNat : Int)))) ((Value.int .u32 (IntKind.wrap .u32 ((BitVec.ofInt (IntKind.bits .u32) (2197175160) &&& BitVec.ofInt (IntKind.bits .u32) (IntKind.wrap .u32 (0 - (IntKind.wrap .u32 ((BitVec.ofInt (IntKind.bits .u32) (i11) &&& BitVec.ofInt (IntKind.bits .u32) (1)).toNat : Int))))).toNat : Int)))) rfl rfl rfl ?_)
   refine Run.go rfl rfl rfl (sem_binI .u32 (Int.fdiv (i11) (2 ^ (min (Int.toNat (1)) (IntKind.bits .u32)))) (IntKind.wrap .u32 ((BitVec.ofInt (IntKind.bits .u32) (2197175160) &&& BitVec.ofInt (IntKind.bits .u32) (IntKind.wrap .u32 (0 - (IntKind.wrap .u32 ((BitVec.ofInt (IntKind.bits .u32) (i11) &&& BitVec.ofInt (IntKind.bits .u32) (1)).toNat : Int))))).toNat : Int)) ((Value.int .u32 (IntKind.wrap .u32 ((BitVec.ofInt (IntKind.bits .u32) (Int.fdiv (i11) (2 ^ (min (Int.toNat (1)) (IntKind.bits .u32)))) ^^^ BitVec.ofInt (IntKind.bits .u32) (IntKind.wrap .u32 ((BitVec.ofInt (IntKind.bits .u32) (2197175160) &&& BitVec.ofInt (IntKind.bits .u32) (IntKind.wrap .u32 (0 - (IntKind.wrap .u32 ((BitVec.ofInt (IntKind.bits .u32) (i11) &&& BitVec.ofInt (IntKind.bits .u32) (1)).toNat : Int))))).toNat : Int))).toNat : Int)))) rfl rfl rfl ?_)
   refine Run.go rfl rfl rfl (sem_assign ((Value.int .u32 (IntKind.wrap .u32 ((BitVec.ofInt (IntKind.bits .u32) (Int.fdiv (i11) (2 ^ (min (Int.toNat (1)) (IntKind.bits .u32)))) ^^^ BitVec.ofInt (IntKind.bits .u32) (IntKind.wrap .u32 ((BitVec.ofInt (IntKind.bits .u32) (2197175160) &&& BitVec.ofInt (IntKind.bits .u32) (IntKind.wrap .u32 (0 - (IntKind.wrap .u32 ((BitVec.ofInt (IntKind.bits .u32) (i11) &&& BitVec.ofInt (IntKind.bits .u32) (1)).toNat : Int))))).toNat : Int))).toNat : Int)))) rfl ?_)
   refine Run.region_end ?_
   refine Run.inBlock ?_
   refine Run.ops0 (idx := [0, 1]) rfl ?_
   refine Run.go rfl rfl rfl (sem_binI .i64 (i12) (1) ((Value.int .i64 (IntKind.wrap .i64 ((i12) + (1))))) rfl rfl rfl ?_)
   refine Run.go rfl rfl rfl (sem_move ((Value.int .i64 (IntKind.wrap .i64 ((i12) + (1))))) rfl ?_)
   refine Run.region_end ?_
   exact Run.of_fin (hS.imp fun h' ⟨m', hm, hS⟩ => ih16 ((IntKind.wrap .u32 ((BitVec.ofInt (IntKind.bits .u32) (Int.fdiv (i11) (2 ^ (min (Int.toNat (1)) (IntKind.bits .u32)))) ^^^ BitVec.ofInt (IntKind.bits .u32) (IntKind.wrap .u32 ((BitVec.ofInt (IntKind.bits .u32) (2197175160) &&& BitVec.ofInt (IntKind.bits .u32) (IntKind.wrap .u32 (0 - (IntKind.wrap .u32 ((BitVec.ofInt (IntKind.bits .u32) (i11) &&& BitVec.ofInt (IntKind.bits .u32) (1)).toNat : Int))))).toNat : Int))).toNat : Int)), (IntKind.wrap .i64 ((i12) + (1))), m') _ _ ⟨hS, ⟨rfl, rfl, rfl, rfl, rfl, trivial⟩⟩ hm)
  ·have hS := hF hb18; clear hT hF
   refine Run.go rfl rfl rfl (sem_binI .i64 (i12) (8) (.bool false) rfl rfl (binI_lss_f hb18) ?_)
   refine Run.region_end ?_
   refine Run.seq ?_
   refine Run.condF rfl ?_
   refine Run.exit rfl ?_
   refine Run.inBlock ?_
   refine Run.ops0 (idx := [0, 1]) rfl ?_
   refine Run.go rfl rfl rfl (sem_binI .i64 (i4) (1) ((Value.int .i64 (IntKind.wrap .i64 ((i4) + (1))))) rfl rfl rfl ?_)
   refine Run.go rfl rfl rfl (sem_move ((Value.int .i64 (IntKind.wrap .i64 ((i4) + (1))))) rfl ?_)
   refine Run.region_end ?_
   exact Run.of_fin (hS.imp fun h' ⟨m', hm, hS⟩ => ih8 ((i11), (IntKind.wrap .i64 ((i4) + (1))), m') _ _ ⟨hS, ⟨rfl, rfl, rfl, rfl, trivial⟩⟩ hm)
 ·have hS := hF hb10; clear hT hF
  refine Run.go rfl rfl rfl (sem_binI .i64 (i4) ((ByteArray.size s1 : Nat)) (.bool false) rfl rfl (binI_lss_f hb10) ?_)
  refine Run.region_end ?_
  refine Run.seq ?_
  refine Run.condF rfl ?_
  refine Run.exit rfl ?_
  refine Run.seq ?_
  refine Run.ops0 (idx := [0, 1, 2]) rfl ?_
  refine Run.go rfl rfl rfl (sem_move ((Value.int .u32 (i3))) rfl ?_)
  refine Run.go rfl rfl rfl (sem_xorU .u32 (i3) rfl (.int .u32 (IntKind.wrap .u32 (((BitVec.ofInt (IntKind.bits .u32) (if IntKind.signed .u32 then (-1 : Int) else IntKind.max .u32) ^^^ BitVec.ofInt (IntKind.bits .u32) (i3)).toNat : Int)))) ⟨rfl, rfl⟩ ?_)
  refine Run.go rfl rfl rfl (sem_assign ((Value.int .u32 (IntKind.wrap .u32 (((BitVec.ofInt (IntKind.bits .u32) (if IntKind.signed .u32 then (-1 : Int) else IntKind.max .u32) ^^^ BitVec.ofInt (IntKind.bits .u32) (i3)).toNat : Int))))) rfl ?_)
  refine Run.region_end ?_
  refine Run.ret ⟨.inr rfl, ?_⟩
  exact hS.imp fun h' hq => ⟨(IntKind.wrap .u32 (((BitVec.ofInt (IntKind.bits .u32) (if IntKind.signed .u32 then (-1 : Int) else IntKind.max .u32) ^^^ BitVec.ofInt (IntKind.bits .u32) (i3)).toNat : Int))), rfl, hq⟩
set_option maxHeartbeats 4000000 in
theorem C_wafer_All_1.of {B : RO} {v1 : Value} {A2 : Addr} {h : Heap} {Q : Heap → Prop} (hS : S_wafer_All_1 B v1 A2 h Q) : C_wafer_All_1 B v1 A2 h Q := by
 unfold S_wafer_All_1 at hS
 unfold C_wafer_All_1
 refine Spec.of_run Try.func134 (N := 23) (rs := []) rfl rfl rfl (Nat.le_of_ble_eq_true rfl) ?_
 refine Run.seq ?_
 refine Run.ops0 (idx := [0, 1]) rfl ?_
 obtain ⟨s3, hl, hS⟩ := hS
 refine Run.go rfl rfl rfl (sem_load1 A2 ((Value.string s3)) rfl TF.agg_9 hl ?_)
 refine Run.go rfl rfl rfl (sem_assign ((Value.string s3)) rfl ?_)
 refine Run.region_end ?_
 refine Run.block ?_
 obtain ⟨J9, m7, h0, hS⟩ := hS
 refine Run.of_fin (h0.imp fun h' h0 => ?_)
 refine Run.loop (σ := ByteArray × Nat) (fun x e h => J9 x.1 x.2 h ∧ Agree [(0, v1), (3, (Value.string x.1))] e) (fun x => x.2) (s3, m7) ⟨h0, ⟨rfl, rfl, trivial⟩⟩ ?_; clear h0
 rintro ⟨s4, m6⟩ e h5 ⟨hJ, hag⟩ ih8
 have hS := hS s4 m6 h5 hJ; clear hJ
 refine Run.env hag ?_; clear hag
 refine Run.block ?_
 refine Run.seq ?_
 refine Run.ops0 (idx := [0, 1, 2, 3, 4, 5, 6]) rfl ?_
 refine Run.go rfl rfl rfl (sem_move ((Value.string s4)) rfl ?_)
 refine Run.go rfl rfl rfl (sem_callL [(Value.string s4)] (TF.goes_135) rfl rfl (Spec.mono hS fun v h10 hv => ?_))
 obtain ⟨s11, i12, rfl, hS⟩ := hv
 refine Run.go rfl rfl rfl (sem_move ((Value.tuple #[(Value.string s11), (Value.int .i64 (i12))])) rfl ?_)
 refine Run.go rfl rfl rfl (sem_extract #[(Value.string s11), (Value.int .i64 (i12))] ((Value.string s11)) rfl rfl ?_)
 refine Run.go rfl rfl rfl (sem_extract #[(Value.string s11), (Value.int .i64 (i12))] ((Value.int .i64 (i12))) rfl rfl ?_)
 refine Run.go rfl rfl rfl (sem_assign ((Value.string s11)) rfl ?_)
 refine Run.go rfl rfl rfl (sem_assign ((Value.int .i64 (i12))) rfl ?_)
 refine Run.region_end ?_
 refine Run.seq ?_
 refine Run.seq ?_
 refine Run.ops0 (idx := [0, 1, 2, 3, 4, 5, 6, 7]) rfl ?_
 refine Run.go rfl rfl rfl (sem_move ((Value.int .i64 (i12))) rfl ?_)
 obtain ⟨hT, hF⟩ := hS
 by_cases hb13 : (i12 : Int) = 0
 ·have hS := hT hb13; clear hT hF
  refine Run.go rfl rfl rfl (sem_binI .i64 (i12) (0) (.bool true) rfl rfl (binI_eql_t hb13) ?_)
  refine Run.go rfl rfl rfl (sem_move ((Value.bool true)) rfl ?_)
  refine Run.no rfl rfl rfl ?_
  refine Run.no rfl rfl rfl ?_
  refine Run.no rfl rfl rfl ?_
  refine Run.no rfl rfl rfl ?_
  refine Run.go rfl rfl rfl (sem_pick true ((Value.bool true)) rfl rfl ?_)
  refine Run.region_end ?_
  refine Run.condT rfl ?_
  refine Run.ret ⟨.inr rfl, ?_⟩
  exact hS.imp fun h' hq => ⟨rfl, hq⟩
 ·have hS := hF hb13; clear hT hF
  refine Run.go rfl rfl rfl (sem_binI .i64 (i12) (0) (.bool false) rfl rfl (binI_eql_f hb13) ?_)
  refine Run.go rfl rfl rfl (sem_move ((Value.bool false)) rfl ?_)
  refine Run.go rfl rfl rfl (sem_move (v1) rfl ?_)
  refine Run.go rfl rfl rfl (sem_move ((Value.string s11)) rfl ?_)
  refine Run.go rfl rfl rfl (sem_callV (v1) [(Value.string s11)] rfl rfl hS (fun nx h' ha => ha.mono fun v h14 hv => ?_))
  obtain ⟨b15, rfl, hS⟩ := hv
  obtain ⟨hT, hF⟩ := hS
  cases b15
  ·have hS := hF rfl; clear hT hF
   refine Run.go rfl rfl rfl (sem_not false rfl ?_)
   refine Run.go rfl rfl rfl (sem_pick false ((Value.bool true)) rfl rfl ?_)
   refine Run.region_end ?_
   refine Run.condT rfl ?_
   refine Run.ret ⟨.inr rfl, ?_⟩
   exact hS.imp fun h' hq => ⟨rfl, hq⟩
  ·have hS := hT rfl; clear hT hF
   refine Run.go rfl rfl rfl (sem_not true rfl ?_)
   refine Run.go rfl rfl rfl (sem_pick false ((Value.bool false)) rfl rfl ?_)
   refine Run.region_end ?_
   refine Run.condF rfl ?_
   refine Run.skip ?_
   refine Run.ops0 (idx := [0, 1, 2, 3]) rfl ?_
   refine Run.go rfl rfl rfl (sem_move ((Value.string s4)) rfl ?_)
   refine Run.go rfl rfl rfl (sem_move ((Value.int .i64 (i12))) rfl ?_)
   obtain ⟨hi0, hi1, hi2, hS⟩ := hS
   refine Run.go rfl rfl rfl (sem_sliceStrI s4 (i12) ((ByteArray.size s4 : Nat)) rfl TF.isStr_9 ⟨_, rfl⟩ rfl hi0 hi1 hi2 ?_)
   refine Run.go rfl rfl rfl (sem_assign ((Value.string (ByteArray.extract s4 (Int.toNat (i12)) (Int.toNat ((ByteArray.size s4 : Nat)))))) rfl ?_)
   refine Run.region_end ?_
   refine Run.inBlock ?_
   exact Run.of_fin (hS.imp fun h' ⟨m', hm, hS⟩ => ih8 ((ByteArray.extract s4 (Int.toNat (i12)) (Int.toNat ((ByteArray.size s4 : Nat)))), m') _ _ ⟨hS, ⟨rfl, rfl, trivial⟩⟩ hm)
set_option maxHeartbeats 4000000 in
theorem C_wafer_Open.of {B : RO} {s1 : ByteArray} {h : Heap} {Q : ByteArray → Int → Heap → Prop} (hS : S_wafer_Open B s1 h Q) : C_wafer_Open B s1 h Q := by
 unfold S_wafer_Open at hS
 unfold C_wafer_Open
 refine Spec.of_run Try.func135 (N := 45) (rs := [ResultVar.tmp 2, ResultVar.tmp 3]) rfl rfl rfl (Nat.le_of_ble_eq_true rfl) ?_
 refine Run.seq ?_
 refine Run.ops0 (idx := [0, 1]) rfl ?_
 refine Run.go rfl rfl rfl (sem_assign ((Value.string (ByteArray.mk #[]))) rfl ?_)
 refine Run.go rfl rfl rfl (sem_assign ((Value.int .i64 (0))) rfl ?_)
 refine Run.region_end ?_
 refine Run.seq ?_
 refine Run.seq ?_
 refine Run.ops0 (idx := [0, 1, 2]) rfl ?_
 refine Run.go rfl rfl rfl (sem_move ((Value.string s1)) rfl ?_)
 refine Run.go rfl rfl rfl (sem_lenStr s1 rfl TF.isStr_9 ?_)
 obtain ⟨hT, hF⟩ := hS
 by_cases hb4 : ((ByteArray.size s1 : Nat) : Int) < (2)
 ·have hS := hT hb4; clear hT hF
  refine Run.go rfl rfl rfl (sem_binI .i64 ((ByteArray.size s1 : Nat)) (2) (.bool true) rfl rfl (binI_lss_t hb4) ?_)
  refine Run.region_end ?_
  refine Run.condT rfl ?_
  refine Run.seq ?_
  refine Run.ops0 (idx := [0, 1]) rfl ?_
  refine Run.go rfl rfl rfl (sem_assign ((Value.string (ByteArray.mk #[]))) rfl ?_)
  refine Run.go rfl rfl rfl (sem_assign ((Value.int .i64 (0))) rfl ?_)
  refine Run.region_end ?_
  refine Run.ret ⟨.inr rfl, ?_⟩
  exact hS.imp fun h' hq => ⟨(ByteArray.mk #[]), (0), rfl, hq⟩
 ·have hS := hF hb4; clear hT hF
  refine Run.go rfl rfl rfl (sem_binI .i64 ((ByteArray.size s1 : Nat)) (2) (.bool false) rfl rfl (binI_lss_f hb4) ?_)
  refine Run.region_end ?_
  refine Run.condF rfl ?_
  refine Run.skip ?_
  refine Run.seq ?_
  refine Run.drawM (fun h' => h' = h) [] ⟨[0, 1, 2, 4, 0, 16, 32, 72, 255], [511, 510, 509, 507, 511, 495, 479, 439, 383], [0, 0, 0, 0, 0, 0, 0, 0, 0], 0⟩ (.q 0 (.q 1 (.q 2 (.q 3 (.q 4 (.q 5 (.q 6 (.q 7 (.q 8 .nil))))))))) TF.mixed (by kernel_rfl) rfl ?_
  refine RunT.quiet rfl rfl rfl (quiet_eq (sem_move ((Value.string s1)) rfl ⟨rfl, rfl⟩)) ?_
  obtain ⟨hi0, hi1, hS⟩ := hS
  refine RunT.quiet rfl rfl rfl (quiet_eq (sem_indexStr' s1 .i64 (0) rfl rfl TF.isStr_9 hi0 hi1 ⟨rfl, rfl⟩)) ?_
  refine RunT.quiet rfl rfl rfl (quiet_eq (sem_convI .u8 .i64 (byteAt s1 (Int.toNat (0))) rfl TF.int_5 TF.int_3 ⟨rfl, rfl⟩)) ?_
  obtain ⟨hi0, hS⟩ := hS
  refine RunT.quiet rfl rfl rfl (quiet_eq (sem_shl .i64 .u64 (IntKind.wrap .i64 (byteAt s1 (Int.toNat (0)))) (8) rfl rfl hi0 ⟨rfl, rfl⟩)) ?_
  refine RunT.quiet rfl rfl rfl (quiet_eq (sem_move ((Value.string s1)) rfl ⟨rfl, rfl⟩)) ?_
  obtain ⟨hi0, hi1, hS⟩ := hS
  refine RunT.quiet rfl rfl rfl (quiet_eq (sem_indexStr' s1 .i64 (1) rfl rfl TF.isStr_9 hi0 hi1 ⟨rfl, rfl⟩)) ?_
  refine RunT.quiet rfl rfl rfl (quiet_eq (sem_convI .u8 .i64 (byteAt s1 (Int.toNat (1))) rfl TF.int_5 TF.int_3 ⟨rfl, rfl⟩)) ?_
  refine RunT.quiet rfl rfl rfl (quiet_eq (sem_binI .i64 (IntKind.wrap .i64 ((IntKind.wrap .i64 (byteAt s1 (Int.toNat (0)))) * 2 ^ (min (Int.toNat (8)) (IntKind.bits .i64)))) (IntKind.wrap .i64 (byteAt s1 (Int.toNat (1)))) ((Value.int .i64 (IntKind.wrap .i64 ((BitVec.ofInt (IntKind.bits .i64) (IntKind.wrap .i64 ((IntKind.wrap .i64 (byteAt s1 (Int.toNat (0)))) * 2 ^ (min (Int.toNat (8)) (IntKind.bits .i64)))) ||| BitVec.ofInt (IntKind.bits .i64) (IntKind.wrap .i64 (byteAt s1 (Int.toNat (1))))).toNat : Int)))) rfl rfl rfl ⟨rfl, rfl⟩)) ?_
  refine RunT.quiet rfl rfl rfl (quiet_eq (sem_assign ((Value.int .i64 (IntKind.wrap .i64 ((BitVec.ofInt (IntKind.bits .i64) (IntKind.wrap .i64 ((IntKind.wrap .i64 (byteAt s1 (Int.toNat (0)))) * 2 ^ (min (Int.toNat (8)) (IntKind.bits .i64)))) ||| BitVec.ofInt (IntKind.bits .i64) (IntKind.wrap .i64 (byteAt s1 (Int.toNat (1))))).toNat : Int)))) rfl ⟨rfl, rfl⟩)) ?_
  refine Run.seq ?_
  refine Run.ops0 (idx := [0, 1, 2, 3]) rfl ?_
  refine Run.go rfl rfl rfl (sem_move ((Value.int .i64 (IntKind.wrap .i64 ((BitVec.ofInt (IntKind.bits .i64) (IntKind.wrap .i64 ((IntKind.wrap .i64 (byteAt s1 (Int.toNat (0)))) * 2 ^ (min (Int.toNat (8)) (IntKind.bits .i64)))) ||| BitVec.ofInt (IntKind.bits .i64) (IntKind.wrap .i64 (byteAt s1 (Int.toNat (1))))).toNat : Int)))) rfl ?_)
  refine Run.go rfl rfl rfl (sem_binI .i64 (2) (IntKind.wrap .i64 ((BitVec.ofInt (IntKind.bits .i64) (IntKind.wrap .i64 ((IntKind.wrap .i64 (byteAt s1 (Int.toNat (0)))) * 2 ^ (min (Int.toNat (8)) (IntKind.bits .i64)))) ||| BitVec.ofInt (IntKind.bits .i64) (IntKind.wrap .i64 (byteAt s1 (Int.toNat (1))))).toNat : Int)) ((Value.int .i64 (IntKind.wrap .i64 ((2) + (IntKind.wrap .i64 ((BitVec.ofInt (IntKind.bits .i64) (IntKind.wrap .i64 ((IntKind.wrap .i64 (byteAt s1 (Int.toNat (0)))) * 2 ^ (min (Int.toNat (8)) (IntKind.bits .i64)))) ||| BitVec.ofInt (IntKind.bits .i64) (IntKind.wrap .i64 (byteAt s1 (Int.toNat (1))))).toNat : Int)))))) rfl rfl rfl ?_)
  refine Run.go rfl rfl rfl (sem_binI .i64 (IntKind.wrap .i64 ((2) + (IntKind.wrap .i64 ((BitVec.ofInt (IntKind.bits .i64) (IntKind.wrap .i64 ((IntKind.wrap .i64 (byteAt s1 (Int.toNat (0)))) * 2 ^ (min (Int.toNat (8)) (IntKind.bits .i64)))) ||| BitVec.ofInt (IntKind.bits .i64) (IntKind.wrap .i64 (byteAt s1 (Int.toNat (1))))).toNat : Int)))) (4) ((Value.int .i64 (IntKind.wrap .i64 ((IntKind.wrap .i64 ((2) + (IntKind.wrap .i64 ((BitVec.ofInt (IntKind.bits .i64) (IntKind.wrap .i64 ((IntKind.wrap .i64 (byteAt s1 (Int.toNat (0)))) * 2 ^ (min (Int.toNat (8)) (IntKind.bits .i64)))) ||| BitVec.ofInt (IntKind.bits .i64) (IntKind.wrap .i64 (byteAt s1 (Int.toNat (1))))).toNat : Int)))) + (4))))) rfl rfl rfl ?_)
  refine Run.go rfl rfl rfl (sem_assign ((Value.int .i64 (IntKind.wrap .i64 ((IntKind.wrap .i64 ((2) + (IntKind.wrap .i64 ((BitVec.ofInt (IntKind.bits .i64) (IntKind.wrap .i64 ((IntKind.wrap .i64 (byteAt s1 (Int.toNat (0)))) * 2 ^ (min (Int.toNat (8)) (IntKind.bits .i64)))) ||| BitVec.ofInt (IntKind.bits .i64) (IntKind.wrap .i64 (byteAt s1 (Int.toNat (1))))).toNat : Int)))) + (4))))) rfl ?_)
  refine Run.region_end ?_
  refine Run.seqJ (fun e h6 => Agree [(0, (Value.string s1)), (4, (Value.int .i64 (IntKind.wrap .i64 ((BitVec.ofInt (IntKind.bits .i64) (IntKind.wrap .i64 ((IntKind.wrap .i64 (byteAt s1 (Int.toNat (0)))) * 2 ^ (min (Int.toNat (8)) (IntKind.bits .i64)))) ||| BitVec.ofInt (IntKind.bits .i64) (IntKind.wrap .i64 (byteAt s1 (Int.toNat (1))))).toNat : Int)))), (5, (Value.int .i64 (IntKind.wrap .i64 ((IntKind.wrap .i64 ((2) + (IntKind.wrap .i64 ((BitVec.ofInt (IntKind.bits .i64) (IntKind.wrap .i64 ((IntKind.wrap .i64 (byteAt s1 (Int.toNat (0)))) * 2 ^ (min (Int.toNat (8)) (IntKind.bits .i64)))) ||| BitVec.ofInt (IntKind.bits .i64) (IntKind.wrap .i64 (byteAt s1 (Int.toNat (1))))).toNat : Int)))) + (4)))))] e ∧ S_wafer_Open_J1 B s1 h6 Q) ?_ fun j5 => ?_
  ·rintro e h6 ⟨hag, hS⟩
   refine Run.env hag ?_; clear hag
   refine Run.seq ?_
   refine Run.seq ?_
   skip
   skip
   skip
   obtain ⟨hi0, hi1, hi2, hS⟩ := hS
   have f11 := hi0; have f12 := hi1; have f13 := hi2
   skip
   skip
   skip
   skip
   obtain ⟨hi0, hi1, hi2, hS⟩ := hS
   have f19 := hi0; have f20 := hi1; have f21 := hi2
   refine Run.drawM (fun h' => True) [] ⟨[0, 0, 2, 5, 8, 16, 0, 0, 128, 0, 832, 1056], [4095, 4095, 4093, 4090, 4087, 4079, 4095, 4095, 3967, 4095, 3263, 3039], [0, 0, 0, 0, 0, 0, 0, 0, 0, 0, 0, 0], 0⟩ (.q 0 (.q 1 (.q 2 (.q 3 (.q 6 (.q 7 (.q 8 (.q 9 (.q 10 (.x 4 (.x 5 (.q 11 .nil) .no) .no)))))))))) TF.mixed (by kernel_rfl) trivial ?_
   refine RunT.quiet rfl rfl rfl (fun h' hC => sem_move ((Value.string s1)) rfl ⟨rfl, rfl⟩) ?_
   refine RunT.quiet rfl rfl rfl (fun h' hC => sem_move ((Value.int .i64 (IntKind.wrap .i64 ((BitVec.ofInt (IntKind.bits .i64) (IntKind.wrap .i64 ((IntKind.wrap .i64 (byteAt s1 (Int.toNat (0)))) * 2 ^ (min (Int.toNat (8)) (IntKind.bits .i64)))) ||| BitVec.ofInt (IntKind.bits .i64) (IntKind.wrap .i64 (byteAt s1 (Int.toNat (1))))).toNat : Int)))) rfl ⟨rfl, rfl⟩) ?_
   refine RunT.quiet rfl rfl rfl (fun h' hC => sem_binI .i64 (2) (IntKind.wrap .i64 ((BitVec.ofInt (IntKind.bits .i64) (IntKind.wrap .i64 ((IntKind.wrap .i64 (byteAt s1 (Int.toNat (0)))) * 2 ^ (min (Int.toNat (8)) (IntKind.bits .i64)))) ||| BitVec.ofInt (IntKind.bits .i64) (IntKind.wrap .i64 (byteAt s1 (Int.toNat (1))))).toNat : Int)) ((Value.int .i64 (IntKind.wrap .i64 ((2) + (IntKind.wrap .i64 ((BitVec.ofInt (IntKind.bits .i64) (IntKind.wrap .i64 ((IntKind.wrap .i64 (byteAt s1 (Int.toNat (0)))) * 2 ^ (min (Int.toNat (8)) (IntKind.bits .i64)))) ||| BitVec.ofInt (IntKind.bits .i64) (IntKind.wrap .i64 (byteAt s1 (Int.toNat (1))))).toNat : Int)))))) rfl rfl rfl ⟨rfl, rfl⟩) ?_
   refine RunT.quiet rfl rfl rfl (fun h' hC => sem_sliceStrI s1 (0) (IntKind.wrap .i64 ((2) + (IntKind.wrap .i64 ((BitVec.ofInt (IntKind.bits .i64) (IntKind.wrap .i64 ((IntKind.wrap .i64 (byteAt s1 (Int.toNat (0)))) * 2 ^ (min (Int.toNat (8)) (IntKind.bits .i64)))) ||| BitVec.ofInt (IntKind.bits .i64) (IntKind.wrap .i64 (byteAt s1 (Int.toNat (1))))).toNat : Int)))) rfl TF.isStr_9 rfl ⟨_, rfl⟩ f11 f12 f13 ⟨rfl, rfl⟩) ?_
   refine RunT.quiet rfl rfl rfl (fun h' hC => sem_move ((Value.string s1)) rfl ⟨rfl, rfl⟩) ?_
   refine RunT.quiet rfl rfl rfl (fun h' hC => sem_move ((Value.int .i64 (IntKind.wrap .i64 ((BitVec.ofInt (IntKind.bits .i64) (IntKind.wrap .i64 ((IntKind.wrap .i64 (byteAt s1 (Int.toNat (0)))) * 2 ^ (min (Int.toNat (8)) (IntKind.bits .i64)))) ||| BitVec.ofInt (IntKind.bits .i64) (IntKind.wrap .i64 (byteAt s1 (Int.toNat (1))))).toNat : Int)))) rfl ⟨rfl, rfl⟩) ?_
   refine RunT.quiet rfl rfl rfl (fun h' hC => sem_binI .i64 (2) (IntKind.wrap .i64 ((BitVec.ofInt (IntKind.bits .i64) (IntKind.wrap .i64 ((IntKind.wrap .i64 (byteAt s1 (Int.toNat (0)))) * 2 ^ (min (Int.toNat (8)) (IntKind.bits .i64)))) ||| BitVec.ofInt (IntKind.bits .i64) (IntKind.wrap .i64 (byteAt s1 (Int.toNat (1))))).toNat : Int)) ((Value.int .i64 (IntKind.wrap .i64 ((2) + (IntKind.wrap .i64 ((BitVec.ofInt (IntKind.bits .i64) (IntKind.wrap .i64 ((IntKind.wrap .i64 (byteAt s1 (Int.toNat (0)))) * 2 ^ (min (Int.toNat (8)) (IntKind.bits .i64)))) ||| BitVec.ofInt (IntKind.bits .i64) (IntKind.wrap .i64 (byteAt s1 (Int.toNat (1))))).toNat : Int)))))) rfl rfl rfl ⟨rfl, rfl⟩) ?_
   refine RunT.quiet rfl rfl rfl (fun h' hC => sem_move ((Value.int .i64 (IntKind.wrap .i64 ((IntKind.wrap .i64 ((2) + (IntKind.wrap .i64 ((BitVec.ofInt (IntKind.bits .i64) (IntKind.wrap .i64 ((IntKind.wrap .i64 (byteAt s1 (Int.toNat (0)))) * 2 ^ (min (Int.toNat (8)) (IntKind.bits .i64)))) ||| BitVec.ofInt (IntKind.bits .i64) (IntKind.wrap .i64 (byteAt s1 (Int.toNat (1))))).toNat : Int)))) + (4))))) rfl ⟨rfl, rfl⟩) ?_
   refine RunT.quiet rfl rfl rfl (fun h' hC => sem_sliceStrI s1 (IntKind.wrap .i64 ((2) + (IntKind.wrap .i64 ((BitVec.ofInt (IntKind.bits .i64) (IntKind.wrap .i64 ((IntKind.wrap .i64 (byteAt s1 (Int.toNat (0)))) * 2 ^ (min (Int.toNat (8)) (IntKind.bits .i64)))) ||| BitVec.ofInt (IntKind.bits .i64) (IntKind.wrap .i64 (byteAt s1 (Int.toNat (1))))).toNat : Int)))) (IntKind.wrap .i64 ((IntKind.wrap .i64 ((2) + (IntKind.wrap .i64 ((BitVec.ofInt (IntKind.bits .i64) (IntKind.wrap .i64 ((IntKind.wrap .i64 (byteAt s1 (Int.toNat (0)))) * 2 ^ (min (Int.toNat (8)) (IntKind.bits .i64)))) ||| BitVec.ofInt (IntKind.bits .i64) (IntKind.wrap .i64 (byteAt s1 (Int.toNat (1))))).toNat : Int)))) + (4))) rfl TF.isStr_9 ⟨_, rfl⟩ ⟨_, rfl⟩ f19 f20 f21 ⟨rfl, rfl⟩) ?_
   refine ⟨?_, trivial⟩
   refine OpH.go rfl rfl rfl (sem_callL [(Value.string (ByteArray.extract s1 (Int.toNat (0)) (Int.toNat (IntKind.wrap .i64 ((2) + (IntKind.wrap .i64 ((BitVec.ofInt (IntKind.bits .i64) (IntKind.wrap .i64 ((IntKind.wrap .i64 (byteAt s1 (Int.toNat (0)))) * 2 ^ (min (Int.toNat (8)) (IntKind.bits .i64)))) ||| BitVec.ofInt (IntKind.bits .i64) (IntKind.wrap .i64 (byteAt s1 (Int.toNat (1))))).toNat : Int)))))))] (TF.goes_133) rfl rfl (Spec.mono hS fun v h22 hv => ?_))
   obtain ⟨i23, rfl, hS⟩ := hv
   refine ⟨fun _ => trivial, ?_⟩
   refine ⟨?_, trivial⟩
   refine OpH.go rfl rfl rfl (sem_callL [(Value.int .u32 (i23))] (TF.goes_132) rfl rfl (Spec.mono hS fun v h24 hv => ?_))
   obtain ⟨s25, rfl, hS⟩ := hv
   refine ⟨fun _ => trivial, ?_⟩
   obtain ⟨hT, hF⟩ := hS
   by_cases hb26 : s25 = (ByteArray.extract s1 (Int.toNat (IntKind.wrap .i64 ((2) + (IntKind.wrap .i64 ((BitVec.ofInt (IntKind.bits .i64) (IntKind.wrap .i64 ((IntKind.wrap .i64 (byteAt s1 (Int.toNat (0)))) * 2 ^ (min (Int.toNat (8)) (IntKind.bits .i64)))) ||| BitVec.ofInt (IntKind.bits .i64) (IntKind.wrap .i64 (byteAt s1 (Int.toNat (1))))).toNat : Int))))) (Int.toNat (IntKind.wrap .i64 ((IntKind.wrap .i64 ((2) + (IntKind.wrap .i64 ((BitVec.ofInt (IntKind.bits .i64) (IntKind.wrap .i64 ((IntKind.wrap .i64 (byteAt s1 (Int.toNat (0)))) * 2 ^ (min (Int.toNat (8)) (IntKind.bits .i64)))) ||| BitVec.ofInt (IntKind.bits .i64) (IntKind.wrap .i64 (byteAt s1 (Int.toNat (1))))).toNat : Int)))) + (4)))))
   ·have hS := hT hb26; clear hT hF
    refine RunT.quiet rfl rfl rfl (fun h' hC => sem_strNeT s25 (ByteArray.extract s1 (Int.toNat (IntKind.wrap .i64 ((2) + (IntKind.wrap .i64 ((BitVec.ofInt (IntKind.bits .i64) (IntKind.wrap .i64 ((IntKind.wrap .i64 (byteAt s1 (Int.toNat (0)))) * 2 ^ (min (Int.toNat (8)) (IntKind.bits .i64)))) ||| BitVec.ofInt (IntKind.bits .i64) (IntKind.wrap .i64 (byteAt s1 (Int.toNat (1))))).toNat : Int))))) (Int.toNat (IntKind.wrap .i64 ((IntKind.wrap .i64 ((2) + (IntKind.wrap .i64 ((BitVec.ofInt (IntKind.bits .i64) (IntKind.wrap .i64 ((IntKind.wrap .i64 (byteAt s1 (Int.toNat (0)))) * 2 ^ (min (Int.toNat (8)) (IntKind.bits .i64)))) ||| BitVec.ofInt (IntKind.bits .i64) (IntKind.wrap .i64 (byteAt s1 (Int.toNat (1))))).toNat : Int)))) + (4))))) rfl rfl hb26 ⟨rfl, rfl⟩) ?_
    refine Run.condF rfl ?_
    refine Run.skip ?_
    refine Run.seq ?_
    refine Run.ops0 (idx := [0, 1, 2, 3, 4, 5, 6]) rfl ?_
    refine Run.go rfl rfl rfl (sem_move ((Value.string s1)) rfl ?_)
    refine Run.go rfl rfl rfl (sem_move ((Value.int .i64 (IntKind.wrap .i64 ((BitVec.ofInt (IntKind.bits .i64) (IntKind.wrap .i64 ((IntKind.wrap .i64 (byteAt s1 (Int.toNat (0)))) * 2 ^ (min (Int.toNat (8)) (IntKind.bits .i64)))) ||| BitVec.ofInt (IntKind.bits .i64) (IntKind.wrap .i64 (byteAt s1 (Int.toNat (1))))).toNat : Int)))) rfl ?_)
    refine Run.go rfl rfl rfl (sem_binI .i64 (2) (IntKind.wrap .i64 ((BitVec.ofInt (IntKind.bits .i64) (IntKind.wrap .i64 ((IntKind.wrap .i64 (byteAt s1 (Int.toNat (0)))) * 2 ^ (min (Int.toNat (8)) (IntKind.bits .i64)))) ||| BitVec.ofInt (IntKind.bits .i64) (IntKind.wrap .i64 (byteAt s1 (Int.toNat (1))))).toNat : Int)) ((Value.int .i64 (IntKind.wrap .i64 ((2) + (IntKind.wrap .i64 ((BitVec.ofInt (IntKind.bits .i64) (IntKind.wrap .i64 ((IntKind.wrap .i64 (byteAt s1 (Int.toNat (0)))) * 2 ^ (min (Int.toNat (8)) (IntKind.bits .i64)))) ||| BitVec.ofInt (IntKind.bits .i64) (IntKind.wrap .i64 (byteAt s1 (Int.toNat (1))))).toNat : Int)))))) rfl rfl rfl ?_)
    obtain ⟨hi0, hi1, hi2, hS⟩ := hS
    refine Run.go rfl rfl rfl (sem_sliceStrI s1 (2) (IntKind.wrap .i64 ((2) + (IntKind.wrap .i64 ((BitVec.ofInt (IntKind.bits .i64) (IntKind.wrap .i64 ((IntKind.wrap .i64 (byteAt s1 (Int.toNat (0)))) * 2 ^ (min (Int.toNat (8)) (IntKind.bits .i64)))) ||| BitVec.ofInt (IntKind.bits .i64) (IntKind.wrap .i64 (byteAt s1 (Int.toNat (1))))).toNat : Int)))) rfl TF.isStr_9 ⟨_, rfl⟩ ⟨_, rfl⟩ hi0 hi1 hi2 ?_)
    refine Run.go rfl rfl rfl (sem_move ((Value.int .i64 (IntKind.wrap .i64 ((IntKind.wrap .i64 ((2) + (IntKind.wrap .i64 ((BitVec.ofInt (IntKind.bits .i64) (IntKind.wrap .i64 ((IntKind.wrap .i64 (byteAt s1 (Int.toNat (0)))) * 2 ^ (min (Int.toNat (8)) (IntKind.bits .i64)))) ||| BitVec.ofInt (IntKind.bits .i64) (IntKind.wrap .i64 (byteAt s1 (Int.toNat (1))))).toNat : Int)))) + (4))))) rfl ?_)
    refine Run.go rfl rfl rfl (sem_assign ((Value.string (ByteArray.extract s1 (Int.toNat (2)) (Int.toNat (IntKind.wrap .i64 ((2) + (IntKind.wrap .i64 ((BitVec.ofInt (IntKind.bits .i64) (IntKind.wrap .i64 ((IntKind.wrap .i64 (byteAt s1 (Int.toNat (0)))) * 2 ^ (min (Int.toNat (8)) (IntKind.bits .i64)))) ||| BitVec.ofInt (IntKind.bits .i64) (IntKind.wrap .i64 (byteAt s1 (Int.toNat (1))))).toNat : Int)))))))) rfl ?_)
    refine Run.go rfl rfl rfl (sem_assign ((Value.int .i64 (IntKind.wrap .i64 ((IntKind.wrap .i64 ((2) + (IntKind.wrap .i64 ((BitVec.ofInt (IntKind.bits .i64) (IntKind.wrap .i64 ((IntKind.wrap .i64 (byteAt s1 (Int.toNat (0)))) * 2 ^ (min (Int.toNat (8)) (IntKind.bits .i64)))) ||| BitVec.ofInt (IntKind.bits .i64) (IntKind.wrap .i64 (byteAt s1 (Int.toNat (1))))).toNat : Int)))) + (4))))) rfl ?_)
    refine Run.region_end ?_
    refine Run.ret ⟨.inr rfl, ?_⟩
    exact hS.imp fun h' hq => ⟨(ByteArray.extract s1 (Int.toNat (2)) (Int.toNat (IntKind.wrap .i64 ((2) + (IntKind.wrap .i64 ((BitVec.ofInt (IntKind.bits .i64) (IntKind.wrap .i64 ((IntKind.wrap .i64 (byteAt s1 (Int.toNat (0)))) * 2 ^ (min (Int.toNat (8)) (IntKind.bits .i64)))) ||| BitVec.ofInt (IntKind.bits .i64) (IntKind.wrap .i64 (byteAt s1 (Int.toNat (1))))).toNat : Int)))))), (IntKind.wrap .i64 ((IntKind.wrap .i64 ((2) + (IntKind.wrap .i64 ((BitVec.ofInt (IntKind.bits .i64) (IntKind.wrap .i64 ((IntKind.wrap .i64 (byteAt s1 (Int.toNat (0)))) * 2 ^ (min (Int.toNat (8)) (IntKind.bits .i64)))) ||| BitVec.ofInt (IntKind.bits .i64) (IntKind.wrap .i64 (byteAt s1 (Int.toNat (1))))).toNat : Int)))) + (4))), rfl, hq⟩
   ·have hS := hF hb26; clear hT hF
    refine RunT.quiet rfl rfl rfl (fun h' hC => sem_strNeF s25 (ByteArray.extract s1 (Int.toNat (IntKind.wrap .i64 ((2) + (IntKind.wrap .i64 ((BitVec.ofInt (IntKind.bits .i64) (IntKind.wrap .i64 ((IntKind.wrap .i64 (byteAt s1 (Int.toNat (0)))) * 2 ^ (min (Int.toNat (8)) (IntKind.bits .i64)))) ||| BitVec.ofInt (IntKind.bits .i64) (IntKind.wrap .i64 (byteAt s1 (Int.toNat (1))))).toNat : Int))))) (Int.toNat (IntKind.wrap .i64 ((IntKind.wrap .i64 ((2) + (IntKind.wrap .i64 ((BitVec.ofInt (IntKind.bits .i64) (IntKind.wrap .i64 ((IntKind.wrap .i64 (byteAt s1 (Int.toNat (0)))) * 2 ^ (min (Int.toNat (8)) (IntKind.bits .i64)))) ||| BitVec.ofInt (IntKind.bits .i64) (IntKind.wrap .i64 (byteAt s1 (Int.toNat (1))))).toNat : Int)))) + (4))))) rfl rfl hb26 ⟨rfl, rfl⟩) ?_
    refine Run.condT rfl ?_
    refine Run.seq ?_
    refine Run.ops0 (idx := [0, 1]) rfl ?_
    refine Run.go rfl rfl rfl (sem_assign ((Value.string (ByteArray.mk #[]))) rfl ?_)
    refine Run.go rfl rfl rfl (sem_assign ((Value.int .i64 (0))) rfl ?_)
    refine Run.region_end ?_
    refine Run.ret ⟨.inr rfl, ?_⟩
    exact hS.imp fun h' hq => ⟨(ByteArray.mk #[]), (0), rfl, hq⟩
  refine Run.seq ?_
  refine Run.ops0 (idx := [0, 1, 2, 3, 4, 5, 6, 7]) rfl ?_
  refine Run.go rfl rfl rfl (sem_move ((Value.int .i64 (IntKind.wrap .i64 ((BitVec.ofInt (IntKind.bits .i64) (IntKind.wrap .i64 ((IntKind.wrap .i64 (byteAt s1 (Int.toNat (0)))) * 2 ^ (min (Int.toNat (8)) (IntKind.bits .i64)))) ||| BitVec.ofInt (IntKind.bits .i64) (IntKind.wrap .i64 (byteAt s1 (Int.toNat (1))))).toNat : Int)))) rfl ?_)
  obtain ⟨hT, hF⟩ := hS
  by_cases hb27 : (IntKind.wrap .i64 ((BitVec.ofInt (IntKind.bits .i64) (IntKind.wrap .i64 ((IntKind.wrap .i64 (byteAt s1 (Int.toNat (0)))) * 2 ^ (min (Int.toNat (8)) (IntKind.bits .i64)))) ||| BitVec.ofInt (IntKind.bits .i64) (IntKind.wrap .i64 (byteAt s1 (Int.toNat (1))))).toNat : Int) : Int) > (1024)
  ·have hS := hT hb27; clear hT hF
   refine Run.go rfl rfl rfl (sem_binI .i64 (IntKind.wrap .i64 ((BitVec.ofInt (IntKind.bits .i64) (IntKind.wrap .i64 ((IntKind.wrap .i64 (byteAt s1 (Int.toNat (0)))) * 2 ^ (min (Int.toNat (8)) (IntKind.bits .i64)))) ||| BitVec.ofInt (IntKind.bits .i64) (IntKind.wrap .i64 (byteAt s1 (Int.toNat (1))))).toNat : Int)) (1024) (.bool true) rfl rfl (binI_gtr_t hb27) ?_)
   refine Run.go rfl rfl rfl (sem_move ((Value.bool true)) rfl ?_)
   refine Run.no rfl rfl rfl ?_
   refine Run.no rfl rfl rfl ?_
   refine Run.no rfl rfl rfl ?_
   refine Run.no rfl rfl rfl ?_
   refine Run.go rfl rfl rfl (sem_pick true ((Value.bool true)) rfl rfl ?_)
   refine Run.region_end ?_
   refine Run.condT rfl ?_
   refine Run.seq ?_
   refine Run.ops0 (idx := [0, 1]) rfl ?_
   refine Run.go rfl rfl rfl (sem_assign ((Value.string (ByteArray.mk #[]))) rfl ?_)
   refine Run.go rfl rfl rfl (sem_assign ((Value.int .i64 (0))) rfl ?_)
   refine Run.region_end ?_
   refine Run.ret ⟨.inr rfl, ?_⟩
   exact hS.imp fun h' hq => ⟨(ByteArray.mk #[]), (0), rfl, hq⟩
  ·have hS := hF hb27; clear hT hF
   refine Run.go rfl rfl rfl (sem_binI .i64 (IntKind.wrap .i64 ((BitVec.ofInt (IntKind.bits .i64) (IntKind.wrap .i64 ((IntKind.wrap .i64 (byteAt s1 (Int.toNat (0)))) * 2 ^ (min (Int.toNat (8)) (IntKind.bits .i64)))) ||| BitVec.ofInt (IntKind.bits .i64) (IntKind.wrap .i64 (byteAt s1 (Int.toNat (1))))).toNat : Int)) (1024) (.bool false) rfl rfl (binI_gtr_f hb27) ?_)
   refine Run.go rfl rfl rfl (sem_move ((Value.bool false)) rfl ?_)
   refine Run.go rfl rfl rfl (sem_move ((Value.string s1)) rfl ?_)
   refine Run.go rfl rfl rfl (sem_lenStr s1 rfl TF.isStr_9 ?_)
   refine Run.go rfl rfl rfl (sem_move ((Value.int .i64 (IntKind.wrap .i64 ((IntKind.wrap .i64 ((2) + (IntKind.wrap .i64 ((BitVec.ofInt (IntKind.bits .i64) (IntKind.wrap .i64 ((IntKind.wrap .i64 (byteAt s1 (Int.toNat (0)))) * 2 ^ (min (Int.toNat (8)) (IntKind.bits .i64)))) ||| BitVec.ofInt (IntKind.bits .i64) (IntKind.wrap .i64 (byteAt s1 (Int.toNat (1))))).toNat : Int)))) + (4))))) rfl ?_)
   obtain ⟨hT, hF⟩ := hS
   by_cases hb28 : ((ByteArray.size s1 : Nat) : Int) < (IntKind.wrap .i64 ((IntKind.wrap .i64 ((2) + (IntKind.wrap .i64 ((BitVec.ofInt (IntKind.bits .i64) (IntKind.wrap .i64 ((IntKind.wrap .i64 (byteAt s1 (Int.toNat (0)))) * 2 ^ (min (Int.toNat (8)) (IntKind.bits .i64)))) ||| BitVec.ofInt (IntKind.bits .i64) (IntKind.wrap .i64 (byteAt s1 (Int.toNat (1))))).toNat : Int)))) + (4)))
   ·have hS := hT hb28; clear hT hF
    refine Run.go rfl rfl rfl (sem_binI .i64 ((ByteArray.size s1 : Nat)) (IntKind.wrap .i64 ((IntKind.wrap .i64 ((2) + (IntKind.wrap .i64 ((BitVec.ofInt (IntKind.bits .i64) (IntKind.wrap .i64 ((IntKind.wrap .i64 (byteAt s1 (Int.toNat (0)))) * 2 ^ (min (Int.toNat (8)) (IntKind.bits .i64)))) ||| BitVec.ofInt (IntKind.bits .i64) (IntKind.wrap .i64 (byteAt s1 (Int.toNat (1))))).toNat : Int)))) + (4))) (.bool true) rfl rfl (binI_lss_t hb28) ?_)
    refine Run.go rfl rfl rfl (sem_pick false ((Value.bool true)) rfl rfl ?_)
    refine Run.region_end ?_
    refine Run.condT rfl ?_
    refine Run.seq ?_
    refine Run.ops0 (idx := [0, 1]) rfl ?_
    refine Run.go rfl rfl rfl (sem_assign ((Value.string (ByteArray.mk #[]))) rfl ?_)
    refine Run.go rfl rfl rfl (sem_assign ((Value.int .i64 (0))) rfl ?_)
    refine Run.region_end ?_
    refine Run.ret ⟨.inr rfl, ?_⟩
    exact hS.imp fun h' hq => ⟨(ByteArray.mk #[]), (0), rfl, hq⟩
   ·have hS := hF hb28; clear hT hF
    refine Run.go rfl rfl rfl (sem_binI .i64 ((ByteArray.size s1 : Nat)) (IntKind.wrap .i64 ((IntKind.wrap .i64 ((2) + (IntKind.wrap .i64 ((BitVec.ofInt (IntKind.bits .i64) (IntKind.wrap .i64 ((IntKind.wrap .i64 (byteAt s1 (Int.toNat (0)))) * 2 ^ (min (Int.toNat (8)) (IntKind.bits .i64)))) ||| BitVec.ofInt (IntKind.bits .i64) (IntKind.wrap .i64 (byteAt s1 (Int.toNat (1))))).toNat : Int)))) + (4))) (.bool false) rfl rfl (binI_lss_f hb28) ?_)
    refine Run.go rfl rfl rfl (sem_pick false ((Value.bool false)) rfl rfl ?_)
    refine Run.region_end ?_
    refine Run.condF rfl ?_
    refine Run.skip ?_
    exact Run.of_fin (hS.imp fun h' hS => j5 _ _ ⟨⟨rfl, rfl, rfl, trivial⟩, hS⟩)
set_option maxHeartbeats 4000000 in
theorem C_countermandref02_Close.of {B : RO} {s1 : ByteArray} {h : Heap} {Q : ByteArray → Heap → Prop} (hS : S_countermandref02_Close B s1 h Q) : C_countermandref02_Close B s1 h Q := by
 unfold S_countermandref02_Close at hS
 unfold C_countermandref02_Close
 refine Spec.of_run Try.func136 (N := 40) (rs := [ResultVar.tmp 2]) rfl rfl rfl (Nat.le_of_ble_eq_true rfl) ?_
 refine Run.seq ?_
 refine Run.ops0 (idx := [0]) rfl ?_
 refine Run.go rfl rfl rfl (sem_assign ((Value.string (ByteArray.mk #[]))) rfl ?_)
 refine Run.region_end ?_
 refine Run.seq ?_
 refine Run.seq ?_
 refine Run.ops0 (idx := [0, 1, 2]) rfl ?_
 refine Run.go rfl rfl rfl (sem_move ((Value.string s1)) rfl ?_)
 refine Run.go rfl rfl rfl (sem_lenStr s1 rfl TF.isStr_9 ?_)
 obtain ⟨hT, hF⟩ := hS
 by_cases hb3 : ((ByteArray.size s1 : Nat) : Int) > (1024)
 ·have hS := hT hb3; clear hT hF
  refine Run.go rfl rfl rfl (sem_binI .i64 ((ByteArray.size s1 : Nat)) (1024) (.bool true) rfl rfl (binI_gtr_t hb3) ?_)
  refine Run.region_end ?_
  refine Run.condT rfl ?_
  refine Run.seq ?_
  refine Run.ops0 (idx := [0]) rfl ?_
  refine Run.go rfl rfl rfl (sem_assign ((Value.string (ByteArray.mk #[]))) rfl ?_)
  refine Run.region_end ?_
  refine Run.ret ⟨.inr rfl, ?_⟩
  exact hS.imp fun h' hq => ⟨(ByteArray.mk #[]), rfl, hq⟩
 ·have hS := hF hb3; clear hT hF
  refine Run.go rfl rfl rfl (sem_binI .i64 ((ByteArray.size s1 : Nat)) (1024) (.bool false) rfl rfl (binI_gtr_f hb3) ?_)
  refine Run.region_end ?_
  refine Run.condF rfl ?_
  refine Run.skip ?_
  refine Run.seq ?_
  refine Run.ops0 (idx := [0, 1, 2, 3, 4, 5, 6, 7, 8, 9, 10, 11, 12]) rfl ?_
  refine Run.go rfl rfl rfl (sem_move ((Value.string s1)) rfl ?_)
  refine Run.go rfl rfl rfl (sem_lenStr s1 rfl TF.isStr_9 ?_)
  obtain ⟨hi0, hS⟩ := hS
  refine Run.go rfl rfl rfl (sem_binI .i64 ((ByteArray.size s1 : Nat)) (256) ((Value.int .i64 (IntKind.wrap .i64 (Int.tdiv ((ByteArray.size s1 : Nat)) (256))))) rfl rfl (binI_quo hi0) ?_)
  refine Run.go rfl rfl rfl (sem_convI .i64 .u8 (IntKind.wrap .i64 (Int.tdiv ((ByteArray.size s1 : Nat)) (256))) rfl TF.int_3 TF.int_5 ?_)
  refine Run.go rfl rfl rfl (sem_move ((Value.string s1)) rfl ?_)
  refine Run.go rfl rfl rfl (sem_lenStr s1 rfl TF.isStr_9 ?_)
  obtain ⟨hi0, hS⟩ := hS
  refine Run.go rfl rfl rfl (sem_binI .i64 ((ByteArray.size s1 : Nat)) (256) ((Value.int .i64 (Int.tmod ((ByteArray.size s1 : Nat)) (256)))) rfl rfl (binI_rem hi0) ?_)
  refine Run.go rfl rfl rfl (sem_convI .i64 .u8 (Int.tmod ((ByteArray.size s1 : Nat)) (256)) rfl TF.int_3 TF.int_5 ?_)
  refine Run.go rfl rfl rfl (sem_buildSliceL [(0, (Value.int .u8 (IntKind.wrap .u8 (IntKind.wrap .i64 (Int.tdiv ((ByteArray.size s1 : Nat)) (256)))))), (1, (Value.int .u8 (IntKind.wrap .u8 (Int.tmod ((ByteArray.size s1 : Nat)) (256)))))] [(Value.int .u8 (IntKind.wrap .u8 (IntKind.wrap .i64 (Int.tdiv ((ByteArray.size s1 : Nat)) (256))))), (Value.int .u8 (IntKind.wrap .u8 (Int.tmod ((ByteArray.size s1 : Nat)) (256))))] TF.slc_208 TF.zero_5 rfl (by decide) (by decide) rfl rfl (fun k4 hb1 hb2 h5 hb3 => ?_))
  have hS := hS k4 hb1 hb2 h5 hb3
  refine Run.go rfl rfl rfl (sem_convW ((Value.slice (some ⟨k4, 0, none⟩) 2 2)) rfl (semH_mono (fun v h7 hv => ?_) hS))
  obtain ⟨s6, rfl, hS⟩ := hv
  refine Run.go rfl rfl rfl (sem_move ((Value.string s1)) rfl ?_)
  obtain ⟨hi0, hS⟩ := hS
  refine Run.go rfl rfl rfl (sem_strAdd s6 s1 rfl rfl hi0 ?_)
  refine Run.go rfl rfl rfl (sem_assign ((Value.string (s6 ++ s1))) rfl ?_)
  refine Run.region_end ?_
  refine Run.seq ?_
  refine Run.ops0 (idx := [0, 1, 2]) rfl ?_
  refine Run.go rfl rfl rfl (sem_move ((Value.string (s6 ++ s1))) rfl ?_)
  refine Run.go rfl rfl rfl (sem_callL [(Value.string (s6 ++ s1))] (TF.goes_159) rfl rfl (Spec.mono hS fun v h8 hv => ?_))
  obtain ⟨i9, rfl, hS⟩ := hv
  refine Run.go rfl rfl rfl (sem_assign ((Value.int .u32 (i9))) rfl ?_)
  refine Run.region_end ?_
  refine Run.seq ?_
  refine Run.ops0 (idx := [0, 1, 2, 3, 4, 5, 6, 7, 8, 9, 10, 11, 12, 13, 14, 15, 16, 17, 18]) rfl ?_
  refine Run.go rfl rfl rfl (sem_move ((Value.string (s6 ++ s1))) rfl ?_)
  refine Run.go rfl rfl rfl (sem_move ((Value.int .u32 (i9))) rfl ?_)
  obtain ⟨hi0, hS⟩ := hS
  refine Run.go rfl rfl rfl (sem_binI .u32 (i9) (256) ((Value.int .u32 (Int.tmod (i9) (256)))) rfl rfl (binI_rem hi0) ?_)
  refine Run.go rfl rfl rfl (sem_convI .u32 .u8 (Int.tmod (i9) (256)) rfl TF.int_243 TF.int_5 ?_)
  refine Run.go rfl rfl rfl (sem_move ((Value.int .u32 (i9))) rfl ?_)
  obtain ⟨hi0, hS⟩ := hS
  refine Run.go rfl rfl rfl (sem_binI .u32 (i9) (256) ((Value.int .u32 (IntKind.wrap .u32 (Int.tdiv (i9) (256))))) rfl rfl (binI_quo hi0) ?_)
  obtain ⟨hi0, hS⟩ := hS
  refine Run.go rfl rfl rfl (sem_binI .u32 (IntKind.wrap .u32 (Int.tdiv (i9) (256))) (256) ((Value.int .u32 (Int.tmod (IntKind.wrap .u32 (Int.tdiv (i9) (256))) (256)))) rfl rfl (binI_rem hi0) ?_)
  refine Run.go rfl rfl rfl (sem_convI .u32 .u8 (Int.tmod (IntKind.wrap .u32 (Int.tdiv (i9) (256))) (256)) rfl TF.int_243 TF.int_5 ?_)
  refine Run.go rfl rfl rfl (sem_move ((Value.int .u32 (i9))) rfl ?_)
  obtain ⟨hi0, hS⟩ := hS
  refine Run.go rfl rfl rfl (sem_binI .u32 (i9) (65536) ((Value.int .u32 (IntKind.wrap .u32 (Int.tdiv (i9) (65536))))) rfl rfl (binI_quo hi0) ?_)
  obtain ⟨hi0, hS⟩ := hS
  refine Run.go rfl rfl rfl (sem_binI .u32 (IntKind.wrap .u32 (Int.tdiv (i9) (65536))) (256) ((Value.int .u32 (Int.tmod (IntKind.wrap .u32 (Int.tdiv (i9) (65536))) (256)))) rfl rfl (binI_rem hi0) ?_)
  refine Run.go rfl rfl rfl (sem_convI .u32 .u8 (Int.tmod (IntKind.wrap .u32 (Int.tdiv (i9) (65536))) (256)) rfl TF.int_243 TF.int_5 ?_)
  refine Run.go rfl rfl rfl (sem_move ((Value.int .u32 (i9))) rfl ?_)
  obtain ⟨hi0, hS⟩ := hS
  refine Run.go rfl rfl rfl (sem_binI .u32 (i9) (16777216) ((Value.int .u32 (IntKind.wrap .u32 (Int.tdiv (i9) (16777216))))) rfl rfl (binI_quo hi0) ?_)
  refine Run.go rfl rfl rfl (sem_convI .u32 .u8 (IntKind.wrap .u32 (Int.tdiv (i9) (16777216))) rfl TF.int_243 TF.int_5 ?_)
  refine Run.go rfl rfl rfl (sem_buildSliceL [(0, (Value.int .u8 (IntKind.wrap .u8 (Int.tmod (i9) (256))))), (1, (Value.int .u8 (IntKind.wrap .u8 (Int.tmod (IntKind.wrap .u32 (Int.tdiv (i9) (256))) (256))))), (2, (Value.int .u8 (IntKind.wrap .u8 (Int.tmod (IntKind.wrap .u32 (Int.tdiv (i9) (65536))) (256))))), (3, (Value.int .u8 (IntKind.wrap .u8 (IntKind.wrap .u32 (Int.tdiv (i9) (16777216))))))] [(Value.int .u8 (IntKind.wrap .u8 (Int.tmod (i9) (256)))), (Value.int .u8 (IntKind.wrap .u8 (Int.tmod (IntKind.wrap .u32 (Int.tdiv (i9) (256))) (256)))), (Value.int .u8 (IntKind.wrap .u8 (Int.tmod (IntKind.wrap .u32 (Int.tdiv (i9) (65536))) (256)))), (Value.int .u8 (IntKind.wrap .u8 (IntKind.wrap .u32 (Int.tdiv (i9) (16777216)))))] TF.slc_208 TF.zero_5 rfl (by decide) (by decide) rfl rfl (fun k10 hb1 hb2 h11 hb3 => ?_))
  have hS := hS k10 hb1 hb2 h11 hb3
  refine Run.go rfl rfl rfl (sem_convW ((Value.slice (some ⟨k10, 0, none⟩) 4 4)) rfl (semH_mono (fun v h13 hv => ?_) hS))
  obtain ⟨s12, rfl, hS⟩ := hv
  obtain ⟨hi0, hS⟩ := hS
  refine Run.go rfl rfl rfl (sem_strAdd (s6 ++ s1) s12 rfl rfl hi0 ?_)
  refine Run.go rfl rfl rfl (sem_assign ((Value.string ((s6 ++ s1) ++ s12))) rfl ?_)
  refine Run.region_end ?_
  refine Run.ret ⟨.inr rfl, ?_⟩
  exact hS.imp fun h' hq => ⟨((s6 ++ s1) ++ s12), rfl, hq⟩
set_option maxHeartbeats 4000000 in
theorem C_countermandref03_Disk_Reset.of {B : RO} {p1 : Option Addr} {i2 : Int} {h : Heap} {Q : Int → Heap → Prop} (hS : S_countermandref03_Disk_Reset B p1 i2 h Q) : C_countermandref03_Disk_Reset B p1 i2 h Q := by
 unfold S_countermandref03_Disk_Reset at hS
 unfold C_countermandref03_Disk_Reset
 refine Spec.of_run Try.func137 (N := 24) (rs := [ResultVar.tmp 4]) rfl rfl rfl (Nat.le_of_ble_eq_true rfl) ?_
 refine Run.seq ?_
 refine Run.ops0 (idx := [0]) rfl ?_
 refine Run.go rfl rfl rfl (sem_assign ((Value.int .i64 (0))) rfl ?_)
 refine Run.region_end ?_
 refine Run.seqJ (fun e h5 => Agree [(0, (Value.pointer p1)), (1, (Value.int .i64 (i2)))] e ∧ S_countermandref03_Disk_Reset_J1 B p1 i2 h5 Q) ?_ fun j4 => ?_
 ·rintro e h5 ⟨hag, hS⟩
  refine Run.env hag ?_; clear hag
  refine Run.seq ?_
  refine Run.ops0 (idx := [0, 1, 2, 3, 4, 5, 6, 7, 8, 9, 10, 11, 12, 13]) rfl ?_
  refine Run.go rfl rfl rfl (sem_move ((Value.pointer p1)) rfl ?_)
  refine Run.go rfl rfl rfl (sem_buildSlice0N TF.slc_92 (fun k6 hb1 hb2 h7 hb3 => ?_))
  have hS := hS k6 hb1 hb2 h7 hb3
  refine Run.go rfl rfl rfl (sem_move ((Value.pointer p1)) rfl ?_)
  obtain ⟨A8, e9, hS⟩ := hS
  refine Run.go rfl rfl rfl (sem_nilCheck A8 (congrArg Value.pointer e9) ?_)
  refine Run.go rfl rfl rfl (sem_fieldAddr A8 0 rfl TF.fld_94_0 ?_)
  refine Run.ldSl hS fun a10 n11 c12 h13 hl hS => ?_
  refine Run.go rfl rfl rfl (sem_load1 A8 ((Value.slice a10 n11 c12)) rfl TF.agg_92 hl ?_)
  refine Run.go rfl rfl rfl (sem_appendL [(Value.slice (some ⟨k6, 0, none⟩) 0 0), (Value.slice a10 n11 c12)] rfl (semH_mono (fun v h14 hv => ?_) hS))
  obtain ⟨a15, n16, c17, rfl, hS⟩ := hv
  refine Run.go rfl rfl rfl (sem_move ((Value.int .i64 (i2))) rfl ?_)
  refine Run.go rfl rfl rfl (sem_buildSL [(0, (Value.int .i64 (i2))), (1, (Value.bool true))] [(Value.int .i64 (i2)), (Value.bool true), (Value.string ByteArray.empty)] TF.zero_189 TF.places_189 rfl rfl ?_)
  refine Run.go rfl rfl rfl (sem_buildSliceL [(0, (Value.agg #[(Value.int .i64 (i2)), (Value.bool true), (Value.string ByteArray.empty)]))] [(Value.int .i64 (i2)), (Value.bool true), (Value.string ByteArray.empty)] TF.slc_92 TF.zero_189 rfl (by decide) (by decide) rfl rfl (fun k18 hb1 hb2 h19 hb3 => ?_))
  have hS := hS k18 hb1 hb2 h19 hb3
  refine Run.go rfl rfl rfl (sem_appendL [(Value.slice a15 n16 c17), (Value.slice (some ⟨k18, 0, none⟩) 1 1)] rfl (semH_mono (fun v h20 hv => ?_) hS))
  obtain ⟨a21, n22, c23, rfl, hS⟩ := hv
  obtain ⟨A24, e25, hS⟩ := hS
  refine Run.go rfl rfl rfl (sem_nilCheck A24 (congrArg Value.pointer e25) ?_)
  refine Run.go rfl rfl rfl (sem_fieldAddr A24 0 rfl TF.fld_94_0 ?_)
  obtain ⟨h26, hst, hS⟩ := hS
  refine Run.go rfl rfl rfl (sem_store1 A24 ((Value.slice a21 n22 c23)) h26 rfl rfl rfl TF.sz_92 hst ?_)
  refine Run.region_end ?_
  refine Run.seq ?_
  refine Run.ops0 (idx := [0]) rfl ?_
  refine Run.go rfl rfl rfl (sem_assign ((Value.int .i64 (0))) rfl ?_)
  refine Run.region_end ?_
  refine Run.ret ⟨.inr rfl, ?_⟩
  exact hS.imp fun h' hq => ⟨(0), rfl, hq⟩
 refine Run.seq ?_
 refine Run.ops0 (idx := [0, 1, 2, 3, 4, 5]) rfl ?_
 refine Run.go rfl rfl rfl (sem_move ((Value.int .i64 (i2))) rfl ?_)
 obtain ⟨hT, hF⟩ := hS
 by_cases hb27 : (i2 : Int) = 0
 ·have hS := hT hb27; clear hT hF
  refine Run.go rfl rfl rfl (sem_binI .i64 (i2) (0) (.bool false) rfl rfl (binI_neq_t hb27) ?_)
  refine Run.go rfl rfl rfl (sem_move ((Value.bool false)) rfl ?_)
  refine Run.no rfl rfl rfl ?_
  refine Run.no rfl rfl rfl ?_
  refine Run.go rfl rfl rfl (sem_pick false ((Value.bool false)) rfl rfl ?_)
  refine Run.region_end ?_
  refine Run.condF rfl ?_
  refine Run.skip ?_
  exact Run.of_fin (hS.imp fun h' hS => j4 _ _ ⟨⟨rfl, rfl, trivial⟩, hS⟩)
 ·have hS := hF hb27; clear hT hF
  refine Run.go rfl rfl rfl (sem_binI .i64 (i2) (0) (.bool true) rfl rfl (binI_neq_f hb27) ?_)
  refine Run.go rfl rfl rfl (sem_move ((Value.bool true)) rfl ?_)
  refine Run.go rfl rfl rfl (sem_move ((Value.int .i64 (i2))) rfl ?_)
  obtain ⟨hT, hF⟩ := hS
  by_cases hb28 : (i2 : Int) = 1
  ·have hS := hT hb28; clear hT hF
   refine Run.go rfl rfl rfl (sem_binI .i64 (i2) (1) (.bool false) rfl rfl (binI_neq_t hb28) ?_)
   refine Run.go rfl rfl rfl (sem_pick true ((Value.bool false)) rfl rfl ?_)
   refine Run.region_end ?_
   refine Run.condF rfl ?_
   refine Run.skip ?_
   exact Run.of_fin (hS.imp fun h' hS => j4 _ _ ⟨⟨rfl, rfl, trivial⟩, hS⟩)
  ·have hS := hF hb28; clear hT hF
   refine Run.go rfl rfl rfl (sem_binI .i64 (i2) (1) (.bool true) rfl rfl (binI_neq_f hb28) ?_)
   refine Run.go rfl rfl rfl (sem_pick true ((Value.bool true)) rfl rfl ?_)
   refine Run.region_end ?_
   refine Run.condT rfl ?_
   refine Run.seq ?_
   refine Run.ops0 (idx := [0]) rfl ?_
   refine Run.go rfl rfl rfl (sem_assign ((Value.int .i64 (1))) rfl ?_)
   refine Run.region_end ?_
   refine Run.ret ⟨.inr rfl, ?_⟩
   exact hS.imp fun h' hq => ⟨(1), rfl, hq⟩
set_option maxHeartbeats 4000000 in
theorem C_countermandref02_Sum.of {B : RO} {s1 : ByteArray} {h : Heap} {Q : Int → Heap → Prop} (hS : S_countermandref02_Sum B s1 h Q) : C_countermandref02_Sum B s1 h Q := by
 unfold S_countermandref02_Sum at hS
 unfold C_countermandref02_Sum
 refine Spec.of_run Try.func159 (N := 37) (rs := [ResultVar.tmp 2]) rfl rfl rfl (Nat.le_of_ble_eq_true rfl) ?_
 refine Run.seq ?_
 refine Run.ops0 (idx := [0]) rfl ?_
 refine Run.go rfl rfl rfl (sem_assign ((Value.int .u32 (0))) rfl ?_)
 refine Run.region_end ?_
 refine Run.seq ?_
 refine Run.ops0 (idx := [0]) rfl ?_
 refine Run.go rfl rfl rfl (sem_assign ((Value.int .u32 (4294967295))) rfl ?_)
 refine Run.region_end ?_
 refine Run.seq ?_
 refine Run.seq ?_
 refine Run.ops0 (idx := [0]) rfl ?_
 refine Run.go rfl rfl rfl (sem_assign ((Value.int .i64 (0))) rfl ?_)
 refine Run.region_end ?_
 refine Run.block ?_
 obtain ⟨J9, m7, h0, hS⟩ := hS
 refine Run.of_fin (h0.imp fun h' h0 => ?_)
 refine Run.loop (σ := Int × Int × Nat) (fun x e h => J9 x.1 x.2.1 x.2.2 h ∧ Agree [(0, (Value.string s1)), (3, (Value.int .u32 (x.1))), (4, (Value.int .i64 (x.2.1)))] e) (fun x => x.2.2) ((4294967295), (0), m7) ⟨h0, ⟨rfl, rfl, rfl, trivial⟩⟩ ?_; clear h0
 rintro ⟨i3, i4, m6⟩ e h5 ⟨hJ, hag⟩ ih8
 have hS := hS i3 i4 m6 h5 hJ; clear hJ
 refine Run.env hag ?_; clear hag
 refine Run.seq ?_
 refine Run.seq ?_
 refine Run.ops0 (idx := [0, 1, 2, 3]) rfl ?_
 refine Run.go rfl rfl rfl (sem_move ((Value.int .i64 (i4))) rfl ?_)
 refine Run.go rfl rfl rfl (sem_move ((Value.string s1)) rfl ?_)
 refine Run.go rfl rfl rfl (sem_lenStr s1 rfl TF.isStr_9 ?_)
 obtain ⟨hT, hF⟩ := hS
 by_cases hb10 : (i4 : Int) < ((ByteArray.size s1 : Nat))
 ·have hS := hT hb10; clear hT hF
  refine Run.go rfl rfl rfl (sem_binI .i64 (i4) ((ByteArray.size s1 : Nat)) (.bool true) rfl rfl (binI_lss_t hb10) ?_)
  refine Run.region_end ?_
  refine Run.condT rfl ?_
  refine Run.skip ?_
  refine Run.seq ?_
  refine Run.block ?_
  refine Run.seq ?_
  refine Run.ops0 (idx := [0, 1, 2, 3]) rfl ?_
  refine Run.go rfl rfl rfl (sem_move ((Value.string s1)) rfl ?_)
  refine Run.go rfl rfl rfl (sem_move ((Value.int .i64 (i4))) rfl ?_)
  obtain ⟨hi0, hi1, hS⟩ := hS
  refine Run.go rfl rfl rfl (sem_indexStr' s1 .i64 (i4) rfl rfl TF.isStr_9 hi0 hi1 ?_)
  refine Run.go rfl rfl rfl (sem_assign ((Value.int .u8 (byteAt s1 (Int.toNat (i4))))) rfl ?_)
  refine Run.region_end ?_
  refine Run.seq ?_
  refine Run.ops0 (idx := [0]) rfl ?_
  refine Run.go rfl rfl rfl (sem_assign ((Value.int .i64 (0))) rfl ?_)
  refine Run.region_end ?_
  refine Run.block ?_
  obtain ⟨J18, m16, h0, hS⟩ := hS
  refine Run.of_fin (h0.imp fun h' h0 => ?_)
  refine Run.loop (σ := Int × Int × Int × Nat) (fun x e h => J18 x.1 x.2.1 x.2.2.1 x.2.2.2 h ∧ Agree [(0, (Value.string s1)), (3, (Value.int .u32 (x.1))), (4, (Value.int .i64 (i4))), (5, (Value.int .u8 (x.2.1))), (6, (Value.int .i64 (x.2.2.1)))] e) (fun x => x.2.2.2) ((i3), (byteAt s1 (Int.toNat (i4))), (0), m16) ⟨h0, ⟨rfl, rfl, rfl, rfl, rfl, trivial⟩⟩ ?_; clear h0
  rintro ⟨i11, i12, i13, m15⟩ e h14 ⟨hJ, hag⟩ ih17
  have hS := hS i11 i12 i13 m15 h14 hJ; clear hJ
  refine Run.env hag ?_; clear hag
  refine Run.seq ?_
  refine Run.seq ?_
  refine Run.ops0 (idx := [0, 1]) rfl ?_
  refine Run.go rfl rfl rfl (sem_move ((Value.int .i64 (i13))) rfl ?_)
  obtain ⟨hT, hF⟩ := hS
  by_cases hb19 : (i13 : Int) < (8)
  ·have hS := hT hb19; clear hT hF
   refine Run.go rfl rfl rfl (sem_binI .i64 (i13) (8) (.bool true) rfl rfl (binI_lss_t hb19) ?_)
   refine Run.region_end ?_
   refine Run.condT rfl ?_
   refine Run.skip ?_
   refine Run.seq ?_
   refine Run.block ?_
   refine Run.seq ?_
   refine Run.ops0 (idx := [0, 1, 2, 3, 4, 5, 6, 7]) rfl ?_
   refine Run.go rfl rfl rfl (sem_move ((Value.int .u32 (i11))) rfl ?_)
   obtain ⟨hi0, hS⟩ := hS
   refine Run.go rfl rfl rfl (sem_binI .u32 (i11) (2) ((Value.int .u32 (Int.tmod (i11) (2)))) rfl rfl (binI_rem hi0) ?_)
   refine Run.go rfl rfl rfl (sem_binI .u32 (Int.tmod (i11) (2)) (1) ((Value.bool ((Int.tmod (i11) (2) : Int) == (1)))) rfl rfl rfl ?_)
   refine Run.go rfl rfl rfl (sem_move ((Value.int .u8 (i12))) rfl ?_)
   obtain ⟨hi0, hS⟩ := hS
   refine Run.go rfl rfl rfl (sem_binI .u8 (i12) (2) ((Value.int .u8 (Int.tmod (i12) (2)))) rfl rfl (binI_rem hi0) ?_)
   refine Run.go rfl rfl rfl (sem_binI .u8 (Int.tmod (i12) (2)) (1) ((Value.bool ((Int.tmod (i12) (2) : Int) == (1)))) rfl rfl rfl ?_)
   obtain ⟨hT, hF⟩ := hS
   by_cases hb20 : ((Int.tmod (i11) (2) : Int) == (1)) = ((Int.tmod (i12) (2) : Int) == (1))
   ·have hS := hT hb20; clear hT hF
    refine Run.go rfl rfl rfl (sem_boolEqT ((Int.tmod (i11) (2) : Int) == (1)) ((Int.tmod (i12) (2) : Int) == (1)) (.inr rfl) false rfl rfl TF.bool_4 hb20 rfl ?_)
    refine Run.go rfl rfl rfl (sem_assign ((Value.bool false)) rfl ?_)
    refine Run.region_end ?_
    refine Run.seq ?_
    refine Run.ops0 (idx := [0, 1, 2]) rfl ?_
    refine Run.go rfl rfl rfl (sem_move ((Value.int .u32 (i11))) rfl ?_)
    obtain ⟨hi0, hS⟩ := hS
    refine Run.go rfl rfl rfl (sem_binI .u32 (i11) (2) ((Value.int .u32 (IntKind.wrap .u32 (Int.tdiv (i11) (2))))) rfl rfl (binI_quo hi0) ?_)
    refine Run.go rfl rfl rfl (sem_assign ((Value.int .u32 (IntKind.wrap .u32 (Int.tdiv (i11) (2))))) rfl ?_)
    refine Run.region_end ?_
    refine Run.seq ?_
    refine Run.ops0 (idx := [0, 1, 2]) rfl ?_
    refine Run.go rfl rfl rfl (sem_move ((Value.int .u8 (i12))) rfl ?_)
    obtain ⟨hi0, hS⟩ := hS
    refine Run.go rfl rfl rfl (sem_binI .u8 (i12) (2) ((Value.int .u8 (IntKind.wrap .u8 (Int.tdiv (i12) (2))))) rfl rfl (binI_quo hi0) ?_)
    refine Run.go rfl rfl rfl (sem_assign ((Value.int .u8 (IntKind.wrap .u8 (Int.tdiv (i12) (2))))) rfl ?_)
    refine Run.region_end ?_
    refine Run.seq ?_
    refine Run.ops0 (idx := [0]) rfl ?_
    refine Run.go rfl rfl rfl (sem_move ((Value.bool false)) rfl ?_)
    refine Run.region_end ?_
    refine Run.condF rfl ?_
    refine Run.skip ?_
    refine Run.inBlock ?_
    refine Run.ops0 (idx := [0, 1, 2]) rfl ?_
    refine Run.go rfl rfl rfl (sem_move ((Value.int .i64 (i13))) rfl ?_)
    refine Run.go rfl rfl rfl (sem_binI .i64 (i13) (1) ((Value.int .i64 (IntKind.wrap .i64 ((i13) + (1))))) rfl rfl rfl ?_)
    refine Run.go rfl rfl rfl (sem_assign ((Value.int .i64 (IntKind.wrap .i64 ((i13) + (1))))) rfl ?_)
    refine Run.region_end ?_
    exact Run.of_fin (hS.imp fun h' ⟨m', hm, hS⟩ => ih17 ((IntKind.wrap .u32 (Int.tdiv (i11) (2))), (IntKind.wrap .u8 (Int.tdiv (i12) (2))), (IntKind.wrap .i64 ((i13) + (1))), m') _ _ ⟨hS, ⟨rfl, rfl, rfl, rfl, rfl, trivial⟩⟩ hm)
   ·have hS := hF hb20; clear hT hF
    refine Run.go rfl rfl rfl (sem_boolEqF ((Int.tmod (i11) (2) : Int) == (1)) ((Int.tmod (i12) (2) : Int) == (1)) (.inr rfl) true rfl rfl TF.bool_4 hb20 rfl ?_)
    refine Run.go rfl rfl rfl (sem_assign ((Value.bool true)) rfl ?_)
    refine Run.region_end ?_
    refine Run.seq ?_
    refine Run.ops0 (idx := [0, 1, 2]) rfl ?_
    refine Run.go rfl rfl rfl (sem_move ((Value.int .u32 (i11))) rfl ?_)
    obtain ⟨hi0, hS⟩ := hS
    refine Run.go rfl rfl rfl (sem_binI .u32 (i11) (2) ((Value.int .u32 (IntKind.wrap .u32 (Int.tdiv (i11) (2))))) rfl rfl (binI_quo hi0) ?_)
    refine Run.go rfl rfl rfl (sem_assign ((Value.int .u32 (IntKind.wrap .u32 (Int.tdiv (i11) (2))))) rfl ?_)
    refine Run.region_end ?_
    refine Run.seq ?_
    refine Run.ops0 (idx := [0, 1, 2]) rfl ?_
    refine Run.go rfl rfl rfl (sem_move ((Value.int .u8 (i12))) rfl ?_)
    obtain ⟨hi0, hS⟩ := hS
    refine Run.go rfl rfl rfl (sem_binI .u8 (i12) (2) ((Value.int .u8 (IntKind.wrap .u8 (Int.tdiv (i12) (2))))) rfl rfl (binI_quo hi0) ?_)
    refine Run.go rfl rfl rfl (sem_assign ((Value.int .u8 (IntKind.wrap .u8 (Int.tdiv (i12) (2))))) rfl ?_)
    refine Run.region_end ?_
    refine Run.seq ?_
    refine Run.ops0 (idx := [0]) rfl ?_
    refine Run.go rfl rfl rfl (sem_move ((Value.bool true)) rfl ?_)
    refine Run.region_end ?_
    refine Run.condT rfl ?_
    refine Run.ops0 (idx := [0, 1, 2]) rfl ?_
    refine Run.go rfl rfl rfl (sem_move ((Value.int .u32 (IntKind.wrap .u32 (Int.tdiv (i11) (2))))) rfl ?_)
    refine Run.go rfl rfl rfl (sem_binI .u32 (IntKind.wrap .u32 (Int.tdiv (i11) (2))) (2197175160) ((Value.int .u32 (IntKind.wrap .u32 ((BitVec.ofInt (IntKind.bits .u32) (IntKind.wrap .u32 (Int.tdiv (i11) (2))) ^^^ BitVec.ofInt (IntKind.bits .u32) (2197175160)).toNat : Int)))) rfl rfl rfl ?_)
    refine Run.go rfl rfl rfl (sem_assign ((Value.int .u32 (IntKind.wrap .u32 ((BitVec.ofInt (IntKind.bits .u32) (IntKind.wrap .u32 (Int.tdiv (i11) (2))) ^^^ BitVec.ofInt (IntKind.bits .u32) (2197175160)).toNat : Int)))) rfl ?_)
    refine Run.region_end ?_
    refine Run.inBlock ?_
    refine Run.ops0 (idx := [0, 1, 2]) rfl ?_
    refine Run.go rfl rfl rfl (sem_move ((Value.int .i64 (i13))) rfl ?_)
    refine Run.go rfl rfl rfl (sem_binI .i64 (i13) (1) ((Value.int .i64 (IntKind.wrap .i64 ((i13) + (1))))) rfl rfl rfl ?_)
    refine Run.go rfl rfl rfl (sem_assign ((Value.int .i64 (IntKind.wrap .i64 ((i13) + (1))))) rfl ?_)
    refine Run.region_end ?_
    exact Run.of_fin (hS.imp fun h' ⟨m', hm, hS⟩ => ih17 ((IntKind.wrap .u32 ((BitVec.ofInt (IntKind.bits .u32) (IntKind.wrap .u32 (Int.tdiv (i11) (2))) ^^^ BitVec.ofInt (IntKind.bits .u32) (2197175160)).toNat : Int)), (IntKind.wrap .u8 (Int.tdiv (i12) (2))), (IntKind.wrap .i64 ((i13) + (1))), m') _ _ ⟨hS, ⟨rfl, rfl, rfl, rfl, rfl, trivial⟩⟩ hm)
  ·have hS := hF hb19; clear hT hF
   refine Run.go rfl rfl rfl (sem_binI .i64 (i13) (8) (.bool false) rfl rfl (binI_lss_f hb19) ?_)
   refine Run.region_end ?_
   refine Run.condF rfl ?_
   refine Run.exit rfl ?_
   refine Run.inBlock ?_
   refine Run.ops0 (idx := [0, 1, 2]) rfl ?_
   refine Run.go rfl rfl rfl (sem_move ((Value.int .i64 (i4))) rfl ?_)
   refine Run.go rfl rfl rfl (sem_binI .i64 (i4) (1) ((Value.int .i64 (IntKind.wrap .i64 ((i4) + (1))))) rfl rfl rfl ?_)
   refine Run.go rfl rfl rfl (sem_assign ((Value.int .i64 (IntKind.wrap .i64 ((i4) + (1))))) rfl ?_)
   refine Run.region_end ?_
   exact Run.of_fin (hS.imp fun h' ⟨m', hm, hS⟩ => ih8 ((i11), (IntKind.wrap .i64 ((i4) + (1))), m') _ _ ⟨hS, ⟨rfl, rfl, rfl, trivial⟩⟩ hm)
 ·have hS := hF hb10; clear hT hF
  refine Run.go rfl rfl rfl (sem_binI .i64 (i4) ((ByteArray.size s1 : Nat)) (.bool false) rfl rfl (binI_lss_f hb10) ?_)
  refine Run.region_end ?_
  refine Run.condF rfl ?_
  refine Run.exit rfl ?_
  refine Run.seq ?_
  refine Run.ops0 (idx := [0, 1, 2]) rfl ?_
  refine Run.go rfl rfl rfl (sem_move ((Value.int .u32 (i3))) rfl ?_)
  refine Run.go rfl rfl rfl (sem_binI .u32 (4294967295) (i3) ((Value.int .u32 (IntKind.wrap .u32 ((4294967295) - (i3))))) rfl rfl rfl ?_)
  refine Run.go rfl rfl rfl (sem_assign ((Value.int .u32 (IntKind.wrap .u32 ((4294967295) - (i3))))) rfl ?_)
  refine Run.region_end ?_
  refine Run.ret ⟨.inr rfl, ?_⟩
  exact hS.imp fun h' hq => ⟨(IntKind.wrap .u32 ((4294967295) - (i3))), rfl, hq⟩
end Go.Proofs.Ythloobpjkeodgaa.H
