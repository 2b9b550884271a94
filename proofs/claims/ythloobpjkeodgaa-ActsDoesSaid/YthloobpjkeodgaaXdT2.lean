/- The functions do what they ask for. No condition. -/
import Derived.Test.YthloobpjkeodgaaXdS
namespace Go.Proofs.Ythloobpjkeodgaa.H
open Go
set_option linter.unusedVariables false
set_option maxRecDepth 100000

set_option maxHeartbeats 4000000 in
theorem C_acts_Acts_Note.of {B : RO} {p1 : Option Addr} {i2 : Int} {h : Heap} {Q : Bool → Heap → Prop} (hS : S_acts_Acts_Note B p1 i2 h Q) : C_acts_Acts_Note B p1 i2 h Q := by
 unfold S_acts_Acts_Note at hS
 unfold C_acts_Acts_Note
 refine Spec.of_run Try.func32 (N := 17) (rs := [ResultVar.tmp 4]) rfl rfl rfl (Nat.le_of_ble_eq_true rfl) ?_
 refine Run.seq ?_
 refine Run.ops0 (idx := [0]) rfl ?_
 refine Run.go rfl rfl rfl (sem_assign ((Value.bool false)) rfl ?_)
 refine Run.region_end ?_
 refine Run.seq ?_
 refine Run.seq ?_
 refine Run.ops0 (idx := [0, 1]) rfl ?_
 refine Run.go rfl rfl rfl (sem_move ((Value.pointer p1)) rfl ?_)
 obtain ⟨hT, hF⟩ := hS
 by_cases hb4 : p1 = none
 ·have hS := hT hb4; clear hT hF
  refine Run.go rfl rfl rfl (sem_ptrNilT p1 (.inl rfl) true rfl rfl TF.ptr_24 hb4 rfl ?_)
  refine Run.region_end ?_
  refine Run.condT rfl ?_
  refine Run.seq ?_
  refine Run.ops0 (idx := [0]) rfl ?_
  refine Run.go rfl rfl rfl (sem_assign ((Value.bool false)) rfl ?_)
  refine Run.region_end ?_
  refine Run.ret ⟨.inr rfl, ?_⟩
  exact hS.imp fun h' hq => ⟨(false), rfl, hq⟩
 ·have hS := hF hb4; clear hT hF
  refine Run.go rfl rfl rfl (sem_ptrNilF p1 (.inl rfl) false rfl rfl TF.ptr_24 hb4 rfl ?_)
  refine Run.region_end ?_
  refine Run.condF rfl ?_
  refine Run.skip ?_
  refine Run.seq ?_
  refine Run.ops0 (idx := [0, 1, 2, 3, 4, 5, 6, 7, 8, 9, 10]) rfl ?_
  refine Run.go rfl rfl rfl (sem_move ((Value.pointer p1)) rfl ?_)
  refine Run.go rfl rfl rfl (sem_move ((Value.pointer p1)) rfl ?_)
  obtain ⟨A5, e6, hS⟩ := hS
  refine Run.go rfl rfl rfl (sem_nilCheck A5 (congrArg Value.pointer e6) ?_)
  refine Run.go rfl rfl rfl (sem_fieldAddr A5 2 rfl TF.fld_29_2 ?_)
  refine Run.ldSl hS fun a7 n8 c9 h10 hl hS => ?_
  refine Run.go rfl rfl rfl (sem_load1 (Addr.add A5 2) ((Value.slice a7 n8 c9)) rfl TF.agg_26 hl ?_)
  refine Run.go rfl rfl rfl (sem_move ((Value.int .i64 (i2))) rfl ?_)
  refine Run.go rfl rfl rfl (sem_buildSliceL [(0, (Value.int .i64 (i2)))] [(Value.int .i64 (i2))] TF.slc_26 TF.zero_3 rfl (by decide) (by decide) rfl rfl (fun k11 hb1 hb2 h12 hb3 => ?_))
  have hS := hS k11 hb1 hb2 h12 hb3
  refine Run.go rfl rfl rfl (sem_appendL [(Value.slice a7 n8 c9), (Value.slice (some ⟨k11, 0, none⟩) 1 1)] rfl (semH_mono (fun v h13 hv => ?_) hS))
  obtain ⟨a14, n15, c16, rfl, hS⟩ := hv
  obtain ⟨A17, e18, hS⟩ := hS
  refine Run.go rfl rfl rfl (sem_nilCheck A17 (congrArg Value.pointer e18) ?_)
  refine Run.go rfl rfl rfl (sem_fieldAddr A17 2 rfl TF.fld_29_2 ?_)
  obtain ⟨h19, hst, hS⟩ := hS
  refine Run.go rfl rfl rfl (sem_store1 (Addr.add A17 2) ((Value.slice a14 n15 c16)) h19 rfl rfl rfl TF.sz_26 hst ?_)
  refine Run.region_end ?_
  refine Run.seq ?_
  refine Run.ops0 (idx := [0]) rfl ?_
  refine Run.go rfl rfl rfl (sem_assign ((Value.bool true)) rfl ?_)
  refine Run.region_end ?_
  refine Run.ret ⟨.inr rfl, ?_⟩
  exact hS.imp fun h' hq => ⟨(true), rfl, hq⟩
set_option maxHeartbeats 4000000 in
theorem C_acts_Acts_Opened.of {B : RO} {p1 : Option Addr} {i2 : Int} {i3 : Int} {h : Heap} {Q : Bool → Heap → Prop} (hS : S_acts_Acts_Opened B p1 i2 i3 h Q) : C_acts_Acts_Opened B p1 i2 i3 h Q := by
 unfold S_acts_Acts_Opened at hS
 unfold C_acts_Acts_Opened
 refine Spec.of_run Try.func33 (N := 29) (rs := [ResultVar.tmp 6]) rfl rfl rfl (Nat.le_of_ble_eq_true rfl) ?_
 refine Run.seq ?_
 refine Run.ops0 (idx := [0]) rfl ?_
 refine Run.go rfl rfl rfl (sem_assign ((Value.bool false)) rfl ?_)
 refine Run.region_end ?_
 refine Run.seqJ (fun e h6 => Agree [(0, (Value.pointer p1)), (1, (Value.int .i64 (i2))), (2, (Value.int .i64 (i3)))] e ∧ S_acts_Acts_Opened_J1 B p1 i2 i3 h6 Q) ?_ fun j5 => ?_
 ·rintro e h6 ⟨hag, hS⟩
  refine Run.env hag ?_; clear hag
  refine Run.seq ?_
  refine Run.ops0 (idx := [0, 1, 2, 3, 4, 5, 6, 7, 8, 9, 10, 11, 12]) rfl ?_
  refine Run.go rfl rfl rfl (sem_move ((Value.pointer p1)) rfl ?_)
  refine Run.go rfl rfl rfl (sem_move ((Value.pointer p1)) rfl ?_)
  obtain ⟨A7, e8, hS⟩ := hS
  refine Run.go rfl rfl rfl (sem_nilCheck A7 (congrArg Value.pointer e8) ?_)
  refine Run.go rfl rfl rfl (sem_fieldAddr A7 3 rfl TF.fld_29_3 ?_)
  refine Run.ldSl hS fun a9 n10 c11 h12 hl hS => ?_
  refine Run.go rfl rfl rfl (sem_load1 (Addr.add A7 3) ((Value.slice a9 n10 c11)) rfl TF.agg_27 hl ?_)
  refine Run.go rfl rfl rfl (sem_move ((Value.int .i64 (i2))) rfl ?_)
  refine Run.go rfl rfl rfl (sem_move ((Value.int .i64 (i3))) rfl ?_)
  refine Run.go rfl rfl rfl (sem_buildSL [(0, (Value.int .i64 (i2))), (1, (Value.int .i64 (i3)))] [(Value.int .i64 (i2)), (Value.int .i64 (i3))] TF.zero_160 TF.places_160 rfl rfl ?_)
  refine Run.go rfl rfl rfl (sem_buildSliceL [(0, (Value.agg #[(Value.int .i64 (i2)), (Value.int .i64 (i3))]))] [(Value.int .i64 (i2)), (Value.int .i64 (i3))] TF.slc_27 TF.zero_160 rfl (by decide) (by decide) rfl rfl (fun k13 hb1 hb2 h14 hb3 => ?_))
  have hS := hS k13 hb1 hb2 h14 hb3
  refine Run.go rfl rfl rfl (sem_appendL [(Value.slice a9 n10 c11), (Value.slice (some ⟨k13, 0, none⟩) 1 1)] rfl (semH_mono (fun v h15 hv => ?_) hS))
  obtain ⟨a16, n17, c18, rfl, hS⟩ := hv
  obtain ⟨A19, e20, hS⟩ := hS
  refine Run.go rfl rfl rfl (sem_nilCheck A19 (congrArg Value.pointer e20) ?_)
  refine Run.go rfl rfl rfl (sem_fieldAddr A19 3 rfl TF.fld_29_3 ?_)
  obtain ⟨h21, hst, hS⟩ := hS
  refine Run.go rfl rfl rfl (sem_store1 (Addr.add A19 3) ((Value.slice a16 n17 c18)) h21 rfl rfl rfl TF.sz_27 hst ?_)
  refine Run.region_end ?_
  refine Run.seq ?_
  refine Run.ops0 (idx := [0]) rfl ?_
  refine Run.go rfl rfl rfl (sem_assign ((Value.bool true)) rfl ?_)
  refine Run.region_end ?_
  refine Run.ret ⟨.inr rfl, ?_⟩
  exact hS.imp fun h' hq => ⟨(true), rfl, hq⟩
 refine Run.seq ?_
 refine Run.ops0 (idx := [0, 1, 2, 3, 4, 5, 6, 7, 8, 9]) rfl ?_
 refine Run.go rfl rfl rfl (sem_move ((Value.pointer p1)) rfl ?_)
 obtain ⟨hT, hF⟩ := hS
 by_cases hb22 : p1 = none
 ·have hS := hT hb22; clear hT hF
  refine Run.go rfl rfl rfl (sem_ptrNilT p1 (.inl rfl) true rfl rfl TF.ptr_24 hb22 rfl ?_)
  refine Run.go rfl rfl rfl (sem_move ((Value.bool true)) rfl ?_)
  refine Run.no rfl rfl rfl ?_
  refine Run.no rfl rfl rfl ?_
  refine Run.go rfl rfl rfl (sem_pick true ((Value.bool true)) rfl rfl ?_)
  refine Run.go rfl rfl rfl (sem_move ((Value.bool true)) rfl ?_)
  refine Run.no rfl rfl rfl ?_
  refine Run.no rfl rfl rfl ?_
  refine Run.go rfl rfl rfl (sem_pick true ((Value.bool true)) rfl rfl ?_)
  refine Run.region_end ?_
  refine Run.condT rfl ?_
  refine Run.seq ?_
  refine Run.ops0 (idx := [0]) rfl ?_
  refine Run.go rfl rfl rfl (sem_assign ((Value.bool false)) rfl ?_)
  refine Run.region_end ?_
  refine Run.ret ⟨.inr rfl, ?_⟩
  exact hS.imp fun h' hq => ⟨(false), rfl, hq⟩
 ·have hS := hF hb22; clear hT hF
  refine Run.go rfl rfl rfl (sem_ptrNilF p1 (.inl rfl) false rfl rfl TF.ptr_24 hb22 rfl ?_)
  refine Run.go rfl rfl rfl (sem_move ((Value.bool false)) rfl ?_)
  refine Run.go rfl rfl rfl (sem_move ((Value.int .i64 (i2))) rfl ?_)
  obtain ⟨hT, hF⟩ := hS
  by_cases hb23 : (i2 : Int) < (0)
  ·have hS := hT hb23; clear hT hF
   refine Run.go rfl rfl rfl (sem_binI .i64 (i2) (0) (.bool true) rfl rfl (binI_lss_t hb23) ?_)
   refine Run.go rfl rfl rfl (sem_pick false ((Value.bool true)) rfl rfl ?_)
   refine Run.go rfl rfl rfl (sem_move ((Value.bool true)) rfl ?_)
   refine Run.no rfl rfl rfl ?_
   refine Run.no rfl rfl rfl ?_
   refine Run.go rfl rfl rfl (sem_pick true ((Value.bool true)) rfl rfl ?_)
   refine Run.region_end ?_
   refine Run.condT rfl ?_
   refine Run.seq ?_
   refine Run.ops0 (idx := [0]) rfl ?_
   refine Run.go rfl rfl rfl (sem_assign ((Value.bool false)) rfl ?_)
   refine Run.region_end ?_
   refine Run.ret ⟨.inr rfl, ?_⟩
   exact hS.imp fun h' hq => ⟨(false), rfl, hq⟩
  ·have hS := hF hb23; clear hT hF
   refine Run.go rfl rfl rfl (sem_binI .i64 (i2) (0) (.bool false) rfl rfl (binI_lss_f hb23) ?_)
   refine Run.go rfl rfl rfl (sem_pick false ((Value.bool false)) rfl rfl ?_)
   refine Run.go rfl rfl rfl (sem_move ((Value.bool false)) rfl ?_)
   refine Run.go rfl rfl rfl (sem_move ((Value.int .i64 (i2))) rfl ?_)
   obtain ⟨hT, hF⟩ := hS
   by_cases hb24 : (i2 : Int) ≥ (4)
   ·have hS := hT hb24; clear hT hF
    refine Run.go rfl rfl rfl (sem_binI .i64 (i2) (4) (.bool true) rfl rfl (binI_geq_t hb24) ?_)
    refine Run.go rfl rfl rfl (sem_pick false ((Value.bool true)) rfl rfl ?_)
    refine Run.region_end ?_
    refine Run.condT rfl ?_
    refine Run.seq ?_
    refine Run.ops0 (idx := [0]) rfl ?_
    refine Run.go rfl rfl rfl (sem_assign ((Value.bool false)) rfl ?_)
    refine Run.region_end ?_
    refine Run.ret ⟨.inr rfl, ?_⟩
    exact hS.imp fun h' hq => ⟨(false), rfl, hq⟩
   ·have hS := hF hb24; clear hT hF
    refine Run.go rfl rfl rfl (sem_binI .i64 (i2) (4) (.bool false) rfl rfl (binI_geq_f hb24) ?_)
    refine Run.go rfl rfl rfl (sem_pick false ((Value.bool false)) rfl rfl ?_)
    refine Run.region_end ?_
    refine Run.condF rfl ?_
    refine Run.skip ?_
    exact Run.of_fin (hS.imp fun h' hS => j5 _ _ ⟨⟨rfl, rfl, rfl, trivial⟩, hS⟩)
set_option maxHeartbeats 4000000 in
theorem C_acts_first_acts_Out.of {B : RO} {a1 : Option Addr} {n2 : Nat} {c3 : Nat} {i4 : Int} {h : Heap} {Q : Option Addr → Nat → Nat → Heap → Prop} (hS : S_acts_first_acts_Out B a1 n2 c3 i4 h Q) : C_acts_first_acts_Out B a1 n2 c3 i4 h Q := by
 unfold S_acts_first_acts_Out at hS
 unfold C_acts_first_acts_Out
 refine Spec.of_run Try.func83 (N := 14) (rs := [ResultVar.tmp 4]) rfl rfl rfl (Nat.le_of_ble_eq_true rfl) ?_
 refine Run.seq ?_
 refine Run.ops0 (idx := [0]) rfl ?_
 refine Run.go rfl rfl rfl (sem_assign ((Value.slice none 0 0)) rfl ?_)
 refine Run.region_end ?_
 refine Run.seq ?_
 refine Run.ops0 (idx := [0, 1, 2, 3, 4, 5]) rfl ?_
 refine Run.go rfl rfl rfl (sem_move ((Value.int .i64 (i4))) rfl ?_)
 refine Run.go rfl rfl rfl (sem_max .i64 (i4) (0) rfl rfl ?_)
 refine Run.go rfl rfl rfl (sem_move ((Value.slice a1 n2 c3)) rfl ?_)
 refine Run.go rfl rfl rfl (sem_lenSl a1 n2 c3 rfl TF.sl_25 ?_)
 refine Run.go rfl rfl rfl (sem_min .i64 (if (0 : Int) > (i4) then (0 : Int) else (i4)) ((n2 : Nat)) rfl rfl ?_)
 refine Run.go rfl rfl rfl (sem_assign ((Value.int .i64 (if ((n2 : Nat) : Int) < (if (0 : Int) > (i4) then (0 : Int) else (i4)) then ((n2 : Nat) : Int) else (if (0 : Int) > (i4) then (0 : Int) else (i4))))) rfl ?_)
 refine Run.region_end ?_
 refine Run.seq ?_
 refine Run.ops0 (idx := [0, 1, 2, 3, 4]) rfl ?_
 refine Run.go rfl rfl rfl (sem_move ((Value.slice a1 n2 c3)) rfl ?_)
 refine Run.go rfl rfl rfl (sem_move ((Value.int .i64 (if ((n2 : Nat) : Int) < (if (0 : Int) > (i4) then (0 : Int) else (i4)) then ((n2 : Nat) : Int) else (if (0 : Int) > (i4) then (0 : Int) else (i4))))) rfl ?_)
 refine Run.go rfl rfl rfl (sem_move ((Value.int .i64 (if ((n2 : Nat) : Int) < (if (0 : Int) > (i4) then (0 : Int) else (i4)) then ((n2 : Nat) : Int) else (if (0 : Int) > (i4) then (0 : Int) else (i4))))) rfl ?_)
 obtain ⟨hi0, hi1, hi2, hS⟩ := hS
 refine Run.go rfl rfl rfl (sem_slice3I a1 n2 c3 (if ((n2 : Nat) : Int) < (if (0 : Int) > (i4) then (0 : Int) else (i4)) then ((n2 : Nat) : Int) else (if (0 : Int) > (i4) then (0 : Int) else (i4))) (if ((n2 : Nat) : Int) < (if (0 : Int) > (i4) then (0 : Int) else (i4)) then ((n2 : Nat) : Int) else (if (0 : Int) > (i4) then (0 : Int) else (i4))) .i64 .i64 rfl TF.slc_25 rfl rfl hi0 hi1 hi2 ?_)
 refine Run.go rfl rfl rfl (sem_assign ((Value.slice (if Int.toNat (if ((n2 : Nat) : Int) < (if (0 : Int) > (i4) then (0 : Int) else (i4)) then ((n2 : Nat) : Int) else (if (0 : Int) > (i4) then (0 : Int) else (i4))) = 0 then a1 else Option.map (·.add (0 * 2)) a1) (Int.toNat (if ((n2 : Nat) : Int) < (if (0 : Int) > (i4) then (0 : Int) else (i4)) then ((n2 : Nat) : Int) else (if (0 : Int) > (i4) then (0 : Int) else (i4)))) (Int.toNat (if ((n2 : Nat) : Int) < (if (0 : Int) > (i4) then (0 : Int) else (i4)) then ((n2 : Nat) : Int) else (if (0 : Int) > (i4) then (0 : Int) else (i4)))))) rfl ?_)
 refine Run.region_end ?_
 refine Run.ret ⟨.inr rfl, ?_⟩
 exact hS.imp fun h' hq => ⟨(if Int.toNat (if ((n2 : Nat) : Int) < (if (0 : Int) > (i4) then (0 : Int) else (i4)) then ((n2 : Nat) : Int) else (if (0 : Int) > (i4) then (0 : Int) else (i4))) = 0 then a1 else Option.map (·.add (0 * 2)) a1), (Int.toNat (if ((n2 : Nat) : Int) < (if (0 : Int) > (i4) then (0 : Int) else (i4)) then ((n2 : Nat) : Int) else (if (0 : Int) > (i4) then (0 : Int) else (i4)))), (Int.toNat (if ((n2 : Nat) : Int) < (if (0 : Int) > (i4) then (0 : Int) else (i4)) then ((n2 : Nat) : Int) else (if (0 : Int) > (i4) then (0 : Int) else (i4)))), rfl, hq⟩
set_option maxHeartbeats 4000000 in
theorem C_acts_first_int.of {B : RO} {a1 : Option Addr} {n2 : Nat} {c3 : Nat} {i4 : Int} {h : Heap} {Q : Option Addr → Nat → Nat → Heap → Prop} (hS : S_acts_first_int B a1 n2 c3 i4 h Q) : C_acts_first_int B a1 n2 c3 i4 h Q := by
 unfold S_acts_first_int at hS
 unfold C_acts_first_int
 refine Spec.of_run Try.func84 (N := 14) (rs := [ResultVar.tmp 4]) rfl rfl rfl (Nat.le_of_ble_eq_true rfl) ?_
 refine Run.seq ?_
 refine Run.ops0 (idx := [0]) rfl ?_
 refine Run.go rfl rfl rfl (sem_assign ((Value.slice none 0 0)) rfl ?_)
 refine Run.region_end ?_
 refine Run.seq ?_
 refine Run.ops0 (idx := [0, 1, 2, 3, 4, 5]) rfl ?_
 refine Run.go rfl rfl rfl (sem_move ((Value.int .i64 (i4))) rfl ?_)
 refine Run.go rfl rfl rfl (sem_max .i64 (i4) (0) rfl rfl ?_)
 refine Run.go rfl rfl rfl (sem_move ((Value.slice a1 n2 c3)) rfl ?_)
 refine Run.go rfl rfl rfl (sem_lenSl a1 n2 c3 rfl TF.sl_26 ?_)
 refine Run.go rfl rfl rfl (sem_min .i64 (if (0 : Int) > (i4) then (0 : Int) else (i4)) ((n2 : Nat)) rfl rfl ?_)
 refine Run.go rfl rfl rfl (sem_assign ((Value.int .i64 (if ((n2 : Nat) : Int) < (if (0 : Int) > (i4) then (0 : Int) else (i4)) then ((n2 : Nat) : Int) else (if (0 : Int) > (i4) then (0 : Int) else (i4))))) rfl ?_)
 refine Run.region_end ?_
 refine Run.seq ?_
 refine Run.ops0 (idx := [0, 1, 2, 3, 4]) rfl ?_
 refine Run.go rfl rfl rfl (sem_move ((Value.slice a1 n2 c3)) rfl ?_)
 refine Run.go rfl rfl rfl (sem_move ((Value.int .i64 (if ((n2 : Nat) : Int) < (if (0 : Int) > (i4) then (0 : Int) else (i4)) then ((n2 : Nat) : Int) else (if (0 : Int) > (i4) then (0 : Int) else (i4))))) rfl ?_)
 refine Run.go rfl rfl rfl (sem_move ((Value.int .i64 (if ((n2 : Nat) : Int) < (if (0 : Int) > (i4) then (0 : Int) else (i4)) then ((n2 : Nat) : Int) else (if (0 : Int) > (i4) then (0 : Int) else (i4))))) rfl ?_)
 obtain ⟨hi0, hi1, hi2, hS⟩ := hS
 refine Run.go rfl rfl rfl (sem_slice3I a1 n2 c3 (if ((n2 : Nat) : Int) < (if (0 : Int) > (i4) then (0 : Int) else (i4)) then ((n2 : Nat) : Int) else (if (0 : Int) > (i4) then (0 : Int) else (i4))) (if ((n2 : Nat) : Int) < (if (0 : Int) > (i4) then (0 : Int) else (i4)) then ((n2 : Nat) : Int) else (if (0 : Int) > (i4) then (0 : Int) else (i4))) .i64 .i64 rfl TF.slc_26 rfl rfl hi0 hi1 hi2 ?_)
 refine Run.go rfl rfl rfl (sem_assign ((Value.slice (if Int.toNat (if ((n2 : Nat) : Int) < (if (0 : Int) > (i4) then (0 : Int) else (i4)) then ((n2 : Nat) : Int) else (if (0 : Int) > (i4) then (0 : Int) else (i4))) = 0 then a1 else Option.map (·.add (0 * 1)) a1) (Int.toNat (if ((n2 : Nat) : Int) < (if (0 : Int) > (i4) then (0 : Int) else (i4)) then ((n2 : Nat) : Int) else (if (0 : Int) > (i4) then (0 : Int) else (i4)))) (Int.toNat (if ((n2 : Nat) : Int) < (if (0 : Int) > (i4) then (0 : Int) else (i4)) then ((n2 : Nat) : Int) else (if (0 : Int) > (i4) then (0 : Int) else (i4)))))) rfl ?_)
 refine Run.region_end ?_
 refine Run.ret ⟨.inr rfl, ?_⟩
 exact hS.imp fun h' hq => ⟨(if Int.toNat (if ((n2 : Nat) : Int) < (if (0 : Int) > (i4) then (0 : Int) else (i4)) then ((n2 : Nat) : Int) else (if (0 : Int) > (i4) then (0 : Int) else (i4))) = 0 then a1 else Option.map (·.add (0 * 1)) a1), (Int.toNat (if ((n2 : Nat) : Int) < (if (0 : Int) > (i4) then (0 : Int) else (i4)) then ((n2 : Nat) : Int) else (if (0 : Int) > (i4) then (0 : Int) else (i4)))), (Int.toNat (if ((n2 : Nat) : Int) < (if (0 : Int) > (i4) then (0 : Int) else (i4)) then ((n2 : Nat) : Int) else (if (0 : Int) > (i4) then (0 : Int) else (i4)))), rfl, hq⟩
set_option maxHeartbeats 4000000 in
theorem C_acts_first_acts_Open.of {B : RO} {a1 : Option Addr} {n2 : Nat} {c3 : Nat} {i4 : Int} {h : Heap} {Q : Option Addr → Nat → Nat → Heap → Prop} (hS : S_acts_first_acts_Open B a1 n2 c3 i4 h Q) : C_acts_first_acts_Open B a1 n2 c3 i4 h Q := by
 unfold S_acts_first_acts_Open at hS
 unfold C_acts_first_acts_Open
 refine Spec.of_run Try.func85 (N := 14) (rs := [ResultVar.tmp 4]) rfl rfl rfl (Nat.le_of_ble_eq_true rfl) ?_
 refine Run.seq ?_
 refine Run.ops0 (idx := [0]) rfl ?_
 refine Run.go rfl rfl rfl (sem_assign ((Value.slice none 0 0)) rfl ?_)
 refine Run.region_end ?_
 refine Run.seq ?_
 refine Run.ops0 (idx := [0, 1, 2, 3, 4, 5]) rfl ?_
 refine Run.go rfl rfl rfl (sem_move ((Value.int .i64 (i4))) rfl ?_)
 refine Run.go rfl rfl rfl (sem_max .i64 (i4) (0) rfl rfl ?_)
 refine Run.go rfl rfl rfl (sem_move ((Value.slice a1 n2 c3)) rfl ?_)
 refine Run.go rfl rfl rfl (sem_lenSl a1 n2 c3 rfl TF.sl_27 ?_)
 refine Run.go rfl rfl rfl (sem_min .i64 (if (0 : Int) > (i4) then (0 : Int) else (i4)) ((n2 : Nat)) rfl rfl ?_)
 refine Run.go rfl rfl rfl (sem_assign ((Value.int .i64 (if ((n2 : Nat) : Int) < (if (0 : Int) > (i4) then (0 : Int) else (i4)) then ((n2 : Nat) : Int) else (if (0 : Int) > (i4) then (0 : Int) else (i4))))) rfl ?_)
 refine Run.region_end ?_
 refine Run.seq ?_
 refine Run.ops0 (idx := [0, 1, 2, 3, 4]) rfl ?_
 refine Run.go rfl rfl rfl (sem_move ((Value.slice a1 n2 c3)) rfl ?_)
 refine Run.go rfl rfl rfl (sem_move ((Value.int .i64 (if ((n2 : Nat) : Int) < (if (0 : Int) > (i4) then (0 : Int) else (i4)) then ((n2 : Nat) : Int) else (if (0 : Int) > (i4) then (0 : Int) else (i4))))) rfl ?_)
 refine Run.go rfl rfl rfl (sem_move ((Value.int .i64 (if ((n2 : Nat) : Int) < (if (0 : Int) > (i4) then (0 : Int) else (i4)) then ((n2 : Nat) : Int) else (if (0 : Int) > (i4) then (0 : Int) else (i4))))) rfl ?_)
 obtain ⟨hi0, hi1, hi2, hS⟩ := hS
 refine Run.go rfl rfl rfl (sem_slice3I a1 n2 c3 (if ((n2 : Nat) : Int) < (if (0 : Int) > (i4) then (0 : Int) else (i4)) then ((n2 : Nat) : Int) else (if (0 : Int) > (i4) then (0 : Int) else (i4))) (if ((n2 : Nat) : Int) < (if (0 : Int) > (i4) then (0 : Int) else (i4)) then ((n2 : Nat) : Int) else (if (0 : Int) > (i4) then (0 : Int) else (i4))) .i64 .i64 rfl TF.slc_27 rfl rfl hi0 hi1 hi2 ?_)
 refine Run.go rfl rfl rfl (sem_assign ((Value.slice (if Int.toNat (if ((n2 : Nat) : Int) < (if (0 : Int) > (i4) then (0 : Int) else (i4)) then ((n2 : Nat) : Int) else (if (0 : Int) > (i4) then (0 : Int) else (i4))) = 0 then a1 else Option.map (·.add (0 * 2)) a1) (Int.toNat (if ((n2 : Nat) : Int) < (if (0 : Int) > (i4) then (0 : Int) else (i4)) then ((n2 : Nat) : Int) else (if (0 : Int) > (i4) then (0 : Int) else (i4)))) (Int.toNat (if ((n2 : Nat) : Int) < (if (0 : Int) > (i4) then (0 : Int) else (i4)) then ((n2 : Nat) : Int) else (if (0 : Int) > (i4) then (0 : Int) else (i4)))))) rfl ?_)
 refine Run.region_end ?_
 refine Run.ret ⟨.inr rfl, ?_⟩
 exact hS.imp fun h' hq => ⟨(if Int.toNat (if ((n2 : Nat) : Int) < (if (0 : Int) > (i4) then (0 : Int) else (i4)) then ((n2 : Nat) : Int) else (if (0 : Int) > (i4) then (0 : Int) else (i4))) = 0 then a1 else Option.map (·.add (0 * 2)) a1), (Int.toNat (if ((n2 : Nat) : Int) < (if (0 : Int) > (i4) then (0 : Int) else (i4)) then ((n2 : Nat) : Int) else (if (0 : Int) > (i4) then (0 : Int) else (i4)))), (Int.toNat (if ((n2 : Nat) : Int) < (if (0 : Int) > (i4) then (0 : Int) else (i4)) then ((n2 : Nat) : Int) else (if (0 : Int) > (i4) then (0 : Int) else (i4)))), rfl, hq⟩
set_option maxHeartbeats 4000000 in
theorem C_acts_undo.of {B : RO} {a1 : Option Addr} {n2 : Nat} {c3 : Nat} {h : Heap} {Q : Option Addr → Nat → Nat → Heap → Prop} (hS : S_acts_undo B a1 n2 c3 h Q) : C_acts_undo B a1 n2 c3 h Q := by
 unfold S_acts_undo at hS
 unfold C_acts_undo
 refine Spec.of_run Try.func86 (N := 20) (rs := [ResultVar.tmp 2]) rfl rfl rfl (Nat.le_of_ble_eq_true rfl) ?_
 refine Run.seq ?_
 refine Run.ops0 (idx := [0]) rfl ?_
 refine Run.go rfl rfl rfl (sem_assign ((Value.slice none 0 0)) rfl ?_)
 refine Run.region_end ?_
 refine Run.seq ?_
 refine Run.ops0 (idx := [0]) rfl ?_
 refine Run.go rfl rfl rfl (sem_allocN [(Value.slice none 0 0)] TF.zero_27 (fun k7 hb1 hb2 h8 hb3 => ?_))
 have hS := hS k7 hb1 hb2 h8 hb3
 refine Run.region_end ?_
 refine Run.seq ?_
 refine Run.seq ?_
 refine Run.ops0 (idx := [0, 1]) rfl ?_
 refine Run.go rfl rfl rfl (sem_move ((Value.slice a1 n2 c3)) rfl ?_)
 refine Run.go rfl rfl rfl (sem_callL [(Value.slice a1 n2 c3)] (TF.goes_130) rfl rfl (Spec.mono hS fun v10 h9 hv => ?_))
 obtain ⟨_, rfl, hS⟩ := hv
 refine Run.region_end ?_
 refine Run.block ?_
 obtain ⟨xs18, G14, J17, hit, hins, hG, h0, hS, hR⟩ := hS
 refine Run.of_fin (h0.imp fun h' h0 => ?_)
 refine Run.range (v10) (xs18.map (fun x : Int × Int × Int => [(Value.int .i64 (x.1)), (Value.agg #[(Value.int .i64 (x.2.1)), (Value.int .i64 (x.2.2))])])) G14 J17 rfl hit hins hG h0 rfl (fun a ha => by obtain ⟨x, _, rfl⟩ := List.mem_map.1 ha; rfl) ?_ ?_
 ·rintro q16 args h15 ha hJ
  obtain ⟨⟨i11, i12, i13⟩, hx, rfl⟩ := Option.map_eq_some_iff.1 ((List.getElem?_map ..).symm.trans ha)
  have hS := hS q16 h15 i11 i12 i13 hx hJ; clear hJ hx ha
  refine Run.ops0 (idx := [0, 1]) rfl ?_
  refine Run.go rfl rfl rfl (sem_allocN [(Value.int .i64 (0)), (Value.int .i64 (0))] TF.zero_160 (fun k19 hb1 hb2 h20 hb3 => ?_))
  have hS := hS k19 hb1 hb2 h20 hb3
  obtain ⟨h21, hst, hS⟩ := hS
  refine Run.go rfl rfl rfl (sem_storeN ⟨k19, 0, none⟩ [(Value.int .i64 (i12)), (Value.int .i64 (i13))] h21 rfl rfl TF.sz_160 hst ?_)
  refine Run.region_end ?_
  refine Run.begin ⟨rfl, ?_⟩
  refine Run.block ?_
  refine Run.ops0 (idx := [0, 1, 2, 3, 4, 5, 6, 7, 8, 9]) rfl ?_
  refine Run.ldSl hS fun a22 n23 c24 h25 hl hS => ?_
  refine Run.go rfl rfl rfl (sem_load1 ⟨k7, 0, none⟩ ((Value.slice a22 n23 c24)) rfl TF.agg_27 hl ?_)
  refine Run.go rfl rfl rfl (sem_fieldAddr ⟨k19, 0, none⟩ 0 rfl TF.fld_160_0 ?_)
  obtain ⟨i26, hl, hS⟩ := hS
  refine Run.go rfl rfl rfl (sem_load1 ⟨k19, 0, none⟩ ((Value.int .i64 (i26))) rfl TF.agg_3 hl ?_)
  refine Run.go rfl rfl rfl (sem_fieldAddr ⟨k19, 0, none⟩ 1 rfl TF.fld_160_1 ?_)
  obtain ⟨i27, hl, hS⟩ := hS
  refine Run.go rfl rfl rfl (sem_load1 ⟨k19, 1, none⟩ ((Value.int .i64 (i27))) rfl TF.agg_3 hl ?_)
  refine Run.go rfl rfl rfl (sem_neg .i64 (i27) rfl ?_)
  refine Run.go rfl rfl rfl (sem_buildSL [(0, (Value.int .i64 (i26))), (1, (Value.int .i64 (IntKind.wrap .i64 (0 - (i27)))))] [(Value.int .i64 (i26)), (Value.int .i64 (IntKind.wrap .i64 (0 - (i27))))] TF.zero_160 TF.places_160 rfl rfl ?_)
  refine Run.go rfl rfl rfl (sem_buildSliceL [(0, (Value.agg #[(Value.int .i64 (i26)), (Value.int .i64 (IntKind.wrap .i64 (0 - (i27))))]))] [(Value.int .i64 (i26)), (Value.int .i64 (IntKind.wrap .i64 (0 - (i27))))] TF.slc_27 TF.zero_160 rfl (by decide) (by decide) rfl rfl (fun k28 hb1 hb2 h29 hb3 => ?_))
  have hS := hS k28 hb1 hb2 h29 hb3
  refine Run.go rfl rfl rfl (sem_appendL [(Value.slice a22 n23 c24), (Value.slice (some ⟨k28, 0, none⟩) 1 1)] rfl (semH_mono (fun v h30 hv => ?_) hS))
  obtain ⟨a31, n32, c33, rfl, hS⟩ := hv
  obtain ⟨h34, hst, hS⟩ := hS
  refine Run.go rfl rfl rfl (sem_store1 ⟨k7, 0, none⟩ ((Value.slice a31 n32 c33)) h34 rfl rfl rfl TF.sz_27 hst ?_)
  refine Run.region_end ?_
  refine Run.inBlock ?_
  refine Run.of_fin (hS.imp fun h' hS => ?_)
  exact Run.fall (.inl ⟨rfl, hS⟩)
 ·intro h15 hJ
  have hS := hR h15 (by simpa using hJ); clear hJ hR
  refine Run.inBlock ?_
  refine Run.seq ?_
  refine Run.ops0 (idx := [0, 1]) rfl ?_
  refine Run.ldSl hS fun a35 n36 c37 h38 hl hS => ?_
  refine Run.go rfl rfl rfl (sem_load1 ⟨k7, 0, none⟩ ((Value.slice a35 n36 c37)) rfl TF.agg_27 hl ?_)
  refine Run.go rfl rfl rfl (sem_assign ((Value.slice a35 n36 c37)) rfl ?_)
  refine Run.region_end ?_
  refine Run.ret ⟨.inr rfl, ?_⟩
  exact hS.imp fun h' hq => ⟨a35, n36, c37, rfl, hq⟩
set_option maxHeartbeats 4000000 in
theorem C_slices_Clone_s_int_int.of {B : RO} {a1 : Option Addr} {n2 : Nat} {c3 : Nat} {h : Heap} {Q : Option Addr → Nat → Nat → Heap → Prop} (hS : S_slices_Clone_s_int_int B a1 n2 c3 h Q) : C_slices_Clone_s_int_int B a1 n2 c3 h Q := by
 unfold S_slices_Clone_s_int_int at hS
 unfold C_slices_Clone_s_int_int
 refine Spec.of_run Try.func87 (N := 8) (rs := [ResultVar.tmp 2]) rfl rfl rfl (Nat.le_of_ble_eq_true rfl) ?_
 refine Run.seq ?_
 refine Run.ops0 (idx := [0]) rfl ?_
 refine Run.go rfl rfl rfl (sem_assign ((Value.slice none 0 0)) rfl ?_)
 refine Run.region_end ?_
 refine Run.seq ?_
 refine Run.seq ?_
 refine Run.ops0 (idx := [0, 1]) rfl ?_
 refine Run.go rfl rfl rfl (sem_move ((Value.slice a1 n2 c3)) rfl ?_)
 obtain ⟨hT, hF⟩ := hS
 by_cases hb7 : a1 = none
 ·have hS := hT hb7; clear hT hF
  refine Run.go rfl rfl rfl (sem_slNilT (a1) (n2) (c3) (.inl rfl) true rfl rfl TF.sl_26 hb7 rfl ?_)
  refine Run.region_end ?_
  refine Run.condT rfl ?_
  refine Run.seq ?_
  refine Run.ops0 (idx := [0]) rfl ?_
  refine Run.go rfl rfl rfl (sem_assign ((Value.slice none 0 0)) rfl ?_)
  refine Run.region_end ?_
  refine Run.ret ⟨.inr rfl, ?_⟩
  exact hS.imp fun h' hq => ⟨none, 0, 0, rfl, hq⟩
 ·have hS := hF hb7; clear hT hF
  refine Run.go rfl rfl rfl (sem_slNilF (a1) (n2) (c3) (.inl rfl) false rfl rfl TF.sl_26 hb7 rfl ?_)
  refine Run.region_end ?_
  refine Run.condF rfl ?_
  refine Run.skip ?_
  refine Run.seq ?_
  refine Run.ops0 (idx := [0, 1, 2, 3]) rfl ?_
  refine Run.go rfl rfl rfl (sem_buildSlice0N TF.slc_26 (fun k8 hb1 hb2 h9 hb3 => ?_))
  have hS := hS k8 hb1 hb2 h9 hb3
  refine Run.go rfl rfl rfl (sem_move ((Value.slice a1 n2 c3)) rfl ?_)
  refine Run.go rfl rfl rfl (sem_appendL [(Value.slice (some ⟨k8, 0, none⟩) 0 0), (Value.slice a1 n2 c3)] rfl (semH_mono (fun v h10 hv => ?_) hS))
  obtain ⟨a11, n12, c13, rfl, hS⟩ := hv
  refine Run.go rfl rfl rfl (sem_assign ((Value.slice a11 n12 c13)) rfl ?_)
  refine Run.region_end ?_
  refine Run.ret ⟨.inr rfl, ?_⟩
  exact hS.imp fun h' hq => ⟨a11, n12, c13, rfl, hq⟩
set_option maxHeartbeats 4000000 in
theorem C_slices_Concat_s_acts_Out_acts_Out.of {B : RO} {a1 : Option Addr} {n2 : Nat} {c3 : Nat} {h : Heap} {Q : Option Addr → Nat → Nat → Heap → Prop} (hS : S_slices_Concat_s_acts_Out_acts_Out B a1 n2 c3 h Q) : C_slices_Concat_s_acts_Out_acts_Out B a1 n2 c3 h Q := by
 unfold S_slices_Concat_s_acts_Out_acts_Out at hS
 unfold C_slices_Concat_s_acts_Out_acts_Out
 refine Spec.of_run Try.func88 (N := 36) (rs := [ResultVar.tmp 2]) rfl rfl rfl (Nat.le_of_ble_eq_true rfl) ?_
 refine Run.seq ?_
 refine Run.ops0 (idx := [0]) rfl ?_
 refine Run.go rfl rfl rfl (sem_assign ((Value.slice none 0 0)) rfl ?_)
 refine Run.region_end ?_
 refine Run.seq ?_
 refine Run.ops0 (idx := [0]) rfl ?_
 refine Run.go rfl rfl rfl (sem_assign ((Value.int .i64 (0))) rfl ?_)
 refine Run.region_end ?_
 refine Run.seqJ (fun e h9 => ∃ i8 : Int, Agree [(0, (Value.slice a1 n2 c3)), (3, (Value.int .i64 (i8)))] e ∧ S_slices_Concat_s_acts_Out_acts_Out_J1 B a1 n2 c3 i8 h9 Q) ?_ fun j7 => ?_
 ·rintro e h9 ⟨i8, hag, hS⟩
  refine Run.env hag ?_; clear hag
  refine Run.seq ?_
  refine Run.ops0 (idx := [0, 1, 2]) rfl ?_
  refine Run.go rfl rfl rfl (sem_move ((Value.int .i64 (i8))) rfl ?_)
  refine Run.go rfl rfl rfl (sem_callL [(Value.slice none 0 0), (Value.int .i64 (i8))] (TF.goes_131) rfl rfl (Spec.mono hS fun v h10 hv => ?_))
  obtain ⟨a11, n12, c13, rfl, hS⟩ := hv
  refine Run.go rfl rfl rfl (sem_assign ((Value.slice a11 n12 c13)) rfl ?_)
  refine Run.region_end ?_
  refine Run.seq ?_
  refine Run.seq ?_
  refine Run.ops0 (idx := [0, 1, 2]) rfl ?_
  refine Run.go rfl rfl rfl (sem_move ((Value.slice a1 n2 c3)) rfl ?_)
  refine Run.go rfl rfl rfl (sem_lenSl a1 n2 c3 rfl TF.sl_240 ?_)
  refine Run.go rfl rfl rfl (sem_move ((Value.int .i64 (0))) rfl ?_)
  refine Run.region_end ?_
  refine Run.block ?_
  obtain ⟨J22, m20, h0, hS⟩ := hS
  refine Run.of_fin (h0.imp fun h' h0 => ?_)
  refine Run.loop (σ := (Option Addr) × Nat × Nat × Int × Nat) (fun x e h => J22 x.1 x.2.1 x.2.2.1 x.2.2.2.1 x.2.2.2.2 h ∧ Agree [(6, (Value.slice x.1 x.2.1 x.2.2.1)), (25, (Value.slice a1 n2 c3)), (26, (Value.int .i64 ((n2 : Nat)))), (27, (Value.int .i64 (x.2.2.2.1)))] e) (fun x => x.2.2.2.2) (a11, n12, c13, (0), m20) ⟨h0, ⟨rfl, rfl, rfl, rfl, trivial⟩⟩ ?_; clear h0
  rintro ⟨a14, n15, c16, i17, m19⟩ e h18 ⟨hJ, hag⟩ ih21
  have hS := hS a14 n15 c16 i17 m19 h18 hJ; clear hJ
  refine Run.env hag ?_; clear hag
  refine Run.seq ?_
  refine Run.ops0 (idx := [0]) rfl ?_
  obtain ⟨hT, hF⟩ := hS
  by_cases hb23 : (i17 : Int) < ((n2 : Nat))
  ·have hS := hT hb23; clear hT hF
   refine Run.go rfl rfl rfl (sem_binI .i64 (i17) ((n2 : Nat)) (.bool true) rfl rfl (binI_lss_t hb23) ?_)
   refine Run.region_end ?_
   refine Run.seq ?_
   refine Run.condT rfl ?_
   refine Run.skip ?_
   refine Run.seq ?_
   refine Run.block ?_
   refine Run.seq ?_
   refine Run.ops0 (idx := [0, 1, 2]) rfl ?_
   obtain ⟨A24, e25, hi0, hi1, hS⟩ := hS
   refine Run.go rfl rfl rfl (sem_indexAddrS A24 n2 c3 .i64 (i17) (congrArg (fun a => Value.slice a n2 c3) e25) rfl TF.slc_240 hi0 hi1 ?_)
   refine Run.ldSl hS fun a26 n27 c28 h29 hl hS => ?_
   refine Run.go rfl rfl rfl (sem_load1 (Addr.add A24 (Int.toNat (i17) * 1)) ((Value.slice a26 n27 c28)) rfl TF.agg_25 hl ?_)
   refine Run.go rfl rfl rfl (sem_assign ((Value.slice a26 n27 c28)) rfl ?_)
   refine Run.region_end ?_
   refine Run.ops0 (idx := [0, 1, 2, 3]) rfl ?_
   refine Run.go rfl rfl rfl (sem_move ((Value.slice a14 n15 c16)) rfl ?_)
   refine Run.go rfl rfl rfl (sem_move ((Value.slice a26 n27 c28)) rfl ?_)
   refine Run.go rfl rfl rfl (sem_appendL [(Value.slice a14 n15 c16), (Value.slice a26 n27 c28)] rfl (semH_mono (fun v h30 hv => ?_) hS))
   obtain ⟨a31, n32, c33, rfl, hS⟩ := hv
   refine Run.go rfl rfl rfl (sem_assign ((Value.slice a31 n32 c33)) rfl ?_)
   refine Run.region_end ?_
   refine Run.inBlock ?_
   refine Run.ops0 (idx := [0, 1]) rfl ?_
   refine Run.go rfl rfl rfl (sem_binI .i64 (i17) (1) ((Value.int .i64 (IntKind.wrap .i64 ((i17) + (1))))) rfl rfl rfl ?_)
   refine Run.go rfl rfl rfl (sem_move ((Value.int .i64 (IntKind.wrap .i64 ((i17) + (1))))) rfl ?_)
   refine Run.region_end ?_
   exact Run.of_fin (hS.imp fun h' ⟨m', hm, hS⟩ => ih21 (a31, n32, c33, (IntKind.wrap .i64 ((i17) + (1))), m') _ _ ⟨hS, ⟨rfl, rfl, rfl, rfl, trivial⟩⟩ hm)
  ·have hS := hF hb23; clear hT hF
   refine Run.go rfl rfl rfl (sem_binI .i64 (i17) ((n2 : Nat)) (.bool false) rfl rfl (binI_lss_f hb23) ?_)
   refine Run.region_end ?_
   refine Run.seq ?_
   refine Run.condF rfl ?_
   refine Run.exit rfl ?_
   refine Run.seq ?_
   refine Run.ops0 (idx := [0, 1]) rfl ?_
   refine Run.go rfl rfl rfl (sem_move ((Value.slice a14 n15 c16)) rfl ?_)
   refine Run.go rfl rfl rfl (sem_assign ((Value.slice a14 n15 c16)) rfl ?_)
   refine Run.region_end ?_
   refine Run.ret ⟨.inr rfl, ?_⟩
   exact hS.imp fun h' hq => ⟨a14, n15, c16, rfl, hq⟩
 refine Run.seq ?_
 refine Run.ops0 (idx := [0, 1, 2]) rfl ?_
 refine Run.go rfl rfl rfl (sem_move ((Value.slice a1 n2 c3)) rfl ?_)
 refine Run.go rfl rfl rfl (sem_lenSl a1 n2 c3 rfl TF.sl_240 ?_)
 refine Run.go rfl rfl rfl (sem_move ((Value.int .i64 (0))) rfl ?_)
 refine Run.region_end ?_
 refine Run.block ?_
 obtain ⟨J40, m38, h0, hS⟩ := hS
 refine Run.of_fin (h0.imp fun h' h0 => ?_)
 refine Run.loop (σ := Int × Int × Nat) (fun x e h => J40 x.1 x.2.1 x.2.2 h ∧ Agree [(0, (Value.slice a1 n2 c3)), (3, (Value.int .i64 (x.1))), (9, (Value.slice a1 n2 c3)), (10, (Value.int .i64 ((n2 : Nat)))), (11, (Value.int .i64 (x.2.1)))] e) (fun x => x.2.2) ((0), (0), m38) ⟨h0, ⟨rfl, rfl, rfl, rfl, rfl, trivial⟩⟩ ?_; clear h0
 rintro ⟨i34, i35, m37⟩ e h36 ⟨hJ, hag⟩ ih39
 have hS := hS i34 i35 m37 h36 hJ; clear hJ
 refine Run.env hag ?_; clear hag
 refine Run.seq ?_
 refine Run.ops0 (idx := [0]) rfl ?_
 obtain ⟨hT, hF⟩ := hS
 by_cases hb41 : (i35 : Int) < ((n2 : Nat))
 ·have hS := hT hb41; clear hT hF
  refine Run.go rfl rfl rfl (sem_binI .i64 (i35) ((n2 : Nat)) (.bool true) rfl rfl (binI_lss_t hb41) ?_)
  refine Run.region_end ?_
  refine Run.seq ?_
  refine Run.condT rfl ?_
  refine Run.skip ?_
  refine Run.seq ?_
  refine Run.block ?_
  refine Run.seq ?_
  refine Run.ops0 (idx := [0, 1, 2]) rfl ?_
  obtain ⟨A42, e43, hi0, hi1, hS⟩ := hS
  refine Run.go rfl rfl rfl (sem_indexAddrS A42 n2 c3 .i64 (i35) (congrArg (fun a => Value.slice a n2 c3) e43) rfl TF.slc_240 hi0 hi1 ?_)
  refine Run.ldSl hS fun a44 n45 c46 h47 hl hS => ?_
  refine Run.go rfl rfl rfl (sem_load1 (Addr.add A42 (Int.toNat (i35) * 1)) ((Value.slice a44 n45 c46)) rfl TF.agg_25 hl ?_)
  refine Run.go rfl rfl rfl (sem_assign ((Value.slice a44 n45 c46)) rfl ?_)
  refine Run.region_end ?_
  refine Run.seq ?_
  refine Run.ops0 (idx := [0, 1, 2, 3, 4]) rfl ?_
  refine Run.go rfl rfl rfl (sem_move ((Value.int .i64 (i34))) rfl ?_)
  refine Run.go rfl rfl rfl (sem_move ((Value.slice a44 n45 c46)) rfl ?_)
  refine Run.go rfl rfl rfl (sem_lenSl a44 n45 c46 rfl TF.sl_25 ?_)
  refine Run.go rfl rfl rfl (sem_binI .i64 (i34) ((n45 : Nat)) ((Value.int .i64 (IntKind.wrap .i64 ((i34) + ((n45 : Nat)))))) rfl rfl rfl ?_)
  refine Run.go rfl rfl rfl (sem_assign ((Value.int .i64 (IntKind.wrap .i64 ((i34) + ((n45 : Nat)))))) rfl ?_)
  refine Run.region_end ?_
  refine Run.seq ?_
  refine Run.ops0 (idx := [0, 1]) rfl ?_
  refine Run.go rfl rfl rfl (sem_move ((Value.int .i64 (IntKind.wrap .i64 ((i34) + ((n45 : Nat)))))) rfl ?_)
  obtain ⟨hT, hF⟩ := hS
  by_cases hb48 : (IntKind.wrap .i64 ((i34) + ((n45 : Nat))) : Int) < (0)
  ·have hS := hT hb48; clear hT hF
   refine Run.go rfl rfl rfl (sem_binI .i64 (IntKind.wrap .i64 ((i34) + ((n45 : Nat)))) (0) (.bool true) rfl rfl (binI_lss_t hb48) ?_)
   refine Run.region_end ?_
   refine Run.condT rfl ?_
   refine Run.ops0 (idx := [0, 1]) rfl ?_
   exact hS.elim
  ·have hS := hF hb48; clear hT hF
   refine Run.go rfl rfl rfl (sem_binI .i64 (IntKind.wrap .i64 ((i34) + ((n45 : Nat)))) (0) (.bool false) rfl rfl (binI_lss_f hb48) ?_)
   refine Run.region_end ?_
   refine Run.condF rfl ?_
   refine Run.skip ?_
   refine Run.inBlock ?_
   refine Run.ops0 (idx := [0, 1]) rfl ?_
   refine Run.go rfl rfl rfl (sem_binI .i64 (i35) (1) ((Value.int .i64 (IntKind.wrap .i64 ((i35) + (1))))) rfl rfl rfl ?_)
   refine Run.go rfl rfl rfl (sem_move ((Value.int .i64 (IntKind.wrap .i64 ((i35) + (1))))) rfl ?_)
   refine Run.region_end ?_
   exact Run.of_fin (hS.imp fun h' ⟨m', hm, hS⟩ => ih39 ((IntKind.wrap .i64 ((i34) + ((n45 : Nat)))), (IntKind.wrap .i64 ((i35) + (1))), m') _ _ ⟨hS, ⟨rfl, rfl, rfl, rfl, rfl, trivial⟩⟩ hm)
 ·have hS := hF hb41; clear hT hF
  refine Run.go rfl rfl rfl (sem_binI .i64 (i35) ((n2 : Nat)) (.bool false) rfl rfl (binI_lss_f hb41) ?_)
  refine Run.region_end ?_
  refine Run.seq ?_
  refine Run.condF rfl ?_
  refine Run.exit rfl ?_
  exact Run.of_fin (hS.imp fun h' hS => j7 _ _ ⟨(i34), ⟨rfl, rfl, trivial⟩, hS⟩)
set_option maxHeartbeats 4000000 in
theorem C_slices_Backward_s_acts_Open_acts_Open.of {B : RO} {a1 : Option Addr} {n2 : Nat} {c3 : Nat} {h : Heap} {Q : Value → Heap → Prop} (hS : S_slices_Backward_s_acts_Open_acts_Open B a1 n2 c3 h Q) : C_slices_Backward_s_acts_Open_acts_Open B a1 n2 c3 h Q := by
 unfold S_slices_Backward_s_acts_Open_acts_Open at hS
 unfold C_slices_Backward_s_acts_Open_acts_Open
 refine Spec.of_run Try.func130 (N := 4) (rs := [ResultVar.tmp 2]) rfl rfl rfl (Nat.le_of_ble_eq_true rfl) ?_
 refine Run.seq ?_
 refine Run.ops0 (idx := [0, 1]) rfl ?_
 refine Run.go rfl rfl rfl (sem_box1N ((Value.slice a1 n2 c3)) rfl rfl (fun k5 hb1 hb2 h6 hb3 => ?_))
 have hS := hS k5 hb1 hb2 h6 hb3
 refine Run.go rfl rfl rfl (sem_assign (Value.nilFunc) rfl ?_)
 refine Run.region_end ?_
 refine Run.seq ?_
 refine Run.ops0 (idx := [0, 1]) rfl ?_
 refine Run.go rfl rfl rfl (sem_makeFuncL [] [(Value.pointer (some ⟨k5, 0, none⟩))] rfl rfl ?_)
 refine Run.go rfl rfl rfl (sem_assign ((Value.func (.func 158) #[] #[(Value.pointer (some ⟨k5, 0, none⟩))])) rfl ?_)
 refine Run.region_end ?_
 refine Run.ret ⟨.inr rfl, ?_⟩
 exact hS.imp fun h' hq => ⟨(Value.func (.func 158) #[] #[(Value.pointer (some ⟨k5, 0, none⟩))]), rfl, hq⟩
set_option maxHeartbeats 4000000 in
theorem C_slices_Grow_s_acts_Out_acts_Out.of {B : RO} {a1 : Option Addr} {n2 : Nat} {c3 : Nat} {i4 : Int} {h : Heap} {Q : Option Addr → Nat → Nat → Heap → Prop} (hS : S_slices_Grow_s_acts_Out_acts_Out B a1 n2 c3 i4 h Q) : C_slices_Grow_s_acts_Out_acts_Out B a1 n2 c3 i4 h Q := by
 unfold S_slices_Grow_s_acts_Out_acts_Out at hS
 unfold C_slices_Grow_s_acts_Out_acts_Out
 refine Spec.of_run Try.func131 (N := 27) (rs := [ResultVar.tmp 4]) rfl rfl rfl (Nat.le_of_ble_eq_true rfl) ?_
 refine Run.seq ?_
 refine Run.ops0 (idx := [0]) rfl ?_
 refine Run.go rfl rfl rfl (sem_assign ((Value.slice none 0 0)) rfl ?_)
 refine Run.region_end ?_
 refine Run.seqJ (fun e h9 => Agree [(0, (Value.slice a1 n2 c3)), (1, (Value.int .i64 (i4)))] e ∧ S_slices_Grow_s_acts_Out_acts_Out_J1 B a1 n2 c3 i4 h9 Q) ?_ fun j8 => ?_
 ·rintro e h9 ⟨hag, hS⟩
  refine Run.env hag ?_; clear hag
  refine Run.seq ?_
  refine Run.seq ?_
  refine Run.ops0 (idx := [0, 1, 2, 3, 4, 5, 6, 7]) rfl ?_
  refine Run.go rfl rfl rfl (sem_move ((Value.int .i64 (i4))) rfl ?_)
  refine Run.go rfl rfl rfl (sem_move ((Value.slice a1 n2 c3)) rfl ?_)
  refine Run.go rfl rfl rfl (sem_capSl a1 (n2) (c3) rfl TF.sl_25 ?_)
  refine Run.go rfl rfl rfl (sem_move ((Value.slice a1 n2 c3)) rfl ?_)
  refine Run.go rfl rfl rfl (sem_lenSl a1 n2 c3 rfl TF.sl_25 ?_)
  refine Run.go rfl rfl rfl (sem_binI .i64 ((c3 : Nat)) ((n2 : Nat)) ((Value.int .i64 (IntKind.wrap .i64 (((c3 : Nat)) - ((n2 : Nat)))))) rfl rfl rfl ?_)
  refine Run.go rfl rfl rfl (sem_binI .i64 (i4) (IntKind.wrap .i64 (((c3 : Nat)) - ((n2 : Nat)))) ((Value.int .i64 (IntKind.wrap .i64 ((i4) - (IntKind.wrap .i64 (((c3 : Nat)) - ((n2 : Nat)))))))) rfl rfl rfl ?_)
  refine Run.go rfl rfl rfl (sem_assign ((Value.int .i64 (IntKind.wrap .i64 ((i4) - (IntKind.wrap .i64 (((c3 : Nat)) - ((n2 : Nat)))))))) rfl ?_)
  refine Run.region_end ?_
  refine Run.seq ?_
  refine Run.ops0 (idx := [0, 1]) rfl ?_
  refine Run.go rfl rfl rfl (sem_move ((Value.int .i64 (IntKind.wrap .i64 ((i4) - (IntKind.wrap .i64 (((c3 : Nat)) - ((n2 : Nat)))))))) rfl ?_)
  obtain ⟨hT, hF⟩ := hS
  by_cases hb10 : (IntKind.wrap .i64 ((i4) - (IntKind.wrap .i64 (((c3 : Nat)) - ((n2 : Nat))))) : Int) > (0)
  ·have hS := hT hb10; clear hT hF
   refine Run.go rfl rfl rfl (sem_binI .i64 (IntKind.wrap .i64 ((i4) - (IntKind.wrap .i64 (((c3 : Nat)) - ((n2 : Nat)))))) (0) (.bool true) rfl rfl (binI_gtr_t hb10) ?_)
   refine Run.region_end ?_
   refine Run.condT rfl ?_
   refine Run.ops0 (idx := [0, 1, 2, 3, 4, 5, 6, 7, 8, 9]) rfl ?_
   refine Run.go rfl rfl rfl (sem_move ((Value.slice a1 n2 c3)) rfl ?_)
   refine Run.go rfl rfl rfl (sem_move ((Value.slice a1 n2 c3)) rfl ?_)
   refine Run.go rfl rfl rfl (sem_capSl a1 (n2) (c3) rfl TF.sl_25 ?_)
   obtain ⟨hi0, hi1, hi2, hS⟩ := hS
   refine Run.go rfl rfl rfl (sem_sliceSlI a1 n2 c3 (0) ((c3 : Nat)) rfl TF.slc_25 rfl ⟨_, rfl⟩ hi0 hi1 hi2 ?_)
   refine Run.go rfl rfl rfl (sem_move ((Value.int .i64 (IntKind.wrap .i64 ((i4) - (IntKind.wrap .i64 (((c3 : Nat)) - ((n2 : Nat)))))))) rfl ?_)
   refine Run.go rfl rfl rfl (sem_appendL [(Value.slice (if c3 = Int.toNat (0) then a1 else Option.map (·.add (Int.toNat (0) * 2)) a1) (Int.toNat ((c3 : Nat)) - Int.toNat (0)) (c3 - Int.toNat (0))), (Value.int .i64 (IntKind.wrap .i64 ((i4) - (IntKind.wrap .i64 (((c3 : Nat)) - ((n2 : Nat)))))))] rfl (semH_mono (fun v h11 hv => ?_) hS))
   obtain ⟨a12, n13, c14, rfl, hS⟩ := hv
   refine Run.go rfl rfl rfl (sem_move ((Value.slice a1 n2 c3)) rfl ?_)
   refine Run.go rfl rfl rfl (sem_lenSl a1 n2 c3 rfl TF.sl_25 ?_)
   obtain ⟨hi0, hi1, hi2, hS⟩ := hS
   refine Run.go rfl rfl rfl (sem_sliceSlI a12 n13 c14 (0) ((n2 : Nat)) rfl TF.slc_25 rfl ⟨_, rfl⟩ hi0 hi1 hi2 ?_)
   refine Run.go rfl rfl rfl (sem_assign ((Value.slice (if c14 = Int.toNat (0) then a12 else Option.map (·.add (Int.toNat (0) * 2)) a12) (Int.toNat ((n2 : Nat)) - Int.toNat (0)) (c14 - Int.toNat (0)))) rfl ?_)
   refine Run.region_end ?_
   refine Run.seq ?_
   refine Run.ops0 (idx := [0, 1]) rfl ?_
   refine Run.go rfl rfl rfl (sem_move ((Value.slice (if c14 = Int.toNat (0) then a12 else Option.map (·.add (Int.toNat (0) * 2)) a12) (Int.toNat ((n2 : Nat)) - Int.toNat (0)) (c14 - Int.toNat (0)))) rfl ?_)
   refine Run.go rfl rfl rfl (sem_assign ((Value.slice (if c14 = Int.toNat (0) then a12 else Option.map (·.add (Int.toNat (0) * 2)) a12) (Int.toNat ((n2 : Nat)) - Int.toNat (0)) (c14 - Int.toNat (0)))) rfl ?_)
   refine Run.region_end ?_
   refine Run.ret ⟨.inr rfl, ?_⟩
   exact hS.imp fun h' hq => ⟨(if c14 = Int.toNat (0) then a12 else Option.map (·.add (Int.toNat (0) * 2)) a12), (Int.toNat ((n2 : Nat)) - Int.toNat (0)), (c14 - Int.toNat (0)), rfl, hq⟩
  ·have hS := hF hb10; clear hT hF
   refine Run.go rfl rfl rfl (sem_binI .i64 (IntKind.wrap .i64 ((i4) - (IntKind.wrap .i64 (((c3 : Nat)) - ((n2 : Nat)))))) (0) (.bool false) rfl rfl (binI_gtr_f hb10) ?_)
   refine Run.region_end ?_
   refine Run.condF rfl ?_
   refine Run.skip ?_
   refine Run.seq ?_
   refine Run.ops0 (idx := [0, 1]) rfl ?_
   refine Run.go rfl rfl rfl (sem_move ((Value.slice a1 n2 c3)) rfl ?_)
   refine Run.go rfl rfl rfl (sem_assign ((Value.slice a1 n2 c3)) rfl ?_)
   refine Run.region_end ?_
   refine Run.ret ⟨.inr rfl, ?_⟩
   exact hS.imp fun h' hq => ⟨a1, n2, c3, rfl, hq⟩
 refine Run.seq ?_
 refine Run.ops0 (idx := [0, 1]) rfl ?_
 refine Run.go rfl rfl rfl (sem_move ((Value.int .i64 (i4))) rfl ?_)
 obtain ⟨hT, hF⟩ := hS
 by_cases hb15 : (i4 : Int) < (0)
 ·have hS := hT hb15; clear hT hF
  refine Run.go rfl rfl rfl (sem_binI .i64 (i4) (0) (.bool true) rfl rfl (binI_lss_t hb15) ?_)
  refine Run.region_end ?_
  refine Run.condT rfl ?_
  refine Run.ops0 (idx := [0, 1]) rfl ?_
  exact hS.elim
 ·have hS := hF hb15; clear hT hF
  refine Run.go rfl rfl rfl (sem_binI .i64 (i4) (0) (.bool false) rfl rfl (binI_lss_f hb15) ?_)
  refine Run.region_end ?_
  refine Run.condF rfl ?_
  refine Run.skip ?_
  exact Run.of_fin (hS.imp fun h' hS => j8 _ _ ⟨⟨rfl, rfl, trivial⟩, hS⟩)
set_option maxHeartbeats 4000000 in
theorem C_slices_Backward_s_acts_Open_acts_Open_1.of {B : RO} {v1 : Value} {A2 : Addr} {h : Heap} {Q : Heap → Prop} (hS : S_slices_Backward_s_acts_Open_acts_Open_1 B v1 A2 h Q) : C_slices_Backward_s_acts_Open_acts_Open_1 B v1 A2 h Q := by
 unfold S_slices_Backward_s_acts_Open_acts_Open_1 at hS
 unfold C_slices_Backward_s_acts_Open_acts_Open_1
 refine Spec.of_run Try.func158 (N := 19) (rs := []) rfl rfl rfl (Nat.le_of_ble_eq_true rfl) ?_
 refine Run.seq ?_
 refine Run.ops0 (idx := [0, 1, 2, 3]) rfl ?_
 refine Run.ldSl hS fun a3 n4 c5 h6 hl hS => ?_
 refine Run.go rfl rfl rfl (sem_load1 A2 ((Value.slice a3 n4 c5)) rfl TF.agg_27 hl ?_)
 refine Run.go rfl rfl rfl (sem_lenSl a3 n4 c5 rfl TF.sl_27 ?_)
 refine Run.go rfl rfl rfl (sem_binI .i64 ((n4 : Nat)) (1) ((Value.int .i64 (IntKind.wrap .i64 (((n4 : Nat)) - (1))))) rfl rfl rfl ?_)
 refine Run.go rfl rfl rfl (sem_assign ((Value.int .i64 (IntKind.wrap .i64 (((n4 : Nat)) - (1))))) rfl ?_)
 refine Run.region_end ?_
 refine Run.block ?_
 obtain ⟨J12, m10, h0, hS⟩ := hS
 refine Run.of_fin (h0.imp fun h' h0 => ?_)
 refine Run.loop (σ := Int × Nat) (fun x e h => J12 x.1 x.2 h ∧ Agree [(0, v1), (1, (Value.pointer (some A2))), (3, (Value.int .i64 (x.1)))] e) (fun x => x.2) ((IntKind.wrap .i64 (((n4 : Nat)) - (1))), m10) ⟨h0, ⟨rfl, rfl, rfl, trivial⟩⟩ ?_; clear h0
 rintro ⟨i7, m9⟩ e h8 ⟨hJ, hag⟩ ih11
 have hS := hS i7 m9 h8 hJ; clear hJ
 refine Run.env hag ?_; clear hag
 refine Run.seq ?_
 refine Run.seq ?_
 refine Run.ops0 (idx := [0, 1]) rfl ?_
 refine Run.go rfl rfl rfl (sem_move ((Value.int .i64 (i7))) rfl ?_)
 obtain ⟨hT, hF⟩ := hS
 by_cases hb13 : (i7 : Int) ≥ (0)
 ·have hS := hT hb13; clear hT hF
  refine Run.go rfl rfl rfl (sem_binI .i64 (i7) (0) (.bool true) rfl rfl (binI_geq_t hb13) ?_)
  refine Run.region_end ?_
  refine Run.condT rfl ?_
  refine Run.skip ?_
  refine Run.seq ?_
  refine Run.block ?_
  refine Run.seq ?_
  refine Run.ops0 (idx := [0, 1, 2, 3, 4, 5, 6, 7]) rfl ?_
  refine Run.go rfl rfl rfl (sem_move (v1) rfl ?_)
  refine Run.go rfl rfl rfl (sem_move ((Value.int .i64 (i7))) rfl ?_)
  refine Run.ldSl hS fun a14 n15 c16 h17 hl hS => ?_
  refine Run.go rfl rfl rfl (sem_load1 A2 ((Value.slice a14 n15 c16)) rfl TF.agg_27 hl ?_)
  refine Run.go rfl rfl rfl (sem_move ((Value.int .i64 (i7))) rfl ?_)
  obtain ⟨A18, e19, hi0, hi1, hS⟩ := hS
  refine Run.go rfl rfl rfl (sem_indexAddrS A18 n15 c16 .i64 (i7) (congrArg (fun a => Value.slice a n15 c16) e19) rfl TF.slc_27 hi0 hi1 ?_)
  obtain ⟨i20, i21, hl, hS⟩ := hS
  refine Run.go rfl rfl rfl (sem_loadN (Addr.add A18 (Int.toNat (i7) * 2)) [(Value.int .i64 (i20)), (Value.int .i64 (i21))] rfl TF.agg_160 TF.sz_160 hl ?_)
  refine Run.go rfl rfl rfl (sem_callV (v1) [(Value.int .i64 (i7)), (Value.agg #[(Value.int .i64 (i20)), (Value.int .i64 (i21))])] rfl rfl hS (fun nx h' ha => ha.mono fun v h22 hv => ?_))
  obtain ⟨b23, rfl, hS⟩ := hv
  obtain ⟨hT, hF⟩ := hS
  cases b23
  ·have hS := hF rfl; clear hT hF
   refine Run.go rfl rfl rfl (sem_not false rfl ?_)
   refine Run.region_end ?_
   refine Run.condT rfl ?_
   refine Run.ret ⟨.inr rfl, ?_⟩
   exact hS.imp fun h' hq => ⟨rfl, hq⟩
  ·have hS := hT rfl; clear hT hF
   refine Run.go rfl rfl rfl (sem_not true rfl ?_)
   refine Run.region_end ?_
   refine Run.condF rfl ?_
   refine Run.skip ?_
   refine Run.inBlock ?_
   refine Run.ops0 (idx := [0, 1, 2]) rfl ?_
   refine Run.go rfl rfl rfl (sem_move ((Value.int .i64 (i7))) rfl ?_)
   refine Run.go rfl rfl rfl (sem_binI .i64 (i7) (1) ((Value.int .i64 (IntKind.wrap .i64 ((i7) - (1))))) rfl rfl rfl ?_)
   refine Run.go rfl rfl rfl (sem_assign ((Value.int .i64 (IntKind.wrap .i64 ((i7) - (1))))) rfl ?_)
   refine Run.region_end ?_
   exact Run.of_fin (hS.imp fun h' ⟨m', hm, hS⟩ => ih11 ((IntKind.wrap .i64 ((i7) - (1))), m') _ _ ⟨hS, ⟨rfl, rfl, rfl, trivial⟩⟩ hm)
 ·have hS := hF hb13; clear hT hF
  refine Run.go rfl rfl rfl (sem_binI .i64 (i7) (0) (.bool false) rfl rfl (binI_geq_f hb13) ?_)
  refine Run.region_end ?_
  refine Run.condF rfl ?_
  refine Run.exit rfl ?_
  refine Run.fall ⟨.inl rfl, ?_⟩
  exact hS.imp fun h' hq => ⟨rfl, hq⟩
end Go.Proofs.Ythloobpjkeodgaa.H
