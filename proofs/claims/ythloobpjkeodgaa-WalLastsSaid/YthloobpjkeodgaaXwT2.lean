/- The functions do what they ask for. No condition. -/
import Derived.Test.YthloobpjkeodgaaXwS
namespace Go.Proofs.Ythloobpjkeodgaa.H
open Go
set_option linter.unusedVariables false
set_option maxRecDepth 100000

set_option maxHeartbeats 4000000 in
theorem C_countermandlaw04_heavy.of {B : RO} {a1 : Option Addr} {n2 : Nat} {c3 : Nat} {h : Heap} {Q : Bool → Heap → Prop} (hS : S_countermandlaw04_heavy B a1 n2 c3 h Q) : C_countermandlaw04_heavy B a1 n2 c3 h Q := by
 unfold S_countermandlaw04_heavy at hS
 unfold C_countermandlaw04_heavy
 refine Spec.of_run Try.func35 (N := 25) (rs := [ResultVar.tmp 2]) rfl rfl rfl (Nat.le_of_ble_eq_true rfl) ?_
 refine Run.seq ?_
 refine Run.ops0 (idx := [0]) rfl ?_
 refine Run.go rfl rfl rfl (sem_assign ((Value.bool false)) rfl ?_)
 refine Run.region_end ?_
 refine Run.seq ?_
 refine Run.seq ?_
 refine Run.ops0 (idx := [0, 1, 2]) rfl ?_
 refine Run.go rfl rfl rfl (sem_move ((Value.slice a1 n2 c3)) rfl ?_)
 refine Run.go rfl rfl rfl (sem_lenSl a1 n2 c3 rfl TF.sl_55 ?_)
 obtain ⟨hT, hF⟩ := hS
 by_cases hb5 : ((n2 : Nat) : Int) > (50)
 ·have hS := hT hb5; clear hT hF
  refine Run.go rfl rfl rfl (sem_binI .i64 ((n2 : Nat)) (50) (.bool true) rfl rfl (binI_gtr_t hb5) ?_)
  refine Run.region_end ?_
  refine Run.condT rfl ?_
  refine Run.seq ?_
  refine Run.ops0 (idx := [0]) rfl ?_
  refine Run.go rfl rfl rfl (sem_assign ((Value.bool true)) rfl ?_)
  refine Run.region_end ?_
  refine Run.ret ⟨.inr rfl, ?_⟩
  exact hS.imp fun h' hq => ⟨(true), rfl, hq⟩
 ·have hS := hF hb5; clear hT hF
  refine Run.go rfl rfl rfl (sem_binI .i64 ((n2 : Nat)) (50) (.bool false) rfl rfl (binI_gtr_f hb5) ?_)
  refine Run.region_end ?_
  refine Run.condF rfl ?_
  refine Run.skip ?_
  refine Run.seq ?_
  refine Run.ops0 (idx := [0]) rfl ?_
  refine Run.go rfl rfl rfl (sem_assign ((Value.int .i64 (0))) rfl ?_)
  refine Run.region_end ?_
  refine Run.seq ?_
  refine Run.seq ?_
  refine Run.ops0 (idx := [0, 1, 2]) rfl ?_
  refine Run.go rfl rfl rfl (sem_move ((Value.slice a1 n2 c3)) rfl ?_)
  refine Run.go rfl rfl rfl (sem_lenSl a1 n2 c3 rfl TF.sl_55 ?_)
  refine Run.go rfl rfl rfl (sem_move ((Value.int .i64 (0))) rfl ?_)
  refine Run.region_end ?_
  refine Run.block ?_
  obtain ⟨J12, m10, h0, hS⟩ := hS
  refine Run.of_fin (h0.imp fun h' h0 => ?_)
  refine Run.loop (σ := Int × Int × Nat) (fun x e h => J12 x.1 x.2.1 x.2.2 h ∧ Agree [(3, (Value.int .i64 (x.1))), (9, (Value.slice a1 n2 c3)), (10, (Value.int .i64 ((n2 : Nat)))), (11, (Value.int .i64 (x.2.1)))] e) (fun x => x.2.2) ((0), (0), m10) ⟨h0, ⟨rfl, rfl, rfl, rfl, trivial⟩⟩ ?_; clear h0
  rintro ⟨i6, i7, m9⟩ e h8 ⟨hJ, hag⟩ ih11
  have hS := hS i6 i7 m9 h8 hJ; clear hJ
  refine Run.env hag ?_; clear hag
  refine Run.seq ?_
  refine Run.ops0 (idx := [0]) rfl ?_
  obtain ⟨hT, hF⟩ := hS
  by_cases hb13 : (i7 : Int) < ((n2 : Nat))
  ·have hS := hT hb13; clear hT hF
   refine Run.go rfl rfl rfl (sem_binI .i64 (i7) ((n2 : Nat)) (.bool true) rfl rfl (binI_lss_t hb13) ?_)
   refine Run.region_end ?_
   refine Run.seq ?_
   refine Run.condT rfl ?_
   refine Run.skip ?_
   refine Run.seq ?_
   refine Run.block ?_
   refine Run.seq ?_
   refine Run.ops0 (idx := [0, 1, 2]) rfl ?_
   obtain ⟨A14, e15, hi0, hi1, hS⟩ := hS
   refine Run.go rfl rfl rfl (sem_indexAddrS A14 n2 c3 .i64 (i7) (congrArg (fun a => Value.slice a n2 c3) e15) rfl TF.slc_55 hi0 hi1 ?_)
   obtain ⟨s16, hl, hS⟩ := hS
   refine Run.go rfl rfl rfl (sem_load1 (Addr.add A14 (Int.toNat (i7) * 1)) ((Value.string s16)) rfl TF.agg_9 hl ?_)
   refine Run.go rfl rfl rfl (sem_assign ((Value.string s16)) rfl ?_)
   refine Run.region_end ?_
   refine Run.seq ?_
   refine Run.seq ?_
   refine Run.ops0 (idx := [0, 1, 2]) rfl ?_
   refine Run.go rfl rfl rfl (sem_move ((Value.string s16)) rfl ?_)
   refine Run.go rfl rfl rfl (sem_lenStr s16 rfl TF.isStr_9 ?_)
   obtain ⟨hT, hF⟩ := hS
   by_cases hb17 : ((ByteArray.size s16 : Nat) : Int) > (8192)
   ·have hS := hT hb17; clear hT hF
    refine Run.go rfl rfl rfl (sem_binI .i64 ((ByteArray.size s16 : Nat)) (8192) (.bool true) rfl rfl (binI_gtr_t hb17) ?_)
    refine Run.region_end ?_
    refine Run.condT rfl ?_
    refine Run.seq ?_
    refine Run.ops0 (idx := [0]) rfl ?_
    refine Run.go rfl rfl rfl (sem_assign ((Value.bool true)) rfl ?_)
    refine Run.region_end ?_
    refine Run.ret ⟨.inr rfl, ?_⟩
    exact hS.imp fun h' hq => ⟨(true), rfl, hq⟩
   ·have hS := hF hb17; clear hT hF
    refine Run.go rfl rfl rfl (sem_binI .i64 ((ByteArray.size s16 : Nat)) (8192) (.bool false) rfl rfl (binI_gtr_f hb17) ?_)
    refine Run.region_end ?_
    refine Run.condF rfl ?_
    refine Run.skip ?_
    refine Run.seq ?_
    refine Run.ops0 (idx := [0, 1, 2, 3, 4]) rfl ?_
    refine Run.go rfl rfl rfl (sem_move ((Value.int .i64 (i6))) rfl ?_)
    refine Run.go rfl rfl rfl (sem_move ((Value.string s16)) rfl ?_)
    refine Run.go rfl rfl rfl (sem_lenStr s16 rfl TF.isStr_9 ?_)
    refine Run.go rfl rfl rfl (sem_binI .i64 (i6) ((ByteArray.size s16 : Nat)) ((Value.int .i64 (IntKind.wrap .i64 ((i6) + ((ByteArray.size s16 : Nat)))))) rfl rfl rfl ?_)
    refine Run.go rfl rfl rfl (sem_assign ((Value.int .i64 (IntKind.wrap .i64 ((i6) + ((ByteArray.size s16 : Nat)))))) rfl ?_)
    refine Run.region_end ?_
    refine Run.seq ?_
    refine Run.ops0 (idx := [0, 1]) rfl ?_
    refine Run.go rfl rfl rfl (sem_move ((Value.int .i64 (IntKind.wrap .i64 ((i6) + ((ByteArray.size s16 : Nat)))))) rfl ?_)
    obtain ⟨hT, hF⟩ := hS
    by_cases hb18 : (IntKind.wrap .i64 ((i6) + ((ByteArray.size s16 : Nat))) : Int) > (8192)
    ·have hS := hT hb18; clear hT hF
     refine Run.go rfl rfl rfl (sem_binI .i64 (IntKind.wrap .i64 ((i6) + ((ByteArray.size s16 : Nat)))) (8192) (.bool true) rfl rfl (binI_gtr_t hb18) ?_)
     refine Run.region_end ?_
     refine Run.condT rfl ?_
     refine Run.seq ?_
     refine Run.ops0 (idx := [0]) rfl ?_
     refine Run.go rfl rfl rfl (sem_assign ((Value.bool true)) rfl ?_)
     refine Run.region_end ?_
     refine Run.ret ⟨.inr rfl, ?_⟩
     exact hS.imp fun h' hq => ⟨(true), rfl, hq⟩
    ·have hS := hF hb18; clear hT hF
     refine Run.go rfl rfl rfl (sem_binI .i64 (IntKind.wrap .i64 ((i6) + ((ByteArray.size s16 : Nat)))) (8192) (.bool false) rfl rfl (binI_gtr_f hb18) ?_)
     refine Run.region_end ?_
     refine Run.condF rfl ?_
     refine Run.skip ?_
     refine Run.inBlock ?_
     refine Run.ops0 (idx := [0, 1]) rfl ?_
     refine Run.go rfl rfl rfl (sem_binI .i64 (i7) (1) ((Value.int .i64 (IntKind.wrap .i64 ((i7) + (1))))) rfl rfl rfl ?_)
     refine Run.go rfl rfl rfl (sem_move ((Value.int .i64 (IntKind.wrap .i64 ((i7) + (1))))) rfl ?_)
     refine Run.region_end ?_
     exact Run.of_fin (hS.imp fun h' ⟨m', hm, hS⟩ => ih11 ((IntKind.wrap .i64 ((i6) + ((ByteArray.size s16 : Nat)))), (IntKind.wrap .i64 ((i7) + (1))), m') _ _ ⟨hS, ⟨rfl, rfl, rfl, rfl, trivial⟩⟩ hm)
  ·have hS := hF hb13; clear hT hF
   refine Run.go rfl rfl rfl (sem_binI .i64 (i7) ((n2 : Nat)) (.bool false) rfl rfl (binI_lss_f hb13) ?_)
   refine Run.region_end ?_
   refine Run.seq ?_
   refine Run.condF rfl ?_
   refine Run.exit rfl ?_
   refine Run.seq ?_
   refine Run.ops0 (idx := [0]) rfl ?_
   refine Run.go rfl rfl rfl (sem_assign ((Value.bool false)) rfl ?_)
   refine Run.region_end ?_
   refine Run.ret ⟨.inr rfl, ?_⟩
   exact hS.imp fun h' hq => ⟨(false), rfl, hq⟩
set_option maxHeartbeats 4000000 in
theorem C_wal_Open.of {B : RO} {p1 : Option Addr} {i2 : Int} {h : Heap} {Q : Option Addr → Int → Heap → Prop} (hS : S_wal_Open B p1 i2 h Q) : C_wal_Open B p1 i2 h Q := by
 unfold S_wal_Open at hS
 unfold C_wal_Open
 refine Spec.of_run Try.func36 (N := 32) (rs := [ResultVar.tmp 4, ResultVar.tmp 5]) rfl rfl rfl (Nat.le_of_ble_eq_true rfl) ?_
 refine Run.seq ?_
 refine Run.ops0 (idx := [0, 1]) rfl ?_
 refine Run.go rfl rfl rfl (sem_assign ((Value.pointer none)) rfl ?_)
 refine Run.go rfl rfl rfl (sem_assign ((Value.int .i64 (0))) rfl ?_)
 refine Run.region_end ?_
 refine Run.seqJ (fun e h6 => Agree [(0, (Value.pointer p1)), (1, (Value.int .i64 (i2)))] e ∧ S_wal_Open_J1 B p1 i2 h6 Q) ?_ fun j5 => ?_
 ·rintro e h6 ⟨hag, hS⟩
  refine Run.env hag ?_; clear hag
  refine Run.seq ?_
  refine Run.ops0 (idx := [0, 1, 2, 3]) rfl ?_
  refine Run.go rfl rfl rfl (sem_move ((Value.pointer p1)) rfl ?_)
  refine Run.go rfl rfl rfl (sem_move ((Value.int .i64 (i2))) rfl ?_)
  refine Run.go rfl rfl rfl (sem_callL [(Value.pointer p1), (Value.int .i64 (i2))] (TF.goes_47) rfl rfl (Spec.mono hS fun v h7 hv => ?_))
  obtain ⟨s8, rfl, hS⟩ := hv
  refine Run.go rfl rfl rfl (sem_assign ((Value.string s8)) rfl ?_)
  refine Run.region_end ?_
  refine Run.seq ?_
  refine Run.ops0 (idx := [0, 1, 2]) rfl ?_
  refine Run.go rfl rfl rfl (sem_move ((Value.string s8)) rfl ?_)
  refine Run.go rfl rfl rfl (sem_callL [(Value.string s8)] (TF.goes_89) rfl rfl (Spec.mono hS fun v h9 hv => ?_))
  obtain ⟨i10, rfl, hS⟩ := hv
  refine Run.go rfl rfl rfl (sem_assign ((Value.int .i64 (i10))) rfl ?_)
  refine Run.region_end ?_
  refine Run.seq ?_
  refine Run.ops0 (idx := [0, 1, 2, 3, 4, 5, 6, 7, 8, 9, 10]) rfl ?_
  refine Run.go rfl rfl rfl (sem_move ((Value.pointer p1)) rfl ?_)
  refine Run.go rfl rfl rfl (sem_move ((Value.int .i64 (i2))) rfl ?_)
  refine Run.go rfl rfl rfl (sem_move ((Value.int .i64 (i10))) rfl ?_)
  refine Run.go rfl rfl rfl (sem_move ((Value.int .i64 (i10))) rfl ?_)
  refine Run.go rfl rfl rfl (sem_move ((Value.string s8)) rfl ?_)
  refine Run.go rfl rfl rfl (sem_lenStr s8 rfl TF.isStr_9 ?_)
  refine Run.go rfl rfl rfl (sem_binI .i64 (i10) ((ByteArray.size s8 : Nat)) ((Value.bool (decide ((i10 : Int) < ((ByteArray.size s8 : Nat)))))) rfl rfl rfl ?_)
  refine Run.go rfl rfl rfl (sem_buildSL [(0, (Value.pointer p1)), (1, (Value.int .i64 (i2))), (2, (Value.int .i64 (i10))), (3, (Value.bool (decide ((i10 : Int) < ((ByteArray.size s8 : Nat))))))] [(Value.pointer p1), (Value.int .i64 (i2)), (Value.int .i64 (i10)), (Value.bool (decide ((i10 : Int) < ((ByteArray.size s8 : Nat)))))] TF.zero_171 TF.places_171 rfl rfl ?_)
  refine Run.go rfl rfl rfl (sem_boxNN [(Value.pointer p1), (Value.int .i64 (i2)), (Value.int .i64 (i10)), (Value.bool (decide ((i10 : Int) < ((ByteArray.size s8 : Nat)))))] rfl (fun k11 hb1 hb2 h12 hb3 => ?_))
  have hS := hS k11 hb1 hb2 h12 hb3
  refine Run.go rfl rfl rfl (sem_assign ((Value.pointer (some ⟨k11, 0, none⟩))) rfl ?_)
  refine Run.go rfl rfl rfl (sem_assign ((Value.int .i64 (0))) rfl ?_)
  refine Run.region_end ?_
  refine Run.ret ⟨.inr rfl, ?_⟩
  exact hS.imp fun h' hq => ⟨(some ⟨k11, 0, none⟩), (0), rfl, hq⟩
 refine Run.block ?_
 refine Run.seq ?_
 refine Run.ops0 (idx := [0, 1, 2]) rfl ?_
 refine Run.go rfl rfl rfl (sem_move ((Value.pointer p1)) rfl ?_)
 obtain ⟨hT, hF⟩ := hS
 by_cases hb13 : p1 = none
 ·have hS := hT hb13; clear hT hF
  refine Run.go rfl rfl rfl (sem_ptrNilT p1 (.inl rfl) true rfl rfl TF.ptr_61 hb13 rfl ?_)
  refine Run.go rfl rfl rfl (sem_assign ((Value.bool true)) rfl ?_)
  refine Run.region_end ?_
  refine Run.condT rfl ?_
  refine Run.seq ?_
  refine Run.ops0 (idx := [0, 1]) rfl ?_
  refine Run.go rfl rfl rfl (sem_assign ((Value.pointer none)) rfl ?_)
  refine Run.go rfl rfl rfl (sem_assign ((Value.int .i64 (2))) rfl ?_)
  refine Run.region_end ?_
  refine Run.ret ⟨.inr rfl, ?_⟩
  exact hS.imp fun h' hq => ⟨none, (2), rfl, hq⟩
 ·have hS := hF hb13; clear hT hF
  refine Run.go rfl rfl rfl (sem_ptrNilF p1 (.inl rfl) false rfl rfl TF.ptr_61 hb13 rfl ?_)
  refine Run.go rfl rfl rfl (sem_assign ((Value.bool false)) rfl ?_)
  refine Run.region_end ?_
  refine Run.condF rfl ?_
  refine Run.seq ?_
  refine Run.ops0 (idx := [0, 1, 2, 3, 4, 5, 6]) rfl ?_
  refine Run.go rfl rfl rfl (sem_move ((Value.int .i64 (i2))) rfl ?_)
  obtain ⟨hT, hF⟩ := hS
  by_cases hb14 : (i2 : Int) = 0
  ·have hS := hT hb14; clear hT hF
   refine Run.go rfl rfl rfl (sem_binI .i64 (i2) (0) (.bool false) rfl rfl (binI_neq_t hb14) ?_)
   refine Run.go rfl rfl rfl (sem_move ((Value.bool false)) rfl ?_)
   refine Run.no rfl rfl rfl ?_
   refine Run.no rfl rfl rfl ?_
   refine Run.go rfl rfl rfl (sem_pick false ((Value.bool false)) rfl rfl ?_)
   refine Run.go rfl rfl rfl (sem_assign ((Value.bool false)) rfl ?_)
   refine Run.region_end ?_
   refine Run.condF rfl ?_
   refine Run.skip ?_
   refine Run.inBlock ?_
   exact Run.of_fin (hS.imp fun h' hS => j5 _ _ ⟨⟨rfl, rfl, trivial⟩, hS⟩)
  ·have hS := hF hb14; clear hT hF
   refine Run.go rfl rfl rfl (sem_binI .i64 (i2) (0) (.bool true) rfl rfl (binI_neq_f hb14) ?_)
   refine Run.go rfl rfl rfl (sem_move ((Value.bool true)) rfl ?_)
   refine Run.go rfl rfl rfl (sem_move ((Value.int .i64 (i2))) rfl ?_)
   obtain ⟨hT, hF⟩ := hS
   by_cases hb15 : (i2 : Int) = 1
   ·have hS := hT hb15; clear hT hF
    refine Run.go rfl rfl rfl (sem_binI .i64 (i2) (1) (.bool false) rfl rfl (binI_neq_t hb15) ?_)
    refine Run.go rfl rfl rfl (sem_pick true ((Value.bool false)) rfl rfl ?_)
    refine Run.go rfl rfl rfl (sem_assign ((Value.bool false)) rfl ?_)
    refine Run.region_end ?_
    refine Run.condF rfl ?_
    refine Run.skip ?_
    refine Run.inBlock ?_
    exact Run.of_fin (hS.imp fun h' hS => j5 _ _ ⟨⟨rfl, rfl, trivial⟩, hS⟩)
   ·have hS := hF hb15; clear hT hF
    refine Run.go rfl rfl rfl (sem_binI .i64 (i2) (1) (.bool true) rfl rfl (binI_neq_f hb15) ?_)
    refine Run.go rfl rfl rfl (sem_pick true ((Value.bool true)) rfl rfl ?_)
    refine Run.go rfl rfl rfl (sem_assign ((Value.bool true)) rfl ?_)
    refine Run.region_end ?_
    refine Run.condT rfl ?_
    refine Run.seq ?_
    refine Run.ops0 (idx := [0, 1]) rfl ?_
    refine Run.go rfl rfl rfl (sem_assign ((Value.pointer none)) rfl ?_)
    refine Run.go rfl rfl rfl (sem_assign ((Value.int .i64 (1))) rfl ?_)
    refine Run.region_end ?_
    refine Run.ret ⟨.inr rfl, ?_⟩
    exact hS.imp fun h' hq => ⟨none, (1), rfl, hq⟩
set_option maxHeartbeats 4000000 in
theorem C_disk_New.of {B : RO} {h : Heap} {Q : Option Addr → Heap → Prop} (hS : S_disk_New B h Q) : C_disk_New B h Q := by
 unfold S_disk_New at hS
 unfold C_disk_New
 refine Spec.of_run Try.func37 (N := 3) (rs := [ResultVar.tmp 0]) rfl rfl rfl (Nat.le_of_ble_eq_true rfl) ?_
 refine Run.seq ?_
 refine Run.ops0 (idx := [0]) rfl ?_
 refine Run.go rfl rfl rfl (sem_assign ((Value.pointer none)) rfl ?_)
 refine Run.region_end ?_
 refine Run.seq ?_
 refine Run.ops0 (idx := [0, 1, 2]) rfl ?_
 refine Run.go rfl rfl rfl (sem_buildSL [] [(Value.string ByteArray.empty), (Value.string ByteArray.empty), (Value.string ByteArray.empty), (Value.string ByteArray.empty), (Value.slice none 0 0)] TF.zero_177 TF.places_177 rfl rfl ?_)
 refine Run.go rfl rfl rfl (sem_boxNN [(Value.string ByteArray.empty), (Value.string ByteArray.empty), (Value.string ByteArray.empty), (Value.string ByteArray.empty), (Value.slice none 0 0)] rfl (fun k2 hb1 hb2 h3 hb3 => ?_))
 have hS := hS k2 hb1 hb2 h3 hb3
 refine Run.go rfl rfl rfl (sem_assign ((Value.pointer (some ⟨k2, 0, none⟩))) rfl ?_)
 refine Run.region_end ?_
 refine Run.ret ⟨.inr rfl, ?_⟩
 exact hS.imp fun h' hq => ⟨(some ⟨k2, 0, none⟩), rfl, hq⟩
set_option maxHeartbeats 4000000 in
theorem C_wal_Log_Append.of {B : RO} {p1 : Option Addr} {s2 : ByteArray} {h : Heap} {Q : Int → Heap → Prop} (hS : S_wal_Log_Append B p1 s2 h Q) : C_wal_Log_Append B p1 s2 h Q := by
 unfold S_wal_Log_Append at hS
 unfold C_wal_Log_Append
 refine Spec.of_run Try.func38 (N := 43) (rs := [ResultVar.tmp 4]) rfl rfl rfl (Nat.le_of_ble_eq_true rfl) ?_
 refine Run.seq ?_
 refine Run.ops0 (idx := [0]) rfl ?_
 refine Run.go rfl rfl rfl (sem_assign ((Value.int .i64 (0))) rfl ?_)
 refine Run.region_end ?_
 refine Run.seqJ (fun e h5 => Agree [(0, (Value.pointer p1)), (1, (Value.string s2))] e ∧ S_wal_Log_Append_J1 B p1 s2 h5 Q) ?_ fun j4 => ?_
 ·rintro e h5 ⟨hag, hS⟩
  refine Run.env hag ?_; clear hag
  refine Run.seq ?_
  refine Run.ops0 (idx := [0, 1, 2]) rfl ?_
  refine Run.go rfl rfl rfl (sem_move ((Value.string s2)) rfl ?_)
  refine Run.go rfl rfl rfl (sem_callL [(Value.string s2)] (TF.goes_90) rfl rfl (Spec.mono hS fun v h6 hv => ?_))
  obtain ⟨s7, rfl, hS⟩ := hv
  refine Run.go rfl rfl rfl (sem_assign ((Value.string s7)) rfl ?_)
  refine Run.region_end ?_
  refine Run.seq ?_
  refine Run.seq ?_
  skip
  obtain ⟨A9, e10, hS⟩ := hS
  skip
  skip
  obtain ⟨p13, hl, hS⟩ := hS
  have f14 := hl
  skip
  obtain ⟨A16, e17, hS⟩ := hS
  skip
  skip
  obtain ⟨i20, hl, hS⟩ := hS
  have f21 := hl
  skip
  refine Run.drawM (fun h' => cellH B h' A9 = some (Value.pointer p13) ∧ cellH B h' (Addr.add A16 1) = some (Value.int .i64 (i20)) ∧ True) [] ⟨[0, 1, 2, 4, 0, 16, 32, 64, 0, 392, 1023], [2047, 2046, 2045, 2043, 2047, 2031, 2015, 1983, 2047, 1655, 1535], [0, 0, 0, 0, 0, 0, 0, 0, 0, 0, 0], 0⟩ (.q 0 (.q 1 (.q 2 (.q 3 (.q 4 (.q 5 (.q 6 (.q 7 (.q 8 (.x 9 (.q 10 .nil) .no)))))))))) TF.mixed (by kernel_rfl) ⟨f14, f21, trivial⟩ ?_
  refine RunT.quiet rfl rfl rfl (fun h' hC => sem_move ((Value.pointer p1)) rfl ⟨rfl, rfl⟩) ?_
  refine RunT.quiet rfl rfl rfl (fun h' hC => sem_nilCheck A9 (congrArg Value.pointer e10) ⟨rfl, rfl⟩) ?_
  refine RunT.quiet rfl rfl rfl (fun h' hC => sem_fieldAddr A9 0 rfl TF.fld_171_0 ⟨rfl, rfl⟩) ?_
  refine RunT.quiet rfl rfl rfl (fun h' hC => sem_load1 A9 ((Value.pointer p13)) rfl TF.agg_61 hC.1 ⟨rfl, rfl⟩) ?_
  refine RunT.quiet rfl rfl rfl (fun h' hC => sem_move ((Value.pointer p1)) rfl ⟨rfl, rfl⟩) ?_
  refine RunT.quiet rfl rfl rfl (fun h' hC => sem_nilCheck A16 (congrArg Value.pointer e17) ⟨rfl, rfl⟩) ?_
  refine RunT.quiet rfl rfl rfl (fun h' hC => sem_fieldAddr A16 1 rfl TF.fld_171_1 ⟨rfl, rfl⟩) ?_
  refine RunT.quiet rfl rfl rfl (fun h' hC => sem_load1 (Addr.add A16 1) ((Value.int .i64 (i20))) rfl TF.agg_3 hC.2.1 ⟨rfl, rfl⟩) ?_
  refine RunT.quiet rfl rfl rfl (fun h' hC => sem_move ((Value.string s7)) rfl ⟨rfl, rfl⟩) ?_
  refine ⟨?_, trivial⟩
  refine OpH.go rfl rfl rfl (sem_callL [(Value.pointer p13), (Value.int .i64 (i20)), (Value.string s7)] (TF.goes_42) rfl rfl (Spec.mono hS fun v h23 hv => ?_))
  obtain ⟨i24, rfl, hS⟩ := hv
  obtain ⟨g25, g26, hS⟩ := hS
  refine ⟨fun _ => ⟨g25, g26, trivial⟩, ?_⟩
  refine RunT.quiet rfl rfl rfl (fun h' hC => sem_assign ((Value.int .i64 (i24))) rfl ⟨rfl, rfl⟩) ?_
  refine Run.seq ?_
  refine Run.ops0 (idx := [0, 1]) rfl ?_
  refine Run.go rfl rfl rfl (sem_move ((Value.int .i64 (i24))) rfl ?_)
  obtain ⟨hT, hF⟩ := hS
  by_cases hb27 : (i24 : Int) = 0
  ·have hS := hT hb27; clear hT hF
   refine Run.go rfl rfl rfl (sem_binI .i64 (i24) (0) (.bool false) rfl rfl (binI_neq_t hb27) ?_)
   refine Run.region_end ?_
   refine Run.condF rfl ?_
   refine Run.skip ?_
   refine Run.seq ?_
   refine Run.ops0 (idx := [0, 1, 2, 3, 4, 5, 6, 7, 8, 9]) rfl ?_
   refine Run.go rfl rfl rfl (sem_move ((Value.pointer p1)) rfl ?_)
   obtain ⟨A28, e29, hS⟩ := hS
   refine Run.go rfl rfl rfl (sem_nilCheck A28 (congrArg Value.pointer e29) ?_)
   refine Run.go rfl rfl rfl (sem_fieldAddr A28 2 rfl TF.fld_171_2 ?_)
   obtain ⟨i30, hl, hS⟩ := hS
   refine Run.go rfl rfl rfl (sem_load1 (Addr.add A28 2) ((Value.int .i64 (i30))) rfl TF.agg_3 hl ?_)
   refine Run.go rfl rfl rfl (sem_move ((Value.string s7)) rfl ?_)
   refine Run.go rfl rfl rfl (sem_lenStr s7 rfl TF.isStr_9 ?_)
   refine Run.go rfl rfl rfl (sem_binI .i64 (i30) ((ByteArray.size s7 : Nat)) ((Value.int .i64 (IntKind.wrap .i64 ((i30) + ((ByteArray.size s7 : Nat)))))) rfl rfl rfl ?_)
   obtain ⟨A31, e32, hS⟩ := hS
   refine Run.go rfl rfl rfl (sem_nilCheck A31 (congrArg Value.pointer e32) ?_)
   refine Run.go rfl rfl rfl (sem_fieldAddr A31 2 rfl TF.fld_171_2 ?_)
   obtain ⟨h33, hst, hS⟩ := hS
   refine Run.go rfl rfl rfl (sem_store1 (Addr.add A31 2) ((Value.int .i64 (IntKind.wrap .i64 ((i30) + ((ByteArray.size s7 : Nat)))))) h33 rfl rfl rfl TF.sz_3 hst ?_)
   refine Run.region_end ?_
   refine Run.seq ?_
   refine Run.ops0 (idx := [0]) rfl ?_
   refine Run.go rfl rfl rfl (sem_assign ((Value.int .i64 (0))) rfl ?_)
   refine Run.region_end ?_
   refine Run.ret ⟨.inr rfl, ?_⟩
   exact hS.imp fun h' hq => ⟨(0), rfl, hq⟩
  ·have hS := hF hb27; clear hT hF
   refine Run.go rfl rfl rfl (sem_binI .i64 (i24) (0) (.bool true) rfl rfl (binI_neq_f hb27) ?_)
   refine Run.region_end ?_
   refine Run.condT rfl ?_
   refine Run.seq ?_
   refine Run.ops0 (idx := [0, 1]) rfl ?_
   refine Run.go rfl rfl rfl (sem_move ((Value.int .i64 (i24))) rfl ?_)
   refine Run.go rfl rfl rfl (sem_assign ((Value.int .i64 (i24))) rfl ?_)
   refine Run.region_end ?_
   refine Run.ret ⟨.inr rfl, ?_⟩
   exact hS.imp fun h' hq => ⟨(i24), rfl, hq⟩
 refine Run.block ?_
 refine Run.seq ?_
 refine Run.ops0 (idx := [0, 1, 2]) rfl ?_
 refine Run.go rfl rfl rfl (sem_move ((Value.pointer p1)) rfl ?_)
 obtain ⟨hT, hF⟩ := hS
 by_cases hb34 : p1 = none
 ·have hS := hT hb34; clear hT hF
  refine Run.go rfl rfl rfl (sem_ptrNilT p1 (.inl rfl) true rfl rfl TF.ptr_57 hb34 rfl ?_)
  refine Run.go rfl rfl rfl (sem_assign ((Value.bool true)) rfl ?_)
  refine Run.region_end ?_
  refine Run.condT rfl ?_
  refine Run.seq ?_
  refine Run.ops0 (idx := [0]) rfl ?_
  refine Run.go rfl rfl rfl (sem_assign ((Value.int .i64 (2))) rfl ?_)
  refine Run.region_end ?_
  refine Run.ret ⟨.inr rfl, ?_⟩
  exact hS.imp fun h' hq => ⟨(2), rfl, hq⟩
 ·have hS := hF hb34; clear hT hF
  refine Run.go rfl rfl rfl (sem_ptrNilF p1 (.inl rfl) false rfl rfl TF.ptr_57 hb34 rfl ?_)
  refine Run.go rfl rfl rfl (sem_assign ((Value.bool false)) rfl ?_)
  refine Run.region_end ?_
  refine Run.condF rfl ?_
  refine Run.seq ?_
  refine Run.ops0 (idx := [0, 1, 2, 3]) rfl ?_
  refine Run.go rfl rfl rfl (sem_move ((Value.string s2)) rfl ?_)
  refine Run.go rfl rfl rfl (sem_lenStr s2 rfl TF.isStr_9 ?_)
  obtain ⟨hT, hF⟩ := hS
  by_cases hb35 : ((ByteArray.size s2 : Nat) : Int) > (1024)
  ·have hS := hT hb35; clear hT hF
   refine Run.go rfl rfl rfl (sem_binI .i64 ((ByteArray.size s2 : Nat)) (1024) (.bool true) rfl rfl (binI_gtr_t hb35) ?_)
   refine Run.go rfl rfl rfl (sem_assign ((Value.bool true)) rfl ?_)
   refine Run.region_end ?_
   refine Run.condT rfl ?_
   refine Run.seq ?_
   refine Run.ops0 (idx := [0]) rfl ?_
   refine Run.go rfl rfl rfl (sem_assign ((Value.int .i64 (3))) rfl ?_)
   refine Run.region_end ?_
   refine Run.ret ⟨.inr rfl, ?_⟩
   exact hS.imp fun h' hq => ⟨(3), rfl, hq⟩
  ·have hS := hF hb35; clear hT hF
   refine Run.go rfl rfl rfl (sem_binI .i64 ((ByteArray.size s2 : Nat)) (1024) (.bool false) rfl rfl (binI_gtr_f hb35) ?_)
   refine Run.go rfl rfl rfl (sem_assign ((Value.bool false)) rfl ?_)
   refine Run.region_end ?_
   refine Run.condF rfl ?_
   refine Run.seq ?_
   refine Run.ops0 (idx := [0, 1, 2, 3, 4]) rfl ?_
   refine Run.go rfl rfl rfl (sem_move ((Value.pointer p1)) rfl ?_)
   obtain ⟨A36, e37, hS⟩ := hS
   refine Run.go rfl rfl rfl (sem_nilCheck A36 (congrArg Value.pointer e37) ?_)
   refine Run.go rfl rfl rfl (sem_fieldAddr A36 3 rfl TF.fld_171_3 ?_)
   obtain ⟨b38, hl, hS⟩ := hS
   obtain ⟨hT, hF⟩ := hS
   cases b38
   ·have hS := hF rfl; clear hT hF
    refine Run.go rfl rfl rfl (sem_load1 (Addr.add A36 3) (.bool false) rfl TF.agg_4 hl ?_)
    refine Run.go rfl rfl rfl (sem_assign ((Value.bool false)) rfl ?_)
    refine Run.region_end ?_
    refine Run.condF rfl ?_
    refine Run.skip ?_
    refine Run.inBlock ?_
    exact Run.of_fin (hS.imp fun h' hS => j4 _ _ ⟨⟨rfl, rfl, trivial⟩, hS⟩)
   ·have hS := hT rfl; clear hT hF
    refine Run.go rfl rfl rfl (sem_load1 (Addr.add A36 3) (.bool true) rfl TF.agg_4 hl ?_)
    refine Run.go rfl rfl rfl (sem_assign ((Value.bool true)) rfl ?_)
    refine Run.region_end ?_
    refine Run.condT rfl ?_
    refine Run.seq ?_
    refine Run.ops0 (idx := [0]) rfl ?_
    refine Run.go rfl rfl rfl (sem_assign ((Value.int .i64 (9))) rfl ?_)
    refine Run.region_end ?_
    refine Run.ret ⟨.inr rfl, ?_⟩
    exact hS.imp fun h' hq => ⟨(9), rfl, hq⟩
set_option maxHeartbeats 4000000 in
theorem C_countermandlaw04_loads.of {B : RO} {p1 : Option Addr} {h : Heap} {Q : Option Addr → Nat → Nat → Heap → Prop} (hS : S_countermandlaw04_loads B p1 h Q) : C_countermandlaw04_loads B p1 h Q := by
 unfold S_countermandlaw04_loads at hS
 unfold C_countermandlaw04_loads
 refine Spec.of_run Try.func39 (N := 13) (rs := [ResultVar.tmp 2]) rfl rfl rfl (Nat.le_of_ble_eq_true rfl) ?_
 refine Run.seq ?_
 refine Run.ops0 (idx := [0]) rfl ?_
 refine Run.go rfl rfl rfl (sem_assign ((Value.slice none 0 0)) rfl ?_)
 refine Run.region_end ?_
 refine Run.seq ?_
 refine Run.ops0 (idx := [0]) rfl ?_
 refine Run.go rfl rfl rfl (sem_allocN [(Value.slice none 0 0)] TF.zero_55 (fun k5 hb1 hb2 h6 hb3 => ?_))
 have hS := hS k5 hb1 hb2 h6 hb3
 refine Run.region_end ?_
 refine Run.seq ?_
 refine Run.seq ?_
 refine Run.ops0 (idx := [0, 1]) rfl ?_
 refine Run.go rfl rfl rfl (sem_move ((Value.pointer p1)) rfl ?_)
 refine Run.go rfl rfl rfl (sem_callL [(Value.pointer p1)] (TF.goes_40) rfl rfl (Spec.mono hS fun v8 h7 hv => ?_))
 obtain ⟨_, rfl, hS⟩ := hv
 refine Run.region_end ?_
 refine Run.block ?_
 obtain ⟨xs14, G10, J13, hit, hins, hG, h0, hS, hR⟩ := hS
 refine Run.of_fin (h0.imp fun h' h0 => ?_)
 refine Run.range (v8) (xs14.map (fun x : ByteArray => [(Value.string x)])) G10 J13 rfl hit hins hG h0 rfl (fun a ha => by obtain ⟨x, _, rfl⟩ := List.mem_map.1 ha; rfl) ?_ ?_
 ·rintro q12 args h11 ha hJ
  obtain ⟨s9, hx, rfl⟩ := Option.map_eq_some_iff.1 ((List.getElem?_map ..).symm.trans ha)
  have hS := hS q12 h11 s9 hx hJ; clear hJ hx ha
  refine Run.ops0 (idx := [0]) rfl ?_
  refine Run.go rfl rfl rfl (sem_assign ((Value.string s9)) rfl ?_)
  refine Run.region_end ?_
  refine Run.begin ⟨rfl, ?_⟩
  refine Run.block ?_
  refine Run.ops0 (idx := [0, 1, 2, 3, 4]) rfl ?_
  refine Run.ldSl hS fun a15 n16 c17 h18 hl hS => ?_
  refine Run.go rfl rfl rfl (sem_load1 ⟨k5, 0, none⟩ ((Value.slice a15 n16 c17)) rfl TF.agg_55 hl ?_)
  refine Run.go rfl rfl rfl (sem_move ((Value.string s9)) rfl ?_)
  refine Run.go rfl rfl rfl (sem_buildSliceL [(0, (Value.string s9))] [(Value.string s9)] TF.slc_55 TF.zero_9 rfl (by decide) (by decide) rfl rfl (fun k19 hb1 hb2 h20 hb3 => ?_))
  have hS := hS k19 hb1 hb2 h20 hb3
  refine Run.go rfl rfl rfl (sem_appendL [(Value.slice a15 n16 c17), (Value.slice (some ⟨k19, 0, none⟩) 1 1)] rfl (semH_mono (fun v h21 hv => ?_) hS))
  obtain ⟨a22, n23, c24, rfl, hS⟩ := hv
  obtain ⟨h25, hst, hS⟩ := hS
  refine Run.go rfl rfl rfl (sem_store1 ⟨k5, 0, none⟩ ((Value.slice a22 n23 c24)) h25 rfl rfl rfl TF.sz_55 hst ?_)
  refine Run.region_end ?_
  refine Run.inBlock ?_
  refine Run.of_fin (hS.imp fun h' hS => ?_)
  exact Run.fall (.inl ⟨rfl, hS⟩)
 ·intro h11 hJ
  have hS := hR h11 (by simpa using hJ); clear hJ hR
  refine Run.inBlock ?_
  refine Run.seq ?_
  refine Run.ops0 (idx := [0, 1]) rfl ?_
  refine Run.ldSl hS fun a26 n27 c28 h29 hl hS => ?_
  refine Run.go rfl rfl rfl (sem_load1 ⟨k5, 0, none⟩ ((Value.slice a26 n27 c28)) rfl TF.agg_55 hl ?_)
  refine Run.go rfl rfl rfl (sem_assign ((Value.slice a26 n27 c28)) rfl ?_)
  refine Run.region_end ?_
  refine Run.ret ⟨.inr rfl, ?_⟩
  exact hS.imp fun h' hq => ⟨a26, n27, c28, rfl, hq⟩
set_option maxHeartbeats 4000000 in
theorem C_wal_Log_All.of {B : RO} {p1 : Option Addr} {h : Heap} {Q : Value → Heap → Prop} (hS : S_wal_Log_All B p1 h Q) : C_wal_Log_All B p1 h Q := by
 unfold S_wal_Log_All at hS
 unfold C_wal_Log_All
 refine Spec.of_run Try.func40 (N := 4) (rs := [ResultVar.tmp 2]) rfl rfl rfl (Nat.le_of_ble_eq_true rfl) ?_
 refine Run.seq ?_
 refine Run.ops0 (idx := [0, 1]) rfl ?_
 refine Run.go rfl rfl rfl (sem_box1N ((Value.pointer p1)) rfl rfl (fun k3 hb1 hb2 h4 hb3 => ?_))
 have hS := hS k3 hb1 hb2 h4 hb3
 refine Run.go rfl rfl rfl (sem_assign (Value.nilFunc) rfl ?_)
 refine Run.region_end ?_
 refine Run.seq ?_
 refine Run.ops0 (idx := [0, 1]) rfl ?_
 refine Run.go rfl rfl rfl (sem_makeFuncL [] [(Value.pointer (some ⟨k3, 0, none⟩))] rfl rfl ?_)
 refine Run.go rfl rfl rfl (sem_assign ((Value.func (.func 91) #[] #[(Value.pointer (some ⟨k3, 0, none⟩))])) rfl ?_)
 refine Run.region_end ?_
 refine Run.ret ⟨.inr rfl, ?_⟩
 exact hS.imp fun h' hq => ⟨(Value.func (.func 91) #[] #[(Value.pointer (some ⟨k3, 0, none⟩))]), rfl, hq⟩
set_option maxHeartbeats 4000000 in
theorem C_countermandlaw04_great.of {B : RO} {a1 : Option Addr} {n2 : Nat} {c3 : Nat} {h : Heap} {Q : Bool → Heap → Prop} (hS : S_countermandlaw04_great B a1 n2 c3 h Q) : C_countermandlaw04_great B a1 n2 c3 h Q := by
 unfold S_countermandlaw04_great at hS
 unfold C_countermandlaw04_great
 refine Spec.of_run Try.func41 (N := 27) (rs := [ResultVar.tmp 2]) rfl rfl rfl (Nat.le_of_ble_eq_true rfl) ?_
 refine Run.seq ?_
 refine Run.ops0 (idx := [0]) rfl ?_
 refine Run.go rfl rfl rfl (sem_assign ((Value.bool false)) rfl ?_)
 refine Run.region_end ?_
 refine Run.seq ?_
 refine Run.seq ?_
 refine Run.ops0 (idx := [0, 1, 2]) rfl ?_
 refine Run.go rfl rfl rfl (sem_move ((Value.slice a1 n2 c3)) rfl ?_)
 refine Run.go rfl rfl rfl (sem_lenSl a1 n2 c3 rfl TF.sl_69 ?_)
 obtain ⟨hT, hF⟩ := hS
 by_cases hb5 : ((n2 : Nat) : Int) > (50)
 ·have hS := hT hb5; clear hT hF
  refine Run.go rfl rfl rfl (sem_binI .i64 ((n2 : Nat)) (50) (.bool true) rfl rfl (binI_gtr_t hb5) ?_)
  refine Run.region_end ?_
  refine Run.condT rfl ?_
  refine Run.seq ?_
  refine Run.ops0 (idx := [0]) rfl ?_
  refine Run.go rfl rfl rfl (sem_assign ((Value.bool true)) rfl ?_)
  refine Run.region_end ?_
  refine Run.ret ⟨.inr rfl, ?_⟩
  exact hS.imp fun h' hq => ⟨(true), rfl, hq⟩
 ·have hS := hF hb5; clear hT hF
  refine Run.go rfl rfl rfl (sem_binI .i64 ((n2 : Nat)) (50) (.bool false) rfl rfl (binI_gtr_f hb5) ?_)
  refine Run.region_end ?_
  refine Run.condF rfl ?_
  refine Run.skip ?_
  refine Run.seq ?_
  refine Run.ops0 (idx := [0]) rfl ?_
  refine Run.go rfl rfl rfl (sem_assign ((Value.int .i64 (0))) rfl ?_)
  refine Run.region_end ?_
  refine Run.seq ?_
  refine Run.seq ?_
  refine Run.ops0 (idx := [0, 1, 2]) rfl ?_
  refine Run.go rfl rfl rfl (sem_move ((Value.slice a1 n2 c3)) rfl ?_)
  refine Run.go rfl rfl rfl (sem_lenSl a1 n2 c3 rfl TF.sl_69 ?_)
  refine Run.go rfl rfl rfl (sem_move ((Value.int .i64 (0))) rfl ?_)
  refine Run.region_end ?_
  refine Run.block ?_
  obtain ⟨J12, m10, h0, hS⟩ := hS
  refine Run.of_fin (h0.imp fun h' h0 => ?_)
  refine Run.loop (σ := Int × Int × Nat) (fun x e h => J12 x.1 x.2.1 x.2.2 h ∧ Agree [(3, (Value.int .i64 (x.1))), (9, (Value.slice a1 n2 c3)), (10, (Value.int .i64 ((n2 : Nat)))), (11, (Value.int .i64 (x.2.1)))] e) (fun x => x.2.2) ((0), (0), m10) ⟨h0, ⟨rfl, rfl, rfl, rfl, trivial⟩⟩ ?_; clear h0
  rintro ⟨i6, i7, m9⟩ e h8 ⟨hJ, hag⟩ ih11
  have hS := hS i6 i7 m9 h8 hJ; clear hJ
  refine Run.env hag ?_; clear hag
  refine Run.seq ?_
  refine Run.ops0 (idx := [0]) rfl ?_
  obtain ⟨hT, hF⟩ := hS
  by_cases hb13 : (i7 : Int) < ((n2 : Nat))
  ·have hS := hT hb13; clear hT hF
   refine Run.go rfl rfl rfl (sem_binI .i64 (i7) ((n2 : Nat)) (.bool true) rfl rfl (binI_lss_t hb13) ?_)
   refine Run.region_end ?_
   refine Run.seq ?_
   refine Run.condT rfl ?_
   refine Run.skip ?_
   refine Run.seq ?_
   refine Run.block ?_
   refine Run.seq ?_
   refine Run.ops0 (idx := [0, 1, 2, 3]) rfl ?_
   obtain ⟨A14, e15, hi0, hi1, hS⟩ := hS
   refine Run.go rfl rfl rfl (sem_indexAddrS A14 n2 c3 .i64 (i7) (congrArg (fun a => Value.slice a n2 c3) e15) rfl TF.slc_69 hi0 hi1 ?_)
   obtain ⟨i16, s17, i18, i19, hl, hS⟩ := hS
   refine Run.go rfl rfl rfl (sem_loadN (Addr.add A14 (Int.toNat (i7) * 4)) [(Value.int .i64 (i16)), (Value.string s17), (Value.int .i64 (i18)), (Value.int .i64 (i19))] rfl TF.agg_73 TF.sz_73 hl ?_)
   refine Run.go rfl rfl rfl (sem_allocN [(Value.int .i64 (0)), (Value.string ByteArray.empty), (Value.int .i64 (0)), (Value.int .i64 (0))] TF.zero_73 (fun k20 hb1 hb2 h21 hb3 => ?_))
   have hS := hS k20 hb1 hb2 h21 hb3
   obtain ⟨h22, hst, hS⟩ := hS
   refine Run.go rfl rfl rfl (sem_storeN ⟨k20, 0, none⟩ [(Value.int .i64 (i16)), (Value.string s17), (Value.int .i64 (i18)), (Value.int .i64 (i19))] h22 rfl rfl TF.sz_73 hst ?_)
   refine Run.region_end ?_
   refine Run.seq ?_
   refine Run.seq ?_
   refine Run.ops0 (idx := [0, 1, 2, 3]) rfl ?_
   refine Run.go rfl rfl rfl (sem_fieldAddr ⟨k20, 0, none⟩ 1 rfl TF.fld_73_1 ?_)
   obtain ⟨s23, hl, hS⟩ := hS
   refine Run.go rfl rfl rfl (sem_load1 ⟨k20, 1, none⟩ ((Value.string s23)) rfl TF.agg_9 hl ?_)
   refine Run.go rfl rfl rfl (sem_lenStr s23 rfl TF.isStr_9 ?_)
   obtain ⟨hT, hF⟩ := hS
   by_cases hb24 : ((ByteArray.size s23 : Nat) : Int) > (8192)
   ·have hS := hT hb24; clear hT hF
    refine Run.go rfl rfl rfl (sem_binI .i64 ((ByteArray.size s23 : Nat)) (8192) (.bool true) rfl rfl (binI_gtr_t hb24) ?_)
    refine Run.region_end ?_
    refine Run.condT rfl ?_
    refine Run.seq ?_
    refine Run.ops0 (idx := [0]) rfl ?_
    refine Run.go rfl rfl rfl (sem_assign ((Value.bool true)) rfl ?_)
    refine Run.region_end ?_
    refine Run.ret ⟨.inr rfl, ?_⟩
    exact hS.imp fun h' hq => ⟨(true), rfl, hq⟩
   ·have hS := hF hb24; clear hT hF
    refine Run.go rfl rfl rfl (sem_binI .i64 ((ByteArray.size s23 : Nat)) (8192) (.bool false) rfl rfl (binI_gtr_f hb24) ?_)
    refine Run.region_end ?_
    refine Run.condF rfl ?_
    refine Run.skip ?_
    refine Run.seq ?_
    refine Run.ops0 (idx := [0, 1, 2, 3, 4, 5]) rfl ?_
    refine Run.go rfl rfl rfl (sem_move ((Value.int .i64 (i6))) rfl ?_)
    refine Run.go rfl rfl rfl (sem_fieldAddr ⟨k20, 0, none⟩ 1 rfl TF.fld_73_1 ?_)
    obtain ⟨s25, hl, hS⟩ := hS
    refine Run.go rfl rfl rfl (sem_load1 ⟨k20, 1, none⟩ ((Value.string s25)) rfl TF.agg_9 hl ?_)
    refine Run.go rfl rfl rfl (sem_lenStr s25 rfl TF.isStr_9 ?_)
    refine Run.go rfl rfl rfl (sem_binI .i64 (i6) ((ByteArray.size s25 : Nat)) ((Value.int .i64 (IntKind.wrap .i64 ((i6) + ((ByteArray.size s25 : Nat)))))) rfl rfl rfl ?_)
    refine Run.go rfl rfl rfl (sem_assign ((Value.int .i64 (IntKind.wrap .i64 ((i6) + ((ByteArray.size s25 : Nat)))))) rfl ?_)
    refine Run.region_end ?_
    refine Run.seq ?_
    refine Run.ops0 (idx := [0, 1]) rfl ?_
    refine Run.go rfl rfl rfl (sem_move ((Value.int .i64 (IntKind.wrap .i64 ((i6) + ((ByteArray.size s25 : Nat)))))) rfl ?_)
    obtain ⟨hT, hF⟩ := hS
    by_cases hb26 : (IntKind.wrap .i64 ((i6) + ((ByteArray.size s25 : Nat))) : Int) > (8192)
    ·have hS := hT hb26; clear hT hF
     refine Run.go rfl rfl rfl (sem_binI .i64 (IntKind.wrap .i64 ((i6) + ((ByteArray.size s25 : Nat)))) (8192) (.bool true) rfl rfl (binI_gtr_t hb26) ?_)
     refine Run.region_end ?_
     refine Run.condT rfl ?_
     refine Run.seq ?_
     refine Run.ops0 (idx := [0]) rfl ?_
     refine Run.go rfl rfl rfl (sem_assign ((Value.bool true)) rfl ?_)
     refine Run.region_end ?_
     refine Run.ret ⟨.inr rfl, ?_⟩
     exact hS.imp fun h' hq => ⟨(true), rfl, hq⟩
    ·have hS := hF hb26; clear hT hF
     refine Run.go rfl rfl rfl (sem_binI .i64 (IntKind.wrap .i64 ((i6) + ((ByteArray.size s25 : Nat)))) (8192) (.bool false) rfl rfl (binI_gtr_f hb26) ?_)
     refine Run.region_end ?_
     refine Run.condF rfl ?_
     refine Run.skip ?_
     refine Run.inBlock ?_
     refine Run.ops0 (idx := [0, 1]) rfl ?_
     refine Run.go rfl rfl rfl (sem_binI .i64 (i7) (1) ((Value.int .i64 (IntKind.wrap .i64 ((i7) + (1))))) rfl rfl rfl ?_)
     refine Run.go rfl rfl rfl (sem_move ((Value.int .i64 (IntKind.wrap .i64 ((i7) + (1))))) rfl ?_)
     refine Run.region_end ?_
     exact Run.of_fin (hS.imp fun h' ⟨m', hm, hS⟩ => ih11 ((IntKind.wrap .i64 ((i6) + ((ByteArray.size s25 : Nat)))), (IntKind.wrap .i64 ((i7) + (1))), m') _ _ ⟨hS, ⟨rfl, rfl, rfl, rfl, trivial⟩⟩ hm)
  ·have hS := hF hb13; clear hT hF
   refine Run.go rfl rfl rfl (sem_binI .i64 (i7) ((n2 : Nat)) (.bool false) rfl rfl (binI_lss_f hb13) ?_)
   refine Run.region_end ?_
   refine Run.seq ?_
   refine Run.condF rfl ?_
   refine Run.exit rfl ?_
   refine Run.seq ?_
   refine Run.ops0 (idx := [0]) rfl ?_
   refine Run.go rfl rfl rfl (sem_assign ((Value.bool false)) rfl ?_)
   refine Run.region_end ?_
   refine Run.ret ⟨.inr rfl, ?_⟩
   exact hS.imp fun h' hq => ⟨(false), rfl, hq⟩
set_option maxHeartbeats 4000000 in
theorem C_disk_Disk_Append.of {B : RO} {p1 : Option Addr} {i2 : Int} {s3 : ByteArray} {h : Heap} {Q : Int → Heap → Prop} (hS : S_disk_Disk_Append B p1 i2 s3 h Q) : C_disk_Disk_Append B p1 i2 s3 h Q := by
 unfold S_disk_Disk_Append at hS
 unfold C_disk_Disk_Append
 refine Spec.of_run Try.func42 (N := 52) (rs := [ResultVar.tmp 6]) rfl rfl rfl (Nat.le_of_ble_eq_true rfl) ?_
 refine Run.seq ?_
 refine Run.ops0 (idx := [0]) rfl ?_
 refine Run.go rfl rfl rfl (sem_assign ((Value.int .i64 (0))) rfl ?_)
 refine Run.region_end ?_
 refine Run.seqJ (fun e h6 => Agree [(0, (Value.pointer p1)), (1, (Value.int .i64 (i2))), (2, (Value.string s3))] e ∧ S_disk_Disk_Append_J1 B p1 i2 s3 h6 Q) ?_ fun j5 => ?_
 ·rintro e h6 ⟨hag, hS⟩
  refine Run.env hag ?_; clear hag
  refine Run.seq ?_
  refine Run.drawM (fun h' => h' = h6) [13] ⟨[0, 0, 1, 4, 10, 16, 32, 0, 192, 1, 512, 1535, 2559, 4607], [16383, 16383, 16382, 16379, 16373, 16367, 16351, 16383, 16191, 16382, 15871, 15357, 14335, 12031], [0, 0, 1, 5, 15, 31, 63, 0, 255, 1, 513, 2047, 4095, 8191], 8192⟩ (.q 0 (.q 1 (.q 2 (.q 3 (.q 4 (.q 5 (.q 6 (.q 7 (.q 8 (.q 9 (.q 10 (.q 11 (.q 12 (.x 13 .nil .no)))))))))))))) TF.mixed (by kernel_rfl) rfl ?_
  refine RunT.quiet rfl rfl rfl (quiet_eq (sem_move ((Value.pointer p1)) rfl ⟨rfl, rfl⟩)) ?_
  refine RunT.quiet rfl rfl rfl (quiet_eq (sem_move ((Value.int .i64 (i2))) rfl ⟨rfl, rfl⟩)) ?_
  obtain ⟨A7, e8, hS⟩ := hS
  refine RunT.quiet rfl rfl rfl (quiet_eq (sem_nilCheck A7 (congrArg Value.pointer e8) ⟨rfl, rfl⟩)) ?_
  refine RunT.quiet rfl rfl rfl (quiet_eq (sem_fieldAddr A7 0 rfl TF.fld_177_0 ⟨rfl, rfl⟩)) ?_
  obtain ⟨hi0, hi1, hS⟩ := hS
  refine RunT.quiet rfl rfl rfl (quiet_eq (sem_indexAddrA A7 .i64 (i2) rfl rfl TF.arr_174 hi0 hi1 ⟨rfl, rfl⟩)) ?_
  refine RunT.quiet rfl rfl rfl (quiet_eq (sem_fieldAddr (Addr.add A7 (Int.toNat (i2) * 2)) 0 rfl TF.fld_173_0 ⟨rfl, rfl⟩)) ?_
  obtain ⟨s9, hl, hS⟩ := hS
  refine RunT.quiet rfl rfl rfl (quiet_eq (sem_load1 (Addr.add A7 (Int.toNat (i2) * 2)) ((Value.string s9)) rfl TF.agg_9 hl ⟨rfl, rfl⟩)) ?_
  refine RunT.quiet rfl rfl rfl (quiet_eq (sem_move ((Value.string s3)) rfl ⟨rfl, rfl⟩)) ?_
  obtain ⟨hi0, hS⟩ := hS
  refine RunT.quiet rfl rfl rfl (quiet_eq (sem_strAdd s9 s3 rfl rfl hi0 ⟨rfl, rfl⟩)) ?_
  obtain ⟨A10, e11, hS⟩ := hS
  refine RunT.quiet rfl rfl rfl (quiet_eq (sem_nilCheck A10 (congrArg Value.pointer e11) ⟨rfl, rfl⟩)) ?_
  refine RunT.quiet rfl rfl rfl (quiet_eq (sem_fieldAddr A10 0 rfl TF.fld_177_0 ⟨rfl, rfl⟩)) ?_
  obtain ⟨hi0, hi1, hS⟩ := hS
  refine RunT.quiet rfl rfl rfl (quiet_eq (sem_indexAddrA A10 .i64 (i2) rfl rfl TF.arr_174 hi0 hi1 ⟨rfl, rfl⟩)) ?_
  refine RunT.quiet rfl rfl rfl (quiet_eq (sem_fieldAddr (Addr.add A10 (Int.toNat (i2) * 2)) 0 rfl TF.fld_173_0 ⟨rfl, rfl⟩)) ?_
  refine ⟨?_, trivial⟩
  obtain ⟨h12, hst, hS⟩ := hS
  refine OpH.go rfl rfl rfl (sem_store1 (Addr.add A10 (Int.toNat (i2) * 2)) ((Value.string (s9 ++ s3))) h12 rfl rfl rfl TF.sz_9 hst ?_)
  refine ⟨fun hz => Bool.noConfusion hz, ?_⟩
  refine Run.seq ?_
  refine Run.ops0 (idx := [0, 1, 2, 3, 4, 5, 6, 7, 8, 9, 10, 11, 12]) rfl ?_
  refine Run.go rfl rfl rfl (sem_move ((Value.pointer p1)) rfl ?_)
  refine Run.go rfl rfl rfl (sem_move ((Value.pointer p1)) rfl ?_)
  obtain ⟨A13, e14, hS⟩ := hS
  refine Run.go rfl rfl rfl (sem_nilCheck A13 (congrArg Value.pointer e14) ?_)
  refine Run.go rfl rfl rfl (sem_fieldAddr A13 4 rfl TF.fld_177_1 ?_)
  refine Run.ldSl hS fun a15 n16 c17 h18 hl hS => ?_
  refine Run.go rfl rfl rfl (sem_load1 (Addr.add A13 4) ((Value.slice a15 n16 c17)) rfl TF.agg_175 hl ?_)
  refine Run.go rfl rfl rfl (sem_move ((Value.int .i64 (i2))) rfl ?_)
  refine Run.go rfl rfl rfl (sem_move ((Value.string s3)) rfl ?_)
  refine Run.go rfl rfl rfl (sem_buildSL [(0, (Value.int .i64 (i2))), (2, (Value.string s3))] [(Value.int .i64 (i2)), (Value.bool false), (Value.string s3)] TF.zero_181 TF.places_181 rfl rfl ?_)
  refine Run.go rfl rfl rfl (sem_buildSliceL [(0, (Value.agg #[(Value.int .i64 (i2)), (Value.bool false), (Value.string s3)]))] [(Value.int .i64 (i2)), (Value.bool false), (Value.string s3)] TF.slc_175 TF.zero_181 rfl (by decide) (by decide) rfl rfl (fun k19 hb1 hb2 h20 hb3 => ?_))
  have hS := hS k19 hb1 hb2 h20 hb3
  refine Run.go rfl rfl rfl (sem_appendL [(Value.slice a15 n16 c17), (Value.slice (some ⟨k19, 0, none⟩) 1 1)] rfl (semH_mono (fun v h21 hv => ?_) hS))
  obtain ⟨a22, n23, c24, rfl, hS⟩ := hv
  obtain ⟨A25, e26, hS⟩ := hS
  refine Run.go rfl rfl rfl (sem_nilCheck A25 (congrArg Value.pointer e26) ?_)
  refine Run.go rfl rfl rfl (sem_fieldAddr A25 4 rfl TF.fld_177_1 ?_)
  obtain ⟨h27, hst, hS⟩ := hS
  refine Run.go rfl rfl rfl (sem_store1 (Addr.add A25 4) ((Value.slice a22 n23 c24)) h27 rfl rfl rfl TF.sz_175 hst ?_)
  refine Run.region_end ?_
  refine Run.seq ?_
  refine Run.ops0 (idx := [0]) rfl ?_
  refine Run.go rfl rfl rfl (sem_assign ((Value.int .i64 (0))) rfl ?_)
  refine Run.region_end ?_
  refine Run.ret ⟨.inr rfl, ?_⟩
  exact hS.imp fun h' hq => ⟨(0), rfl, hq⟩
 refine Run.block ?_
 refine Run.seq ?_
 refine Run.ops0 (idx := [0, 1, 2]) rfl ?_
 refine Run.go rfl rfl rfl (sem_move ((Value.pointer p1)) rfl ?_)
 obtain ⟨hT, hF⟩ := hS
 by_cases hb28 : p1 = none
 ·have hS := hT hb28; clear hT hF
  refine Run.go rfl rfl rfl (sem_ptrNilT p1 (.inl rfl) true rfl rfl TF.ptr_61 hb28 rfl ?_)
  refine Run.go rfl rfl rfl (sem_assign ((Value.bool true)) rfl ?_)
  refine Run.region_end ?_
  refine Run.condT rfl ?_
  refine Run.seq ?_
  refine Run.ops0 (idx := [0]) rfl ?_
  refine Run.go rfl rfl rfl (sem_assign ((Value.int .i64 (2))) rfl ?_)
  refine Run.region_end ?_
  refine Run.ret ⟨.inr rfl, ?_⟩
  exact hS.imp fun h' hq => ⟨(2), rfl, hq⟩
 ·have hS := hF hb28; clear hT hF
  refine Run.go rfl rfl rfl (sem_ptrNilF p1 (.inl rfl) false rfl rfl TF.ptr_61 hb28 rfl ?_)
  refine Run.go rfl rfl rfl (sem_assign ((Value.bool false)) rfl ?_)
  refine Run.region_end ?_
  refine Run.condF rfl ?_
  refine Run.seq ?_
  refine Run.ops0 (idx := [0, 1, 2, 3]) rfl ?_
  refine Run.go rfl rfl rfl (sem_move ((Value.int .i64 (i2))) rfl ?_)
  refine Run.go rfl rfl rfl (sem_callL [(Value.int .i64 (i2))] (TF.goes_93) rfl rfl (Spec.mono hS fun v h29 hv => ?_))
  obtain ⟨b30, rfl, hS⟩ := hv
  obtain ⟨hT, hF⟩ := hS
  cases b30
  ·have hS := hF rfl; clear hT hF
   refine Run.go rfl rfl rfl (sem_not false rfl ?_)
   refine Run.go rfl rfl rfl (sem_assign ((Value.bool true)) rfl ?_)
   refine Run.region_end ?_
   refine Run.condT rfl ?_
   refine Run.seq ?_
   refine Run.ops0 (idx := [0]) rfl ?_
   refine Run.go rfl rfl rfl (sem_assign ((Value.int .i64 (1))) rfl ?_)
   refine Run.region_end ?_
   refine Run.ret ⟨.inr rfl, ?_⟩
   exact hS.imp fun h' hq => ⟨(1), rfl, hq⟩
  ·have hS := hT rfl; clear hT hF
   refine Run.go rfl rfl rfl (sem_not true rfl ?_)
   refine Run.go rfl rfl rfl (sem_assign ((Value.bool false)) rfl ?_)
   refine Run.region_end ?_
   refine Run.condF rfl ?_
   refine Run.seq ?_
   refine Run.ops0 (idx := [0, 1, 2, 3, 4, 5, 6, 7, 8, 9, 10, 11, 12]) rfl ?_
   refine Run.go rfl rfl rfl (sem_move ((Value.string s3)) rfl ?_)
   refine Run.go rfl rfl rfl (sem_lenStr s3 rfl TF.isStr_9 ?_)
   refine Run.go rfl rfl rfl (sem_move ((Value.pointer p1)) rfl ?_)
   refine Run.go rfl rfl rfl (sem_move ((Value.int .i64 (i2))) rfl ?_)
   obtain ⟨A31, e32, hS⟩ := hS
   refine Run.go rfl rfl rfl (sem_nilCheck A31 (congrArg Value.pointer e32) ?_)
   refine Run.go rfl rfl rfl (sem_fieldAddr A31 0 rfl TF.fld_177_0 ?_)
   obtain ⟨hi0, hi1, hS⟩ := hS
   refine Run.go rfl rfl rfl (sem_indexAddrA A31 .i64 (i2) rfl rfl TF.arr_174 hi0 hi1 ?_)
   refine Run.go rfl rfl rfl (sem_fieldAddr (Addr.add A31 (Int.toNat (i2) * 2)) 0 rfl TF.fld_173_0 ?_)
   obtain ⟨s33, hl, hS⟩ := hS
   refine Run.go rfl rfl rfl (sem_load1 (Addr.add A31 (Int.toNat (i2) * 2)) ((Value.string s33)) rfl TF.agg_9 hl ?_)
   refine Run.go rfl rfl rfl (sem_lenStr s33 rfl TF.isStr_9 ?_)
   refine Run.go rfl rfl rfl (sem_binI .i64 (16384) ((ByteArray.size s33 : Nat)) ((Value.int .i64 (IntKind.wrap .i64 ((16384) - ((ByteArray.size s33 : Nat)))))) rfl rfl rfl ?_)
   obtain ⟨hT, hF⟩ := hS
   by_cases hb34 : ((ByteArray.size s3 : Nat) : Int) > (IntKind.wrap .i64 ((16384) - ((ByteArray.size s33 : Nat))))
   ·have hS := hT hb34; clear hT hF
    refine Run.go rfl rfl rfl (sem_binI .i64 ((ByteArray.size s3 : Nat)) (IntKind.wrap .i64 ((16384) - ((ByteArray.size s33 : Nat)))) (.bool true) rfl rfl (binI_gtr_t hb34) ?_)
    refine Run.go rfl rfl rfl (sem_assign ((Value.bool true)) rfl ?_)
    refine Run.region_end ?_
    refine Run.condT rfl ?_
    refine Run.seq ?_
    refine Run.ops0 (idx := [0]) rfl ?_
    refine Run.go rfl rfl rfl (sem_assign ((Value.int .i64 (6))) rfl ?_)
    refine Run.region_end ?_
    refine Run.ret ⟨.inr rfl, ?_⟩
    exact hS.imp fun h' hq => ⟨(6), rfl, hq⟩
   ·have hS := hF hb34; clear hT hF
    refine Run.go rfl rfl rfl (sem_binI .i64 ((ByteArray.size s3 : Nat)) (IntKind.wrap .i64 ((16384) - ((ByteArray.size s33 : Nat)))) (.bool false) rfl rfl (binI_gtr_f hb34) ?_)
    refine Run.go rfl rfl rfl (sem_assign ((Value.bool false)) rfl ?_)
    refine Run.region_end ?_
    refine Run.condF rfl ?_
    refine Run.skip ?_
    refine Run.inBlock ?_
    exact Run.of_fin (hS.imp fun h' hS => j5 _ _ ⟨⟨rfl, rfl, rfl, trivial⟩, hS⟩)
set_option maxHeartbeats 4000000 in
theorem C_disk_Disk_Sync.of {B : RO} {p1 : Option Addr} {h : Heap} {Q : Heap → Prop} (hS : S_disk_Disk_Sync B p1 h Q) : C_disk_Disk_Sync B p1 h Q := by
 unfold S_disk_Disk_Sync at hS
 unfold C_disk_Disk_Sync
 refine Spec.of_run Try.func43 (N := 22) (rs := []) rfl rfl rfl (Nat.le_of_ble_eq_true rfl) ?_
 refine Run.seq ?_
 refine Run.seq ?_
 refine Run.ops0 (idx := [0, 1]) rfl ?_
 refine Run.go rfl rfl rfl (sem_move ((Value.pointer p1)) rfl ?_)
 obtain ⟨hT, hF⟩ := hS
 by_cases hb2 : p1 = none
 ·have hS := hT hb2; clear hT hF
  refine Run.go rfl rfl rfl (sem_ptrNilT p1 (.inl rfl) true rfl rfl TF.ptr_61 hb2 rfl ?_)
  refine Run.region_end ?_
  refine Run.condT rfl ?_
  refine Run.ret ⟨.inr rfl, ?_⟩
  exact hS.imp fun h' hq => ⟨rfl, hq⟩
 ·have hS := hF hb2; clear hT hF
  refine Run.go rfl rfl rfl (sem_ptrNilF p1 (.inl rfl) false rfl rfl TF.ptr_61 hb2 rfl ?_)
  refine Run.region_end ?_
  refine Run.condF rfl ?_
  refine Run.skip ?_
  refine Run.seq ?_
  refine Run.seq ?_
  refine Run.ops0 (idx := [0, 1, 2, 3, 4, 5]) rfl ?_
  refine Run.go rfl rfl rfl (sem_move ((Value.pointer p1)) rfl ?_)
  obtain ⟨A3, e4, hS⟩ := hS
  refine Run.go rfl rfl rfl (sem_nilCheck A3 (congrArg Value.pointer e4) ?_)
  refine Run.go rfl rfl rfl (sem_fieldAddr A3 4 rfl TF.fld_177_1 ?_)
  refine Run.ldSl hS fun a5 n6 c7 h8 hl hS => ?_
  refine Run.go rfl rfl rfl (sem_load1 (Addr.add A3 4) ((Value.slice a5 n6 c7)) rfl TF.agg_175 hl ?_)
  refine Run.go rfl rfl rfl (sem_lenSl a5 n6 c7 rfl TF.sl_175 ?_)
  refine Run.go rfl rfl rfl (sem_move ((Value.int .i64 (0))) rfl ?_)
  refine Run.region_end ?_
  refine Run.block ?_
  obtain ⟨J14, m12, h0, hS⟩ := hS
  refine Run.of_fin (h0.imp fun h' h0 => ?_)
  refine Run.loop (σ := Int × Nat) (fun x e h => J14 x.1 x.2 h ∧ Agree [(0, (Value.pointer p1)), (9, (Value.slice a5 n6 c7)), (10, (Value.int .i64 ((n6 : Nat)))), (11, (Value.int .i64 (x.1)))] e) (fun x => x.2) ((0), m12) ⟨h0, ⟨rfl, rfl, rfl, rfl, trivial⟩⟩ ?_; clear h0
  rintro ⟨i9, m11⟩ e h10 ⟨hJ, hag⟩ ih13
  have hS := hS i9 m11 h10 hJ; clear hJ
  refine Run.env hag ?_; clear hag
  refine Run.seq ?_
  refine Run.ops0 (idx := [0]) rfl ?_
  obtain ⟨hT, hF⟩ := hS
  by_cases hb15 : (i9 : Int) < ((n6 : Nat))
  ·have hS := hT hb15; clear hT hF
   refine Run.go rfl rfl rfl (sem_binI .i64 (i9) ((n6 : Nat)) (.bool true) rfl rfl (binI_lss_t hb15) ?_)
   refine Run.region_end ?_
   refine Run.seq ?_
   refine Run.condT rfl ?_
   refine Run.skip ?_
   refine Run.seq ?_
   refine Run.block ?_
   refine Run.seq ?_
   refine Run.ops0 (idx := [0, 1, 2, 3]) rfl ?_
   obtain ⟨A16, e17, hi0, hi1, hS⟩ := hS
   refine Run.go rfl rfl rfl (sem_indexAddrS A16 n6 c7 .i64 (i9) (congrArg (fun a => Value.slice a n6 c7) e17) rfl TF.slc_175 hi0 hi1 ?_)
   obtain ⟨i18, b19, s20, hl, hS⟩ := hS
   refine Run.go rfl rfl rfl (sem_loadN (Addr.add A16 (Int.toNat (i9) * 3)) [(Value.int .i64 (i18)), (Value.bool b19), (Value.string s20)] rfl TF.agg_181 TF.sz_181 hl ?_)
   refine Run.go rfl rfl rfl (sem_allocN [(Value.int .i64 (0)), (Value.bool false), (Value.string ByteArray.empty)] TF.zero_181 (fun k21 hb1 hb2 h22 hb3 => ?_))
   have hS := hS k21 hb1 hb2 h22 hb3
   obtain ⟨h23, hst, hS⟩ := hS
   refine Run.go rfl rfl rfl (sem_storeN ⟨k21, 0, none⟩ [(Value.int .i64 (i18)), (Value.bool b19), (Value.string s20)] h23 rfl rfl TF.sz_181 hst ?_)
   refine Run.region_end ?_
   refine Run.ops0 (idx := [0, 1, 2]) rfl ?_
   refine Run.go rfl rfl rfl (sem_move ((Value.pointer p1)) rfl ?_)
   obtain ⟨i24, b25, s26, hl, hS⟩ := hS
   refine Run.go rfl rfl rfl (sem_loadN ⟨k21, 0, none⟩ [(Value.int .i64 (i24)), (Value.bool b25), (Value.string s26)] rfl TF.agg_181 TF.sz_181 hl ?_)
   refine Run.go rfl rfl rfl (sem_callL [(Value.pointer p1), (Value.agg #[(Value.int .i64 (i24)), (Value.bool b25), (Value.string s26)])] (TF.goes_94) rfl rfl (Spec.mono hS fun v h27 hv => ?_))
   obtain ⟨rfl, hS⟩ := hv
   refine Run.region_end ?_
   refine Run.inBlock ?_
   refine Run.ops0 (idx := [0, 1]) rfl ?_
   refine Run.go rfl rfl rfl (sem_binI .i64 (i9) (1) ((Value.int .i64 (IntKind.wrap .i64 ((i9) + (1))))) rfl rfl rfl ?_)
   refine Run.go rfl rfl rfl (sem_move ((Value.int .i64 (IntKind.wrap .i64 ((i9) + (1))))) rfl ?_)
   refine Run.region_end ?_
   exact Run.of_fin (hS.imp fun h' ⟨m', hm, hS⟩ => ih13 ((IntKind.wrap .i64 ((i9) + (1))), m') _ _ ⟨hS, ⟨rfl, rfl, rfl, rfl, trivial⟩⟩ hm)
  ·have hS := hF hb15; clear hT hF
   refine Run.go rfl rfl rfl (sem_binI .i64 (i9) ((n6 : Nat)) (.bool false) rfl rfl (binI_lss_f hb15) ?_)
   refine Run.region_end ?_
   refine Run.seq ?_
   refine Run.condF rfl ?_
   refine Run.exit rfl ?_
   refine Run.ops0 (idx := [0, 1, 2, 3]) rfl ?_
   refine Run.go rfl rfl rfl (sem_move ((Value.pointer p1)) rfl ?_)
   obtain ⟨A28, e29, hS⟩ := hS
   refine Run.go rfl rfl rfl (sem_nilCheck A28 (congrArg Value.pointer e29) ?_)
   refine Run.go rfl rfl rfl (sem_fieldAddr A28 4 rfl TF.fld_177_1 ?_)
   obtain ⟨h30, hst, hS⟩ := hS
   refine Run.go rfl rfl rfl (sem_store1 (Addr.add A28 4) ((Value.slice none 0 0)) h30 rfl rfl rfl TF.sz_175 hst ?_)
   refine Run.region_end ?_
   refine Run.fall ⟨.inl rfl, ?_⟩
   exact hS.imp fun h' hq => ⟨rfl, hq⟩
set_option maxHeartbeats 4000000 in
theorem C_wal_Log_Force.of {B : RO} {p1 : Option Addr} {h : Heap} {Q : Heap → Prop} (hS : S_wal_Log_Force B p1 h Q) : C_wal_Log_Force B p1 h Q := by
 unfold S_wal_Log_Force at hS
 unfold C_wal_Log_Force
 refine Spec.of_run Try.func44 (N := 9) (rs := []) rfl rfl rfl (Nat.le_of_ble_eq_true rfl) ?_
 refine Run.seq ?_
 refine Run.ops0 (idx := [0, 1]) rfl ?_
 refine Run.go rfl rfl rfl (sem_move ((Value.pointer p1)) rfl ?_)
 obtain ⟨hT, hF⟩ := hS
 by_cases hb2 : p1 = none
 ·have hS := hT hb2; clear hT hF
  refine Run.go rfl rfl rfl (sem_ptrNilT p1 (.inr rfl) false rfl rfl TF.ptr_57 hb2 rfl ?_)
  refine Run.region_end ?_
  refine Run.condF rfl ?_
  refine Run.skip ?_
  refine Run.fall ⟨.inl rfl, ?_⟩
  exact hS.imp fun h' hq => ⟨rfl, hq⟩
 ·have hS := hF hb2; clear hT hF
  refine Run.go rfl rfl rfl (sem_ptrNilF p1 (.inr rfl) true rfl rfl TF.ptr_57 hb2 rfl ?_)
  refine Run.region_end ?_
  refine Run.condT rfl ?_
  refine Run.ops0 (idx := [0, 1, 2, 3, 4]) rfl ?_
  refine Run.go rfl rfl rfl (sem_move ((Value.pointer p1)) rfl ?_)
  obtain ⟨A3, e4, hS⟩ := hS
  refine Run.go rfl rfl rfl (sem_nilCheck A3 (congrArg Value.pointer e4) ?_)
  refine Run.go rfl rfl rfl (sem_fieldAddr A3 0 rfl TF.fld_171_0 ?_)
  obtain ⟨p5, hl, hS⟩ := hS
  refine Run.go rfl rfl rfl (sem_load1 A3 ((Value.pointer p5)) rfl TF.agg_61 hl ?_)
  refine Run.go rfl rfl rfl (sem_callL [(Value.pointer p5)] (TF.goes_43) rfl rfl (Spec.mono hS fun v h6 hv => ?_))
  obtain ⟨rfl, hS⟩ := hv
  refine Run.region_end ?_
  refine Run.fall ⟨.inl rfl, ?_⟩
  exact hS.imp fun h' hq => ⟨rfl, hq⟩
set_option maxHeartbeats 4000000 in
theorem C_wal_Log_Clear.of {B : RO} {p1 : Option Addr} {h : Heap} {Q : Heap → Prop} (hS : S_wal_Log_Clear B p1 h Q) : C_wal_Log_Clear B p1 h Q := by
 unfold S_wal_Log_Clear at hS
 unfold C_wal_Log_Clear
 refine Spec.of_run Try.func45 (N := 19) (rs := []) rfl rfl rfl (Nat.le_of_ble_eq_true rfl) ?_
 refine Run.seq ?_
 refine Run.ops0 (idx := [0, 1]) rfl ?_
 refine Run.go rfl rfl rfl (sem_move ((Value.pointer p1)) rfl ?_)
 obtain ⟨hT, hF⟩ := hS
 by_cases hb2 : p1 = none
 ·have hS := hT hb2; clear hT hF
  refine Run.go rfl rfl rfl (sem_ptrNilT p1 (.inr rfl) false rfl rfl TF.ptr_57 hb2 rfl ?_)
  refine Run.region_end ?_
  refine Run.condF rfl ?_
  refine Run.skip ?_
  refine Run.fall ⟨.inl rfl, ?_⟩
  exact hS.imp fun h' hq => ⟨rfl, hq⟩
 ·have hS := hF hb2; clear hT hF
  refine Run.go rfl rfl rfl (sem_ptrNilF p1 (.inr rfl) true rfl rfl TF.ptr_57 hb2 rfl ?_)
  refine Run.region_end ?_
  refine Run.condT rfl ?_
  refine Run.seq ?_
  refine Run.drawM (fun h' => h' = h) [8] ⟨[0, 1, 2, 4, 0, 16, 32, 64, 136], [511, 510, 509, 507, 511, 495, 479, 447, 375], [0, 1, 3, 7, 0, 16, 48, 112, 255], 256⟩ (.q 0 (.q 1 (.q 2 (.q 3 (.q 4 (.q 5 (.q 6 (.q 7 (.x 8 .nil .no))))))))) TF.mixed (by kernel_rfl) rfl ?_
  refine RunT.quiet rfl rfl rfl (quiet_eq (sem_move ((Value.pointer p1)) rfl ⟨rfl, rfl⟩)) ?_
  obtain ⟨A3, e4, hS⟩ := hS
  refine RunT.quiet rfl rfl rfl (quiet_eq (sem_nilCheck A3 (congrArg Value.pointer e4) ⟨rfl, rfl⟩)) ?_
  refine RunT.quiet rfl rfl rfl (quiet_eq (sem_fieldAddr A3 0 rfl TF.fld_171_0 ⟨rfl, rfl⟩)) ?_
  obtain ⟨p5, hl, hS⟩ := hS
  refine RunT.quiet rfl rfl rfl (quiet_eq (sem_load1 A3 ((Value.pointer p5)) rfl TF.agg_61 hl ⟨rfl, rfl⟩)) ?_
  refine RunT.quiet rfl rfl rfl (quiet_eq (sem_move ((Value.pointer p1)) rfl ⟨rfl, rfl⟩)) ?_
  obtain ⟨A6, e7, hS⟩ := hS
  refine RunT.quiet rfl rfl rfl (quiet_eq (sem_nilCheck A6 (congrArg Value.pointer e7) ⟨rfl, rfl⟩)) ?_
  refine RunT.quiet rfl rfl rfl (quiet_eq (sem_fieldAddr A6 1 rfl TF.fld_171_1 ⟨rfl, rfl⟩)) ?_
  obtain ⟨i8, hl, hS⟩ := hS
  refine RunT.quiet rfl rfl rfl (quiet_eq (sem_load1 (Addr.add A6 1) ((Value.int .i64 (i8))) rfl TF.agg_3 hl ⟨rfl, rfl⟩)) ?_
  refine ⟨?_, trivial⟩
  refine OpH.go rfl rfl rfl (sem_callL [(Value.pointer p5), (Value.int .i64 (i8))] (TF.goes_95) rfl rfl (Spec.mono hS fun v h9 hv => ?_))
  obtain ⟨i10, rfl, hS⟩ := hv
  refine ⟨fun hz => Bool.noConfusion hz, ?_⟩
  refine Run.ops0 (idx := [0, 1, 2, 3, 4, 5, 6, 7]) rfl ?_
  refine Run.go rfl rfl rfl (sem_move ((Value.pointer p1)) rfl ?_)
  refine Run.go rfl rfl rfl (sem_move ((Value.pointer p1)) rfl ?_)
  obtain ⟨A11, e12, hS⟩ := hS
  refine Run.go rfl rfl rfl (sem_nilCheck A11 (congrArg Value.pointer e12) ?_)
  refine Run.go rfl rfl rfl (sem_fieldAddr A11 2 rfl TF.fld_171_2 ?_)
  obtain ⟨h13, hst, hS⟩ := hS
  refine Run.go rfl rfl rfl (sem_store1 (Addr.add A11 2) ((Value.int .i64 (0))) h13 rfl rfl rfl TF.sz_3 hst ?_)
  obtain ⟨A14, e15, hS⟩ := hS
  refine Run.go rfl rfl rfl (sem_nilCheck A14 (congrArg Value.pointer e15) ?_)
  refine Run.go rfl rfl rfl (sem_fieldAddr A14 3 rfl TF.fld_171_3 ?_)
  obtain ⟨h16, hst, hS⟩ := hS
  refine Run.go rfl rfl rfl (sem_store1 (Addr.add A14 3) ((Value.bool false)) h16 rfl rfl rfl TF.sz_4 hst ?_)
  refine Run.region_end ?_
  refine Run.fall ⟨.inl rfl, ?_⟩
  exact hS.imp fun h' hq => ⟨rfl, hq⟩
set_option maxHeartbeats 4000000 in
theorem C_disk_Disk_Crash.of {B : RO} {p1 : Option Addr} {i2 : Int} {i3 : Int} {h : Heap} {Q : Heap → Prop} (hS : S_disk_Disk_Crash B p1 i2 i3 h Q) : C_disk_Disk_Crash B p1 i2 i3 h Q := by
 unfold S_disk_Disk_Crash at hS
 unfold C_disk_Disk_Crash
 refine Spec.of_run Try.func46 (N := 64) (rs := []) rfl rfl rfl (Nat.le_of_ble_eq_true rfl) ?_
 refine Run.seq ?_
 refine Run.seq ?_
 refine Run.ops0 (idx := [0, 1]) rfl ?_
 refine Run.go rfl rfl rfl (sem_move ((Value.pointer p1)) rfl ?_)
 obtain ⟨hT, hF⟩ := hS
 by_cases hb4 : p1 = none
 ·have hS := hT hb4; clear hT hF
  refine Run.go rfl rfl rfl (sem_ptrNilT p1 (.inl rfl) true rfl rfl TF.ptr_61 hb4 rfl ?_)
  refine Run.region_end ?_
  refine Run.condT rfl ?_
  refine Run.ret ⟨.inr rfl, ?_⟩
  exact hS.imp fun h' hq => ⟨rfl, hq⟩
 ·have hS := hF hb4; clear hT hF
  refine Run.go rfl rfl rfl (sem_ptrNilF p1 (.inl rfl) false rfl rfl TF.ptr_61 hb4 rfl ?_)
  refine Run.region_end ?_
  refine Run.condF rfl ?_
  refine Run.skip ?_
  refine Run.seqJ (fun e h6 => Agree [(0, (Value.pointer p1))] e ∧ S_disk_Disk_Crash_J1 B p1 h6 Q) ?_ fun j5 => ?_
  ·rintro e h6 ⟨hag, hS⟩
   refine Run.env hag ?_; clear hag
   refine Run.seq ?_
   refine Run.ops0 (idx := [0, 1, 2, 3]) rfl ?_
   refine Run.go rfl rfl rfl (sem_move ((Value.pointer p1)) rfl ?_)
   obtain ⟨A7, e8, hS⟩ := hS
   refine Run.go rfl rfl rfl (sem_nilCheck A7 (congrArg Value.pointer e8) ?_)
   refine Run.go rfl rfl rfl (sem_fieldAddr A7 4 rfl TF.fld_177_1 ?_)
   obtain ⟨h9, hst, hS⟩ := hS
   refine Run.go rfl rfl rfl (sem_store1 (Addr.add A7 4) ((Value.slice none 0 0)) h9 rfl rfl rfl TF.sz_175 hst ?_)
   refine Run.region_end ?_
   refine Run.seq ?_
   refine Run.ops0 (idx := [0]) rfl ?_
   refine Run.go rfl rfl rfl (sem_move ((Value.int .i64 (0))) rfl ?_)
   refine Run.region_end ?_
   refine Run.block ?_
   obtain ⟨J15, m13, h0, hS⟩ := hS
   refine Run.of_fin (h0.imp fun h' h0 => ?_)
   refine Run.loop (σ := Int × Nat) (fun x e h => J15 x.1 x.2 h ∧ Agree [(0, (Value.pointer p1)), (47, (Value.int .i64 (x.1)))] e) (fun x => x.2) ((0), m13) ⟨h0, ⟨rfl, rfl, trivial⟩⟩ ?_; clear h0
   rintro ⟨i10, m12⟩ e h11 ⟨hJ, hag⟩ ih14
   have hS := hS i10 m12 h11 hJ; clear hJ
   refine Run.env hag ?_; clear hag
   refine Run.seq ?_
   refine Run.ops0 (idx := [0]) rfl ?_
   obtain ⟨hT, hF⟩ := hS
   by_cases hb16 : (i10 : Int) < (2)
   ·have hS := hT hb16; clear hT hF
    refine Run.go rfl rfl rfl (sem_binI .i64 (i10) (2) (.bool true) rfl rfl (binI_lss_t hb16) ?_)
    refine Run.region_end ?_
    refine Run.seq ?_
    refine Run.condT rfl ?_
    refine Run.skip ?_
    refine Run.seq ?_
    refine Run.block ?_
    refine Run.seq ?_
    refine Run.ops0 (idx := [0, 1]) rfl ?_
    refine Run.go rfl rfl rfl (sem_move ((Value.int .i64 (i10))) rfl ?_)
    refine Run.go rfl rfl rfl (sem_assign ((Value.int .i64 (i10))) rfl ?_)
    refine Run.region_end ?_
    refine Run.drawM (fun h' => h' = h11) [13] ⟨[0, 0, 0, 0, 4, 16, 40, 64, 128, 1, 512, 1535, 2559, 4607], [16383, 16383, 16383, 16383, 16379, 16367, 16343, 16319, 16255, 16382, 15871, 15357, 14335, 12031], [0, 0, 0, 0, 4, 20, 60, 124, 252, 1, 513, 2047, 4095, 8191], 8192⟩ (.q 0 (.q 1 (.q 2 (.q 3 (.q 4 (.q 5 (.q 6 (.q 7 (.q 8 (.q 9 (.q 10 (.q 11 (.q 12 (.x 13 .nil .no)))))))))))))) TF.mixed (by kernel_rfl) rfl ?_
    refine RunT.quiet rfl rfl rfl (quiet_eq (sem_move ((Value.pointer p1)) rfl ⟨rfl, rfl⟩)) ?_
    refine RunT.quiet rfl rfl rfl (quiet_eq (sem_move ((Value.int .i64 (i10))) rfl ⟨rfl, rfl⟩)) ?_
    refine RunT.quiet rfl rfl rfl (quiet_eq (sem_move ((Value.pointer p1)) rfl ⟨rfl, rfl⟩)) ?_
    refine RunT.quiet rfl rfl rfl (quiet_eq (sem_move ((Value.int .i64 (i10))) rfl ⟨rfl, rfl⟩)) ?_
    obtain ⟨A17, e18, hS⟩ := hS
    refine RunT.quiet rfl rfl rfl (quiet_eq (sem_nilCheck A17 (congrArg Value.pointer e18) ⟨rfl, rfl⟩)) ?_
    refine RunT.quiet rfl rfl rfl (quiet_eq (sem_fieldAddr A17 0 rfl TF.fld_177_0 ⟨rfl, rfl⟩)) ?_
    obtain ⟨hi0, hi1, hS⟩ := hS
    refine RunT.quiet rfl rfl rfl (quiet_eq (sem_indexAddrA A17 .i64 (i10) rfl rfl TF.arr_174 hi0 hi1 ⟨rfl, rfl⟩)) ?_
    refine RunT.quiet rfl rfl rfl (quiet_eq (sem_fieldAddr (Addr.add A17 (Int.toNat (i10) * 2)) 1 rfl TF.fld_173_1 ⟨rfl, rfl⟩)) ?_
    obtain ⟨s19, hl, hS⟩ := hS
    refine RunT.quiet rfl rfl rfl (quiet_eq (sem_load1 (Addr.add (Addr.add A17 (Int.toNat (i10) * 2)) 1) ((Value.string s19)) rfl TF.agg_9 hl ⟨rfl, rfl⟩)) ?_
    obtain ⟨A20, e21, hS⟩ := hS
    refine RunT.quiet rfl rfl rfl (quiet_eq (sem_nilCheck A20 (congrArg Value.pointer e21) ⟨rfl, rfl⟩)) ?_
    refine RunT.quiet rfl rfl rfl (quiet_eq (sem_fieldAddr A20 0 rfl TF.fld_177_0 ⟨rfl, rfl⟩)) ?_
    obtain ⟨hi0, hi1, hS⟩ := hS
    refine RunT.quiet rfl rfl rfl (quiet_eq (sem_indexAddrA A20 .i64 (i10) rfl rfl TF.arr_174 hi0 hi1 ⟨rfl, rfl⟩)) ?_
    refine RunT.quiet rfl rfl rfl (quiet_eq (sem_fieldAddr (Addr.add A20 (Int.toNat (i10) * 2)) 0 rfl TF.fld_173_0 ⟨rfl, rfl⟩)) ?_
    refine ⟨?_, trivial⟩
    obtain ⟨h22, hst, hS⟩ := hS
    refine OpH.go rfl rfl rfl (sem_store1 (Addr.add A20 (Int.toNat (i10) * 2)) ((Value.string s19)) h22 rfl rfl rfl TF.sz_9 hst ?_)
    refine ⟨fun hz => Bool.noConfusion hz, ?_⟩
    refine Run.inBlock ?_
    refine Run.ops0 (idx := [0, 1]) rfl ?_
    refine Run.go rfl rfl rfl (sem_binI .i64 (i10) (1) ((Value.int .i64 (IntKind.wrap .i64 ((i10) + (1))))) rfl rfl rfl ?_)
    refine Run.go rfl rfl rfl (sem_move ((Value.int .i64 (IntKind.wrap .i64 ((i10) + (1))))) rfl ?_)
    refine Run.region_end ?_
    exact Run.of_fin (hS.imp fun h' ⟨m', hm, hS⟩ => ih14 ((IntKind.wrap .i64 ((i10) + (1))), m') _ _ ⟨hS, ⟨rfl, rfl, trivial⟩⟩ hm)
   ·have hS := hF hb16; clear hT hF
    refine Run.go rfl rfl rfl (sem_binI .i64 (i10) (2) (.bool false) rfl rfl (binI_lss_f hb16) ?_)
    refine Run.region_end ?_
    refine Run.seq ?_
    refine Run.condF rfl ?_
    refine Run.exit rfl ?_
    refine Run.fall ⟨.inl rfl, ?_⟩
    exact hS.imp fun h' hq => ⟨rfl, hq⟩
  refine Run.seq ?_
  refine Run.ops0 (idx := [0, 1, 2, 3, 4, 5]) rfl ?_
  refine Run.go rfl rfl rfl (sem_move ((Value.pointer p1)) rfl ?_)
  obtain ⟨A23, e24, hS⟩ := hS
  refine Run.go rfl rfl rfl (sem_nilCheck A23 (congrArg Value.pointer e24) ?_)
  refine Run.go rfl rfl rfl (sem_fieldAddr A23 4 rfl TF.fld_177_1 ?_)
  refine Run.ldSl hS fun a25 n26 c27 h28 hl hS => ?_
  refine Run.go rfl rfl rfl (sem_load1 (Addr.add A23 4) ((Value.slice a25 n26 c27)) rfl TF.agg_175 hl ?_)
  refine Run.go rfl rfl rfl (sem_lenSl a25 n26 c27 rfl TF.sl_175 ?_)
  refine Run.go rfl rfl rfl (sem_move ((Value.int .i64 (0))) rfl ?_)
  refine Run.region_end ?_
  refine Run.block ?_
  obtain ⟨J34, m32, h0, hS⟩ := hS
  refine Run.of_fin (h0.imp fun h' h0 => ?_)
  refine Run.loop (σ := Int × Nat) (fun x e h => J34 x.1 x.2 h ∧ Agree [(0, (Value.pointer p1)), (1, (Value.int .i64 (i2))), (2, (Value.int .i64 (i3))), (14, (Value.slice a25 n26 c27)), (15, (Value.int .i64 ((n26 : Nat)))), (16, (Value.int .i64 (x.1)))] e) (fun x => x.2) ((0), m32) ⟨h0, ⟨rfl, rfl, rfl, rfl, rfl, rfl, trivial⟩⟩ ?_; clear h0
  rintro ⟨i29, m31⟩ e h30 ⟨hJ, hag⟩ ih33
  have hS := hS i29 m31 h30 hJ; clear hJ
  refine Run.env hag ?_; clear hag
  refine Run.seq ?_
  refine Run.ops0 (idx := [0]) rfl ?_
  obtain ⟨hT, hF⟩ := hS
  by_cases hb35 : (i29 : Int) < ((n26 : Nat))
  ·have hS := hT hb35; clear hT hF
   refine Run.go rfl rfl rfl (sem_binI .i64 (i29) ((n26 : Nat)) (.bool true) rfl rfl (binI_lss_t hb35) ?_)
   refine Run.region_end ?_
   refine Run.seq ?_
   refine Run.condT rfl ?_
   refine Run.skip ?_
   refine Run.seq ?_
   refine Run.block ?_
   refine Run.seq ?_
   refine Run.ops0 (idx := [0, 1, 2, 3, 4, 5]) rfl ?_
   refine Run.go rfl rfl rfl (sem_move ((Value.int .i64 (i29))) rfl ?_)
   obtain ⟨A36, e37, hi0, hi1, hS⟩ := hS
   refine Run.go rfl rfl rfl (sem_indexAddrS A36 n26 c27 .i64 (i29) (congrArg (fun a => Value.slice a n26 c27) e37) rfl TF.slc_175 hi0 hi1 ?_)
   obtain ⟨i38, b39, s40, hl, hS⟩ := hS
   refine Run.go rfl rfl rfl (sem_loadN (Addr.add A36 (Int.toNat (i29) * 3)) [(Value.int .i64 (i38)), (Value.bool b39), (Value.string s40)] rfl TF.agg_181 TF.sz_181 hl ?_)
   refine Run.go rfl rfl rfl (sem_allocN [(Value.int .i64 (0)), (Value.bool false), (Value.string ByteArray.empty)] TF.zero_181 (fun k41 hb1 hb2 h42 hb3 => ?_))
   have hS := hS k41 hb1 hb2 h42 hb3
   refine Run.go rfl rfl rfl (sem_assign ((Value.int .i64 (i29))) rfl ?_)
   obtain ⟨h43, hst, hS⟩ := hS
   refine Run.go rfl rfl rfl (sem_storeN ⟨k41, 0, none⟩ [(Value.int .i64 (i38)), (Value.bool b39), (Value.string s40)] h43 rfl rfl TF.sz_181 hst ?_)
   refine Run.region_end ?_
   refine Run.seq ?_
   refine Run.seq ?_
   refine Run.ops0 (idx := [0, 1, 2]) rfl ?_
   refine Run.go rfl rfl rfl (sem_move ((Value.int .i64 (i29))) rfl ?_)
   refine Run.go rfl rfl rfl (sem_move ((Value.int .i64 (i2))) rfl ?_)
   obtain ⟨hT, hF⟩ := hS
   by_cases hb44 : (i29 : Int) ≥ (i2)
   ·have hS := hT hb44; clear hT hF
    refine Run.go rfl rfl rfl (sem_binI .i64 (i29) (i2) (.bool true) rfl rfl (binI_geq_t hb44) ?_)
    refine Run.region_end ?_
    refine Run.condT rfl ?_
    refine Run.seq ?_
    refine Run.seq ?_
    refine Run.ops0 (idx := [0, 1, 2]) rfl ?_
    refine Run.go rfl rfl rfl (sem_fieldAddr ⟨k41, 0, none⟩ 1 rfl TF.fld_181_1 ?_)
    obtain ⟨b45, hl, hS⟩ := hS
    obtain ⟨hT, hF⟩ := hS
    cases b45
    ·have hS := hF rfl; clear hT hF
     refine Run.go rfl rfl rfl (sem_load1 ⟨k41, 1, none⟩ (.bool false) rfl TF.agg_4 hl ?_)
     refine Run.go rfl rfl rfl (sem_not false rfl ?_)
     refine Run.region_end ?_
     refine Run.condT rfl ?_
     refine Run.seq ?_
     refine Run.ops0 (idx := [0, 1, 2, 3, 4, 5, 6, 7, 8, 9, 10]) rfl ?_
     refine Run.go rfl rfl rfl (sem_fieldAddr ⟨k41, 0, none⟩ 2 rfl TF.fld_181_2 ?_)
     obtain ⟨s46, hl, hS⟩ := hS
     refine Run.go rfl rfl rfl (sem_load1 ⟨k41, 2, none⟩ ((Value.string s46)) rfl TF.agg_9 hl ?_)
     refine Run.go rfl rfl rfl (sem_move ((Value.int .i64 (i3))) rfl ?_)
     refine Run.go rfl rfl rfl (sem_max .i64 (i3) (0) rfl rfl ?_)
     refine Run.go rfl rfl rfl (sem_fieldAddr ⟨k41, 0, none⟩ 2 rfl TF.fld_181_2 ?_)
     obtain ⟨s47, hl, hS⟩ := hS
     refine Run.go rfl rfl rfl (sem_load1 ⟨k41, 2, none⟩ ((Value.string s47)) rfl TF.agg_9 hl ?_)
     refine Run.go rfl rfl rfl (sem_lenStr s47 rfl TF.isStr_9 ?_)
     refine Run.go rfl rfl rfl (sem_min .i64 (if (0 : Int) > (i3) then (0 : Int) else (i3)) ((ByteArray.size s47 : Nat)) rfl rfl ?_)
     obtain ⟨hi0, hi1, hi2, hS⟩ := hS
     refine Run.go rfl rfl rfl (sem_sliceStrI s46 (0) (if ((ByteArray.size s47 : Nat) : Int) < (if (0 : Int) > (i3) then (0 : Int) else (i3)) then ((ByteArray.size s47 : Nat) : Int) else (if (0 : Int) > (i3) then (0 : Int) else (i3))) rfl TF.isStr_9 rfl ⟨_, rfl⟩ hi0 hi1 hi2 ?_)
     refine Run.go rfl rfl rfl (sem_fieldAddr ⟨k41, 0, none⟩ 2 rfl TF.fld_181_2 ?_)
     obtain ⟨h48, hst, hS⟩ := hS
     refine Run.go rfl rfl rfl (sem_store1 ⟨k41, 2, none⟩ ((Value.string (ByteArray.extract s46 (Int.toNat (0)) (Int.toNat (if ((ByteArray.size s47 : Nat) : Int) < (if (0 : Int) > (i3) then (0 : Int) else (i3)) then ((ByteArray.size s47 : Nat) : Int) else (if (0 : Int) > (i3) then (0 : Int) else (i3))))))) h48 rfl rfl rfl TF.sz_9 hst ?_)
     refine Run.region_end ?_
     refine Run.ops0 (idx := [0, 1, 2]) rfl ?_
     refine Run.go rfl rfl rfl (sem_move ((Value.pointer p1)) rfl ?_)
     obtain ⟨i49, b50, s51, hl, hS⟩ := hS
     refine Run.go rfl rfl rfl (sem_loadN ⟨k41, 0, none⟩ [(Value.int .i64 (i49)), (Value.bool b50), (Value.string s51)] rfl TF.agg_181 TF.sz_181 hl ?_)
     refine Run.go rfl rfl rfl (sem_callL [(Value.pointer p1), (Value.agg #[(Value.int .i64 (i49)), (Value.bool b50), (Value.string s51)])] (TF.goes_94) rfl rfl (Spec.mono hS fun v h52 hv => ?_))
     obtain ⟨rfl, hS⟩ := hv
     refine Run.region_end ?_
     refine Run.exit rfl ?_
     exact Run.of_fin (hS.imp fun h' hS => j5 _ _ ⟨⟨rfl, trivial⟩, hS⟩)
    ·have hS := hT rfl; clear hT hF
     refine Run.go rfl rfl rfl (sem_load1 ⟨k41, 1, none⟩ (.bool true) rfl TF.agg_4 hl ?_)
     refine Run.go rfl rfl rfl (sem_not true rfl ?_)
     refine Run.region_end ?_
     refine Run.condF rfl ?_
     refine Run.skip ?_
     refine Run.exit rfl ?_
     exact Run.of_fin (hS.imp fun h' hS => j5 _ _ ⟨⟨rfl, trivial⟩, hS⟩)
   ·have hS := hF hb44; clear hT hF
    refine Run.go rfl rfl rfl (sem_binI .i64 (i29) (i2) (.bool false) rfl rfl (binI_geq_f hb44) ?_)
    refine Run.region_end ?_
    refine Run.condF rfl ?_
    refine Run.skip ?_
    refine Run.ops0 (idx := [0, 1, 2]) rfl ?_
    refine Run.go rfl rfl rfl (sem_move ((Value.pointer p1)) rfl ?_)
    obtain ⟨i53, b54, s55, hl, hS⟩ := hS
    refine Run.go rfl rfl rfl (sem_loadN ⟨k41, 0, none⟩ [(Value.int .i64 (i53)), (Value.bool b54), (Value.string s55)] rfl TF.agg_181 TF.sz_181 hl ?_)
    refine Run.go rfl rfl rfl (sem_callL [(Value.pointer p1), (Value.agg #[(Value.int .i64 (i53)), (Value.bool b54), (Value.string s55)])] (TF.goes_94) rfl rfl (Spec.mono hS fun v h56 hv => ?_))
    obtain ⟨rfl, hS⟩ := hv
    refine Run.region_end ?_
    refine Run.inBlock ?_
    refine Run.ops0 (idx := [0, 1]) rfl ?_
    refine Run.go rfl rfl rfl (sem_binI .i64 (i29) (1) ((Value.int .i64 (IntKind.wrap .i64 ((i29) + (1))))) rfl rfl rfl ?_)
    refine Run.go rfl rfl rfl (sem_move ((Value.int .i64 (IntKind.wrap .i64 ((i29) + (1))))) rfl ?_)
    refine Run.region_end ?_
    exact Run.of_fin (hS.imp fun h' ⟨m', hm, hS⟩ => ih33 ((IntKind.wrap .i64 ((i29) + (1))), m') _ _ ⟨hS, ⟨rfl, rfl, rfl, rfl, rfl, rfl, trivial⟩⟩ hm)
  ·have hS := hF hb35; clear hT hF
   refine Run.go rfl rfl rfl (sem_binI .i64 (i29) ((n26 : Nat)) (.bool false) rfl rfl (binI_lss_f hb35) ?_)
   refine Run.region_end ?_
   refine Run.seq ?_
   refine Run.condF rfl ?_
   refine Run.exit rfl ?_
   exact Run.of_fin (hS.imp fun h' hS => j5 _ _ ⟨⟨rfl, trivial⟩, hS⟩)
set_option maxHeartbeats 4000000 in
theorem C_disk_Disk_Read.of {B : RO} {p1 : Option Addr} {i2 : Int} {h : Heap} {Q : ByteArray → Heap → Prop} (hS : S_disk_Disk_Read B p1 i2 h Q) : C_disk_Disk_Read B p1 i2 h Q := by
 unfold S_disk_Disk_Read at hS
 unfold C_disk_Disk_Read
 refine Spec.of_run Try.func47 (N := 19) (rs := [ResultVar.tmp 4]) rfl rfl rfl (Nat.le_of_ble_eq_true rfl) ?_
 refine Run.seq ?_
 refine Run.ops0 (idx := [0]) rfl ?_
 refine Run.go rfl rfl rfl (sem_assign ((Value.string (ByteArray.mk #[]))) rfl ?_)
 refine Run.region_end ?_
 refine Run.seqJ (fun e h5 => Agree [(0, (Value.pointer p1)), (1, (Value.int .i64 (i2)))] e ∧ S_disk_Disk_Read_J1 B p1 i2 h5 Q) ?_ fun j4 => ?_
 ·rintro e h5 ⟨hag, hS⟩
  refine Run.env hag ?_; clear hag
  refine Run.seq ?_
  refine Run.ops0 (idx := [0, 1, 2, 3, 4, 5, 6, 7]) rfl ?_
  refine Run.go rfl rfl rfl (sem_move ((Value.pointer p1)) rfl ?_)
  refine Run.go rfl rfl rfl (sem_move ((Value.int .i64 (i2))) rfl ?_)
  obtain ⟨A6, e7, hS⟩ := hS
  refine Run.go rfl rfl rfl (sem_nilCheck A6 (congrArg Value.pointer e7) ?_)
  refine Run.go rfl rfl rfl (sem_fieldAddr A6 0 rfl TF.fld_177_0 ?_)
  obtain ⟨hi0, hi1, hS⟩ := hS
  refine Run.go rfl rfl rfl (sem_indexAddrA A6 .i64 (i2) rfl rfl TF.arr_174 hi0 hi1 ?_)
  refine Run.go rfl rfl rfl (sem_fieldAddr (Addr.add A6 (Int.toNat (i2) * 2)) 0 rfl TF.fld_173_0 ?_)
  obtain ⟨s8, hl, hS⟩ := hS
  refine Run.go rfl rfl rfl (sem_load1 (Addr.add A6 (Int.toNat (i2) * 2)) ((Value.string s8)) rfl TF.agg_9 hl ?_)
  refine Run.go rfl rfl rfl (sem_assign ((Value.string s8)) rfl ?_)
  refine Run.region_end ?_
  refine Run.ret ⟨.inr rfl, ?_⟩
  exact hS.imp fun h' hq => ⟨s8, rfl, hq⟩
 refine Run.seq ?_
 refine Run.ops0 (idx := [0, 1, 2, 3, 4, 5, 6]) rfl ?_
 refine Run.go rfl rfl rfl (sem_move ((Value.pointer p1)) rfl ?_)
 obtain ⟨hT, hF⟩ := hS
 by_cases hb9 : p1 = none
 ·have hS := hT hb9; clear hT hF
  refine Run.go rfl rfl rfl (sem_ptrNilT p1 (.inl rfl) true rfl rfl TF.ptr_61 hb9 rfl ?_)
  refine Run.go rfl rfl rfl (sem_move ((Value.bool true)) rfl ?_)
  refine Run.no rfl rfl rfl ?_
  refine Run.no rfl rfl rfl ?_
  refine Run.no rfl rfl rfl ?_
  refine Run.go rfl rfl rfl (sem_pick true ((Value.bool true)) rfl rfl ?_)
  refine Run.region_end ?_
  refine Run.condT rfl ?_
  refine Run.seq ?_
  refine Run.ops0 (idx := [0]) rfl ?_
  refine Run.go rfl rfl rfl (sem_assign ((Value.string (ByteArray.mk #[]))) rfl ?_)
  refine Run.region_end ?_
  refine Run.ret ⟨.inr rfl, ?_⟩
  exact hS.imp fun h' hq => ⟨(ByteArray.mk #[]), rfl, hq⟩
 ·have hS := hF hb9; clear hT hF
  refine Run.go rfl rfl rfl (sem_ptrNilF p1 (.inl rfl) false rfl rfl TF.ptr_61 hb9 rfl ?_)
  refine Run.go rfl rfl rfl (sem_move ((Value.bool false)) rfl ?_)
  refine Run.go rfl rfl rfl (sem_move ((Value.int .i64 (i2))) rfl ?_)
  refine Run.go rfl rfl rfl (sem_callL [(Value.int .i64 (i2))] (TF.goes_93) rfl rfl (Spec.mono hS fun v h10 hv => ?_))
  obtain ⟨b11, rfl, hS⟩ := hv
  obtain ⟨hT, hF⟩ := hS
  cases b11
  ·have hS := hF rfl; clear hT hF
   refine Run.go rfl rfl rfl (sem_not false rfl ?_)
   refine Run.go rfl rfl rfl (sem_pick false ((Value.bool true)) rfl rfl ?_)
   refine Run.region_end ?_
   refine Run.condT rfl ?_
   refine Run.seq ?_
   refine Run.ops0 (idx := [0]) rfl ?_
   refine Run.go rfl rfl rfl (sem_assign ((Value.string (ByteArray.mk #[]))) rfl ?_)
   refine Run.region_end ?_
   refine Run.ret ⟨.inr rfl, ?_⟩
   exact hS.imp fun h' hq => ⟨(ByteArray.mk #[]), rfl, hq⟩
  ·have hS := hT rfl; clear hT hF
   refine Run.go rfl rfl rfl (sem_not true rfl ?_)
   refine Run.go rfl rfl rfl (sem_pick false ((Value.bool false)) rfl rfl ?_)
   refine Run.region_end ?_
   refine Run.condF rfl ?_
   refine Run.skip ?_
   exact Run.of_fin (hS.imp fun h' hS => j4 _ _ ⟨⟨rfl, rfl, trivial⟩, hS⟩)
set_option maxHeartbeats 4000000 in
theorem C_disk_Disk_Safe.of {B : RO} {p1 : Option Addr} {i2 : Int} {h : Heap} {Q : ByteArray → Heap → Prop} (hS : S_disk_Disk_Safe B p1 i2 h Q) : C_disk_Disk_Safe B p1 i2 h Q := by
 unfold S_disk_Disk_Safe at hS
 unfold C_disk_Disk_Safe
 refine Spec.of_run Try.func48 (N := 19) (rs := [ResultVar.tmp 4]) rfl rfl rfl (Nat.le_of_ble_eq_true rfl) ?_
 refine Run.seq ?_
 refine Run.ops0 (idx := [0]) rfl ?_
 refine Run.go rfl rfl rfl (sem_assign ((Value.string (ByteArray.mk #[]))) rfl ?_)
 refine Run.region_end ?_
 refine Run.seqJ (fun e h5 => Agree [(0, (Value.pointer p1)), (1, (Value.int .i64 (i2)))] e ∧ S_disk_Disk_Safe_J1 B p1 i2 h5 Q) ?_ fun j4 => ?_
 ·rintro e h5 ⟨hag, hS⟩
  refine Run.env hag ?_; clear hag
  refine Run.seq ?_
  refine Run.ops0 (idx := [0, 1, 2, 3, 4, 5, 6, 7]) rfl ?_
  refine Run.go rfl rfl rfl (sem_move ((Value.pointer p1)) rfl ?_)
  refine Run.go rfl rfl rfl (sem_move ((Value.int .i64 (i2))) rfl ?_)
  obtain ⟨A6, e7, hS⟩ := hS
  refine Run.go rfl rfl rfl (sem_nilCheck A6 (congrArg Value.pointer e7) ?_)
  refine Run.go rfl rfl rfl (sem_fieldAddr A6 0 rfl TF.fld_177_0 ?_)
  obtain ⟨hi0, hi1, hS⟩ := hS
  refine Run.go rfl rfl rfl (sem_indexAddrA A6 .i64 (i2) rfl rfl TF.arr_174 hi0 hi1 ?_)
  refine Run.go rfl rfl rfl (sem_fieldAddr (Addr.add A6 (Int.toNat (i2) * 2)) 1 rfl TF.fld_173_1 ?_)
  obtain ⟨s8, hl, hS⟩ := hS
  refine Run.go rfl rfl rfl (sem_load1 (Addr.add (Addr.add A6 (Int.toNat (i2) * 2)) 1) ((Value.string s8)) rfl TF.agg_9 hl ?_)
  refine Run.go rfl rfl rfl (sem_assign ((Value.string s8)) rfl ?_)
  refine Run.region_end ?_
  refine Run.ret ⟨.inr rfl, ?_⟩
  exact hS.imp fun h' hq => ⟨s8, rfl, hq⟩
 refine Run.seq ?_
 refine Run.ops0 (idx := [0, 1, 2, 3, 4, 5, 6]) rfl ?_
 refine Run.go rfl rfl rfl (sem_move ((Value.pointer p1)) rfl ?_)
 obtain ⟨hT, hF⟩ := hS
 by_cases hb9 : p1 = none
 ·have hS := hT hb9; clear hT hF
  refine Run.go rfl rfl rfl (sem_ptrNilT p1 (.inl rfl) true rfl rfl TF.ptr_61 hb9 rfl ?_)
  refine Run.go rfl rfl rfl (sem_move ((Value.bool true)) rfl ?_)
  refine Run.no rfl rfl rfl ?_
  refine Run.no rfl rfl rfl ?_
  refine Run.no rfl rfl rfl ?_
  refine Run.go rfl rfl rfl (sem_pick true ((Value.bool true)) rfl rfl ?_)
  refine Run.region_end ?_
  refine Run.condT rfl ?_
  refine Run.seq ?_
  refine Run.ops0 (idx := [0]) rfl ?_
  refine Run.go rfl rfl rfl (sem_assign ((Value.string (ByteArray.mk #[]))) rfl ?_)
  refine Run.region_end ?_
  refine Run.ret ⟨.inr rfl, ?_⟩
  exact hS.imp fun h' hq => ⟨(ByteArray.mk #[]), rfl, hq⟩
 ·have hS := hF hb9; clear hT hF
  refine Run.go rfl rfl rfl (sem_ptrNilF p1 (.inl rfl) false rfl rfl TF.ptr_61 hb9 rfl ?_)
  refine Run.go rfl rfl rfl (sem_move ((Value.bool false)) rfl ?_)
  refine Run.go rfl rfl rfl (sem_move ((Value.int .i64 (i2))) rfl ?_)
  refine Run.go rfl rfl rfl (sem_callL [(Value.int .i64 (i2))] (TF.goes_93) rfl rfl (Spec.mono hS fun v h10 hv => ?_))
  obtain ⟨b11, rfl, hS⟩ := hv
  obtain ⟨hT, hF⟩ := hS
  cases b11
  ·have hS := hF rfl; clear hT hF
   refine Run.go rfl rfl rfl (sem_not false rfl ?_)
   refine Run.go rfl rfl rfl (sem_pick false ((Value.bool true)) rfl rfl ?_)
   refine Run.region_end ?_
   refine Run.condT rfl ?_
   refine Run.seq ?_
   refine Run.ops0 (idx := [0]) rfl ?_
   refine Run.go rfl rfl rfl (sem_assign ((Value.string (ByteArray.mk #[]))) rfl ?_)
   refine Run.region_end ?_
   refine Run.ret ⟨.inr rfl, ?_⟩
   exact hS.imp fun h' hq => ⟨(ByteArray.mk #[]), rfl, hq⟩
  ·have hS := hT rfl; clear hT hF
   refine Run.go rfl rfl rfl (sem_not true rfl ?_)
   refine Run.go rfl rfl rfl (sem_pick false ((Value.bool false)) rfl rfl ?_)
   refine Run.region_end ?_
   refine Run.condF rfl ?_
   refine Run.skip ?_
   exact Run.of_fin (hS.imp fun h' hS => j4 _ _ ⟨⟨rfl, rfl, trivial⟩, hS⟩)
set_option maxHeartbeats 4000000 in
theorem C_wal_Log_Lasting.of {B : RO} {p1 : Option Addr} {h : Heap} {Q : Int → Heap → Prop} (hS : S_wal_Log_Lasting B p1 h Q) : C_wal_Log_Lasting B p1 h Q := by
 unfold S_wal_Log_Lasting at hS
 unfold C_wal_Log_Lasting
 refine Spec.of_run Try.func49 (N := 20) (rs := [ResultVar.tmp 2]) rfl rfl rfl (Nat.le_of_ble_eq_true rfl) ?_
 refine Run.seq ?_
 refine Run.ops0 (idx := [0]) rfl ?_
 refine Run.go rfl rfl rfl (sem_assign ((Value.int .i64 (0))) rfl ?_)
 refine Run.region_end ?_
 refine Run.seq ?_
 refine Run.ops0 (idx := [0, 1]) rfl ?_
 refine Run.go rfl rfl rfl (sem_allocN [(Value.int .i64 (0))] TF.zero_3 (fun k3 hb1 hb2 h4 hb3 => ?_))
 have hS := hS k3 hb1 hb2 h4 hb3
 obtain ⟨h5, hst, hS⟩ := hS
 refine Run.go rfl rfl rfl (sem_store1 ⟨k3, 0, none⟩ ((Value.int .i64 (0))) h5 rfl rfl rfl TF.sz_3 hst ?_)
 refine Run.region_end ?_
 refine Run.seq ?_
 refine Run.seq ?_
 refine Run.ops0 (idx := [0, 1]) rfl ?_
 refine Run.go rfl rfl rfl (sem_move ((Value.pointer p1)) rfl ?_)
 obtain ⟨hT, hF⟩ := hS
 by_cases hb6 : p1 = none
 ·have hS := hT hb6; clear hT hF
  refine Run.go rfl rfl rfl (sem_ptrNilT p1 (.inr rfl) false rfl rfl TF.ptr_57 hb6 rfl ?_)
  refine Run.region_end ?_
  refine Run.condF rfl ?_
  refine Run.skip ?_
  refine Run.seq ?_
  refine Run.ops0 (idx := [0, 1]) rfl ?_
  obtain ⟨i7, hl, hS⟩ := hS
  refine Run.go rfl rfl rfl (sem_load1 ⟨k3, 0, none⟩ ((Value.int .i64 (i7))) rfl TF.agg_3 hl ?_)
  refine Run.go rfl rfl rfl (sem_assign ((Value.int .i64 (i7))) rfl ?_)
  refine Run.region_end ?_
  refine Run.ret ⟨.inr rfl, ?_⟩
  exact hS.imp fun h' hq => ⟨(i7), rfl, hq⟩
 ·have hS := hF hb6; clear hT hF
  refine Run.go rfl rfl rfl (sem_ptrNilF p1 (.inr rfl) true rfl rfl TF.ptr_57 hb6 rfl ?_)
  refine Run.region_end ?_
  refine Run.condT rfl ?_
  refine Run.seq ?_
  refine Run.drawM (fun h' => h' = h5) [8, 9] ⟨[0, 1, 2, 4, 0, 16, 32, 64, 136, 256], [1023, 1022, 1021, 1019, 1023, 1007, 991, 959, 887, 767], [0, 1, 3, 7, 0, 16, 48, 112, 255, 511], 768⟩ (.q 0 (.q 1 (.q 2 (.q 3 (.q 4 (.q 5 (.q 6 (.q 7 (.x 8 (.x 9 .nil .no) .no))))))))) TF.mixed (by kernel_rfl) rfl ?_
  refine RunT.quiet rfl rfl rfl (quiet_eq (sem_move ((Value.pointer p1)) rfl ⟨rfl, rfl⟩)) ?_
  obtain ⟨A8, e9, hS⟩ := hS
  refine RunT.quiet rfl rfl rfl (quiet_eq (sem_nilCheck A8 (congrArg Value.pointer e9) ⟨rfl, rfl⟩)) ?_
  refine RunT.quiet rfl rfl rfl (quiet_eq (sem_fieldAddr A8 0 rfl TF.fld_171_0 ⟨rfl, rfl⟩)) ?_
  obtain ⟨p10, hl, hS⟩ := hS
  refine RunT.quiet rfl rfl rfl (quiet_eq (sem_load1 A8 ((Value.pointer p10)) rfl TF.agg_61 hl ⟨rfl, rfl⟩)) ?_
  refine RunT.quiet rfl rfl rfl (quiet_eq (sem_move ((Value.pointer p1)) rfl ⟨rfl, rfl⟩)) ?_
  obtain ⟨A11, e12, hS⟩ := hS
  refine RunT.quiet rfl rfl rfl (quiet_eq (sem_nilCheck A11 (congrArg Value.pointer e12) ⟨rfl, rfl⟩)) ?_
  refine RunT.quiet rfl rfl rfl (quiet_eq (sem_fieldAddr A11 1 rfl TF.fld_171_1 ⟨rfl, rfl⟩)) ?_
  obtain ⟨i13, hl, hS⟩ := hS
  refine RunT.quiet rfl rfl rfl (quiet_eq (sem_load1 (Addr.add A11 1) ((Value.int .i64 (i13))) rfl TF.agg_3 hl ⟨rfl, rfl⟩)) ?_
  refine ⟨?_, trivial⟩
  refine OpH.go rfl rfl rfl (sem_callL [(Value.pointer p10), (Value.int .i64 (i13))] (TF.goes_48) rfl rfl (Spec.mono hS fun v h14 hv => ?_))
  obtain ⟨s15, rfl, hS⟩ := hv
  refine ⟨fun hz => Bool.noConfusion hz, ?_⟩
  refine ⟨?_, trivial⟩
  refine OpH.go rfl rfl rfl (sem_callL [(Value.string s15)] (TF.goes_92) rfl rfl (Spec.mono hS fun v17 h16 hv => ?_))
  obtain ⟨_, rfl, hS⟩ := hv
  refine ⟨fun hz => Bool.noConfusion hz, ?_⟩
  refine Run.block ?_
  obtain ⟨xs23, G19, J22, hit, hins, hG, h0, hS, hR⟩ := hS
  refine Run.of_fin (h0.imp fun h' h0 => ?_)
  refine Run.range (v17) (xs23.map (fun x : ByteArray => [(Value.string x)])) G19 J22 rfl hit hins hG h0 rfl (fun a ha => by obtain ⟨x, _, rfl⟩ := List.mem_map.1 ha; rfl) ?_ ?_
  ·rintro q21 args h20 ha hJ
   obtain ⟨s18, hx, rfl⟩ := Option.map_eq_some_iff.1 ((List.getElem?_map ..).symm.trans ha)
   have hS := hS q21 h20 s18 hx hJ; clear hJ hx ha
   refine Run.skip ?_
   refine Run.begin ⟨rfl, ?_⟩
   refine Run.block ?_
   refine Run.ops0 (idx := [0, 1, 2]) rfl ?_
   obtain ⟨i24, hl, hS⟩ := hS
   refine Run.go rfl rfl rfl (sem_load1 ⟨k3, 0, none⟩ ((Value.int .i64 (i24))) rfl TF.agg_3 hl ?_)
   refine Run.go rfl rfl rfl (sem_binI .i64 (i24) (1) ((Value.int .i64 (IntKind.wrap .i64 ((i24) + (1))))) rfl rfl rfl ?_)
   obtain ⟨h25, hst, hS⟩ := hS
   refine Run.go rfl rfl rfl (sem_store1 ⟨k3, 0, none⟩ ((Value.int .i64 (IntKind.wrap .i64 ((i24) + (1))))) h25 rfl rfl rfl TF.sz_3 hst ?_)
   refine Run.region_end ?_
   refine Run.inBlock ?_
   refine Run.of_fin (hS.imp fun h' hS => ?_)
   exact Run.fall (.inl ⟨rfl, hS⟩)
  ·intro h20 hJ
   have hS := hR h20 (by simpa using hJ); clear hJ hR
   refine Run.inBlock ?_
   refine Run.seq ?_
   refine Run.ops0 (idx := [0, 1]) rfl ?_
   obtain ⟨i26, hl, hS⟩ := hS
   refine Run.go rfl rfl rfl (sem_load1 ⟨k3, 0, none⟩ ((Value.int .i64 (i26))) rfl TF.agg_3 hl ?_)
   refine Run.go rfl rfl rfl (sem_assign ((Value.int .i64 (i26))) rfl ?_)
   refine Run.region_end ?_
   refine Run.ret ⟨.inr rfl, ?_⟩
   exact hS.imp fun h' hq => ⟨(i26), rfl, hq⟩
set_option maxHeartbeats 4000000 in
theorem C_countermandlaw04_same.of {B : RO} {a1 : Option Addr} {n2 : Nat} {c3 : Nat} {a4 : Option Addr} {n5 : Nat} {c6 : Nat} {h : Heap} {Q : Bool → Heap → Prop} (hS : S_countermandlaw04_same B a1 n2 c3 a4 n5 c6 h Q) : C_countermandlaw04_same B a1 n2 c3 a4 n5 c6 h Q := by
 unfold S_countermandlaw04_same at hS
 unfold C_countermandlaw04_same
 refine Spec.of_run Try.func50 (N := 26) (rs := [ResultVar.tmp 4]) rfl rfl rfl (Nat.le_of_ble_eq_true rfl) ?_
 refine Run.seq ?_
 refine Run.ops0 (idx := [0]) rfl ?_
 refine Run.go rfl rfl rfl (sem_assign ((Value.bool false)) rfl ?_)
 refine Run.region_end ?_
 refine Run.seq ?_
 refine Run.seq ?_
 refine Run.ops0 (idx := [0, 1, 2, 3, 4]) rfl ?_
 refine Run.go rfl rfl rfl (sem_move ((Value.slice a1 n2 c3)) rfl ?_)
 refine Run.go rfl rfl rfl (sem_lenSl a1 n2 c3 rfl TF.sl_55 ?_)
 refine Run.go rfl rfl rfl (sem_move ((Value.slice a4 n5 c6)) rfl ?_)
 refine Run.go rfl rfl rfl (sem_lenSl a4 n5 c6 rfl TF.sl_55 ?_)
 obtain ⟨hT, hF⟩ := hS
 by_cases hb8 : ((n2 : Nat) : Int) = (n5 : Nat)
 ·have hS := hT hb8; clear hT hF
  refine Run.go rfl rfl rfl (sem_binI .i64 ((n2 : Nat)) ((n5 : Nat)) (.bool false) rfl rfl (binI_neq_t hb8) ?_)
  refine Run.region_end ?_
  refine Run.condF rfl ?_
  refine Run.skip ?_
  refine Run.seq ?_
  refine Run.seq ?_
  refine Run.ops0 (idx := [0, 1, 2]) rfl ?_
  refine Run.go rfl rfl rfl (sem_move ((Value.slice a1 n2 c3)) rfl ?_)
  refine Run.go rfl rfl rfl (sem_lenSl a1 n2 c3 rfl TF.sl_55 ?_)
  refine Run.go rfl rfl rfl (sem_move ((Value.int .i64 (0))) rfl ?_)
  refine Run.region_end ?_
  refine Run.block ?_
  obtain ⟨J14, m12, h0, hS⟩ := hS
  refine Run.of_fin (h0.imp fun h' h0 => ?_)
  refine Run.loop (σ := Int × Nat) (fun x e h => J14 x.1 x.2 h ∧ Agree [(0, (Value.slice a1 n2 c3)), (1, (Value.slice a4 n5 c6)), (12, (Value.int .i64 ((n2 : Nat)))), (13, (Value.int .i64 (x.1)))] e) (fun x => x.2) ((0), m12) ⟨h0, ⟨rfl, rfl, rfl, rfl, trivial⟩⟩ ?_; clear h0
  rintro ⟨i9, m11⟩ e h10 ⟨hJ, hag⟩ ih13
  have hS := hS i9 m11 h10 hJ; clear hJ
  refine Run.env hag ?_; clear hag
  refine Run.seq ?_
  refine Run.ops0 (idx := [0]) rfl ?_
  obtain ⟨hT, hF⟩ := hS
  by_cases hb15 : (i9 : Int) < ((n2 : Nat))
  ·have hS := hT hb15; clear hT hF
   refine Run.go rfl rfl rfl (sem_binI .i64 (i9) ((n2 : Nat)) (.bool true) rfl rfl (binI_lss_t hb15) ?_)
   refine Run.region_end ?_
   refine Run.seq ?_
   refine Run.condT rfl ?_
   refine Run.skip ?_
   refine Run.seq ?_
   refine Run.block ?_
   refine Run.seq ?_
   refine Run.ops0 (idx := [0, 1]) rfl ?_
   refine Run.go rfl rfl rfl (sem_move ((Value.int .i64 (i9))) rfl ?_)
   refine Run.go rfl rfl rfl (sem_assign ((Value.int .i64 (i9))) rfl ?_)
   refine Run.region_end ?_
   refine Run.seq ?_
   refine Run.drawM (fun h' => h' = h10) [] ⟨[0, 0, 3, 4, 0, 0, 48, 64, 136], [511, 511, 508, 507, 511, 511, 463, 447, 375], [0, 0, 0, 0, 0, 0, 0, 0, 0], 0⟩ (.q 0 (.q 1 (.q 2 (.q 3 (.q 4 (.q 5 (.q 6 (.q 7 (.q 8 .nil))))))))) TF.mixed (by kernel_rfl) rfl ?_
   refine RunT.quiet rfl rfl rfl (quiet_eq (sem_move ((Value.slice a1 n2 c3)) rfl ⟨rfl, rfl⟩)) ?_
   refine RunT.quiet rfl rfl rfl (quiet_eq (sem_move ((Value.int .i64 (i9))) rfl ⟨rfl, rfl⟩)) ?_
   obtain ⟨A16, e17, hi0, hi1, hS⟩ := hS
   refine RunT.quiet rfl rfl rfl (quiet_eq (sem_indexAddrS A16 n2 c3 .i64 (i9) (congrArg (fun a => Value.slice a n2 c3) e17) rfl TF.slc_55 hi0 hi1 ⟨rfl, rfl⟩)) ?_
   obtain ⟨s18, hl, hS⟩ := hS
   refine RunT.quiet rfl rfl rfl (quiet_eq (sem_load1 (Addr.add A16 (Int.toNat (i9) * 1)) ((Value.string s18)) rfl TF.agg_9 hl ⟨rfl, rfl⟩)) ?_
   refine RunT.quiet rfl rfl rfl (quiet_eq (sem_move ((Value.slice a4 n5 c6)) rfl ⟨rfl, rfl⟩)) ?_
   refine RunT.quiet rfl rfl rfl (quiet_eq (sem_move ((Value.int .i64 (i9))) rfl ⟨rfl, rfl⟩)) ?_
   obtain ⟨A19, e20, hi0, hi1, hS⟩ := hS
   refine RunT.quiet rfl rfl rfl (quiet_eq (sem_indexAddrS A19 n5 c6 .i64 (i9) (congrArg (fun a => Value.slice a n5 c6) e20) rfl TF.slc_55 hi0 hi1 ⟨rfl, rfl⟩)) ?_
   obtain ⟨s21, hl, hS⟩ := hS
   refine RunT.quiet rfl rfl rfl (quiet_eq (sem_load1 (Addr.add A19 (Int.toNat (i9) * 1)) ((Value.string s21)) rfl TF.agg_9 hl ⟨rfl, rfl⟩)) ?_
   obtain ⟨hT, hF⟩ := hS
   by_cases hb22 : s18 = s21
   ·have hS := hT hb22; clear hT hF
    refine RunT.quiet rfl rfl rfl (quiet_eq (sem_strNeT s18 s21 rfl rfl hb22 ⟨rfl, rfl⟩)) ?_
    refine Run.condF rfl ?_
    refine Run.skip ?_
    refine Run.inBlock ?_
    refine Run.ops0 (idx := [0, 1]) rfl ?_
    refine Run.go rfl rfl rfl (sem_binI .i64 (i9) (1) ((Value.int .i64 (IntKind.wrap .i64 ((i9) + (1))))) rfl rfl rfl ?_)
    refine Run.go rfl rfl rfl (sem_move ((Value.int .i64 (IntKind.wrap .i64 ((i9) + (1))))) rfl ?_)
    refine Run.region_end ?_
    exact Run.of_fin (hS.imp fun h' ⟨m', hm, hS⟩ => ih13 ((IntKind.wrap .i64 ((i9) + (1))), m') _ _ ⟨hS, ⟨rfl, rfl, rfl, rfl, trivial⟩⟩ hm)
   ·have hS := hF hb22; clear hT hF
    refine RunT.quiet rfl rfl rfl (quiet_eq (sem_strNeF s18 s21 rfl rfl hb22 ⟨rfl, rfl⟩)) ?_
    refine Run.condT rfl ?_
    refine Run.seq ?_
    refine Run.ops0 (idx := [0]) rfl ?_
    refine Run.go rfl rfl rfl (sem_assign ((Value.bool false)) rfl ?_)
    refine Run.region_end ?_
    refine Run.ret ⟨.inr rfl, ?_⟩
    exact hS.imp fun h' hq => ⟨(false), rfl, hq⟩
  ·have hS := hF hb15; clear hT hF
   refine Run.go rfl rfl rfl (sem_binI .i64 (i9) ((n2 : Nat)) (.bool false) rfl rfl (binI_lss_f hb15) ?_)
   refine Run.region_end ?_
   refine Run.seq ?_
   refine Run.condF rfl ?_
   refine Run.exit rfl ?_
   refine Run.seq ?_
   refine Run.ops0 (idx := [0]) rfl ?_
   refine Run.go rfl rfl rfl (sem_assign ((Value.bool true)) rfl ?_)
   refine Run.region_end ?_
   refine Run.ret ⟨.inr rfl, ?_⟩
   exact hS.imp fun h' hq => ⟨(true), rfl, hq⟩
 ·have hS := hF hb8; clear hT hF
  refine Run.go rfl rfl rfl (sem_binI .i64 ((n2 : Nat)) ((n5 : Nat)) (.bool true) rfl rfl (binI_neq_f hb8) ?_)
  refine Run.region_end ?_
  refine Run.condT rfl ?_
  refine Run.seq ?_
  refine Run.ops0 (idx := [0]) rfl ?_
  refine Run.go rfl rfl rfl (sem_assign ((Value.bool false)) rfl ?_)
  refine Run.region_end ?_
  refine Run.ret ⟨.inr rfl, ?_⟩
  exact hS.imp fun h' hq => ⟨(false), rfl, hq⟩
set_option maxHeartbeats 4000000 in
theorem C_countermandlaw04_start.of {B : RO} {i1 : Int} {h : Heap} {Q : Option Addr → Heap → Prop} (hS : S_countermandlaw04_start B i1 h Q) : C_countermandlaw04_start B i1 h Q := by
 unfold S_countermandlaw04_start at hS
 unfold C_countermandlaw04_start
 refine Spec.of_run Try.func51 (N := 27) (rs := [ResultVar.tmp 2]) rfl rfl rfl (Nat.le_of_ble_eq_true rfl) ?_
 refine Run.seq ?_
 refine Run.ops0 (idx := [0]) rfl ?_
 refine Run.go rfl rfl rfl (sem_assign ((Value.pointer none)) rfl ?_)
 refine Run.region_end ?_
 refine Run.seq ?_
 refine Run.ops0 (idx := [0, 1, 2, 3]) rfl ?_
 refine Run.go rfl rfl rfl (sem_callL [] (TF.goes_37) rfl rfl (Spec.mono hS fun v h3 hv => ?_))
 obtain ⟨p4, rfl, hS⟩ := hv
 refine Run.go rfl rfl rfl (sem_buildSL [(0, (Value.pointer p4))] [(Value.pointer p4), (Value.pointer none), (Value.pointer none)] TF.zero_85 TF.places_85 rfl rfl ?_)
 refine Run.go rfl rfl rfl (sem_boxNN [(Value.pointer p4), (Value.pointer none), (Value.pointer none)] rfl (fun k5 hb1 hb2 h6 hb3 => ?_))
 have hS := hS k5 hb1 hb2 h6 hb3
 refine Run.go rfl rfl rfl (sem_assign ((Value.pointer (some ⟨k5, 0, none⟩))) rfl ?_)
 refine Run.region_end ?_
 refine Run.seq ?_
 refine Run.ops0 (idx := [0, 1, 2, 3, 4, 5, 6, 7, 8, 9, 10, 11, 12]) rfl ?_
 refine Run.go rfl rfl rfl (sem_move ((Value.pointer (some ⟨k5, 0, none⟩))) rfl ?_)
 refine Run.go rfl rfl rfl (sem_move ((Value.pointer (some ⟨k5, 0, none⟩))) rfl ?_)
 refine Run.go rfl rfl rfl (sem_nilCheck ⟨k5, 0, none⟩ rfl ?_)
 refine Run.go rfl rfl rfl (sem_fieldAddr ⟨k5, 0, none⟩ 0 rfl TF.fld_85_0 ?_)
 obtain ⟨p7, hl, hS⟩ := hS
 refine Run.go rfl rfl rfl (sem_load1 ⟨k5, 0, none⟩ ((Value.pointer p7)) rfl TF.agg_61 hl ?_)
 refine Run.go rfl rfl rfl (sem_move ((Value.int .i64 (i1))) rfl ?_)
 refine Run.go rfl rfl rfl (sem_callL [(Value.pointer p7), (Value.int .i64 (i1))] (TF.goes_36) rfl rfl (Spec.mono hS fun v h8 hv => ?_))
 obtain ⟨p9, i10, rfl, hS⟩ := hv
 refine Run.go rfl rfl rfl (sem_move ((Value.tuple #[(Value.pointer p9), (Value.int .i64 (i10))])) rfl ?_)
 refine Run.go rfl rfl rfl (sem_extract #[(Value.pointer p9), (Value.int .i64 (i10))] ((Value.pointer p9)) rfl rfl ?_)
 refine Run.go rfl rfl rfl (sem_extract #[(Value.pointer p9), (Value.int .i64 (i10))] ((Value.int .i64 (i10))) rfl rfl ?_)
 refine Run.go rfl rfl rfl (sem_nilCheck ⟨k5, 0, none⟩ rfl ?_)
 refine Run.go rfl rfl rfl (sem_fieldAddr ⟨k5, 0, none⟩ 1 rfl TF.fld_85_1 ?_)
 obtain ⟨h11, hst, hS⟩ := hS
 refine Run.go rfl rfl rfl (sem_store1 ⟨k5, 1, none⟩ ((Value.pointer p9)) h11 rfl rfl rfl TF.sz_57 hst ?_)
 refine Run.region_end ?_
 refine Run.seq ?_
 refine Run.ops0 (idx := [0, 1, 2, 3, 4, 5, 6, 7]) rfl ?_
 refine Run.go rfl rfl rfl (sem_move ((Value.pointer (some ⟨k5, 0, none⟩))) rfl ?_)
 refine Run.go rfl rfl rfl (sem_buildSL [] [(Value.slice none 0 0), (Value.int .i64 (0))] TF.zero_94 TF.places_94 rfl rfl ?_)
 refine Run.go rfl rfl rfl (sem_boxNN [(Value.slice none 0 0), (Value.int .i64 (0))] rfl (fun k12 hb1 hb2 h13 hb3 => ?_))
 have hS := hS k12 hb1 hb2 h13 hb3
 refine Run.go rfl rfl rfl (sem_move ((Value.int .i64 (i1))) rfl ?_)
 refine Run.go rfl rfl rfl (sem_callL [(Value.pointer (some ⟨k12, 0, none⟩)), (Value.int .i64 (i1))] (TF.goes_96) rfl rfl (Spec.mono hS fun v h14 hv => ?_))
 obtain ⟨p15, rfl, hS⟩ := hv
 refine Run.go rfl rfl rfl (sem_nilCheck ⟨k5, 0, none⟩ rfl ?_)
 refine Run.go rfl rfl rfl (sem_fieldAddr ⟨k5, 0, none⟩ 2 rfl TF.fld_85_2 ?_)
 obtain ⟨h16, hst, hS⟩ := hS
 refine Run.go rfl rfl rfl (sem_store1 ⟨k5, 2, none⟩ ((Value.pointer p15)) h16 rfl rfl rfl TF.sz_83 hst ?_)
 refine Run.region_end ?_
 refine Run.seq ?_
 refine Run.ops0 (idx := [0, 1]) rfl ?_
 refine Run.go rfl rfl rfl (sem_move ((Value.pointer (some ⟨k5, 0, none⟩))) rfl ?_)
 refine Run.go rfl rfl rfl (sem_assign ((Value.pointer (some ⟨k5, 0, none⟩))) rfl ?_)
 refine Run.region_end ?_
 refine Run.ret ⟨.inr rfl, ?_⟩
 exact hS.imp fun h' hq => ⟨(some ⟨k5, 0, none⟩), rfl, hq⟩
set_option maxHeartbeats 4000000 in
theorem C_countermandlaw04_both_does.of {B : RO} {p1 : Option Addr} {i2 : Int} {s3 : ByteArray} {i4 : Int} {i5 : Int} {h : Heap} {Q : Bool → Heap → Prop} (hS : S_countermandlaw04_both_does B p1 i2 s3 i4 i5 h Q) : C_countermandlaw04_both_does B p1 i2 s3 i4 i5 h Q := by
 unfold S_countermandlaw04_both_does at hS
 unfold C_countermandlaw04_both_does
 refine Spec.of_run Try.func52 (N := 142) (rs := [ResultVar.tmp 4]) rfl rfl rfl (Nat.le_of_ble_eq_true rfl) ?_
 refine Run.seq ?_
 refine Run.ops0 (idx := [0, 1]) rfl ?_
 refine Run.go rfl rfl rfl (sem_boxNN [(Value.int .i64 (i2)), (Value.string s3), (Value.int .i64 (i4)), (Value.int .i64 (i5))] rfl (fun k7 hb1 hb2 h8 hb3 => ?_))
 have hS := hS k7 hb1 hb2 h8 hb3
 refine Run.go rfl rfl rfl (sem_assign ((Value.bool false)) rfl ?_)
 refine Run.region_end ?_
 refine Run.seq ?_
 refine Run.ops0 (idx := [0, 1, 2, 3, 4, 5, 6, 7]) rfl ?_
 refine Run.go rfl rfl rfl (sem_move ((Value.pointer p1)) rfl ?_)
 obtain ⟨A9, e10, hS⟩ := hS
 refine Run.go rfl rfl rfl (sem_nilCheck A9 (congrArg Value.pointer e10) ?_)
 refine Run.go rfl rfl rfl (sem_fieldAddr A9 2 rfl TF.fld_85_2 ?_)
 obtain ⟨p11, hl, hS⟩ := hS
 refine Run.go rfl rfl rfl (sem_load1 (Addr.add A9 2) ((Value.pointer p11)) rfl TF.agg_83 hl ?_)
 obtain ⟨A12, e13, hS⟩ := hS
 refine Run.go rfl rfl rfl (sem_nilCheck A12 (congrArg Value.pointer e13) ?_)
 refine Run.go rfl rfl rfl (sem_fieldAddr A12 1 rfl TF.fld_90_1 ?_)
 obtain ⟨i14, hl, hS⟩ := hS
 refine Run.go rfl rfl rfl (sem_load1 (Addr.add A12 1) ((Value.int .i64 (i14))) rfl TF.agg_3 hl ?_)
 refine Run.go rfl rfl rfl (sem_assign ((Value.int .i64 (i14))) rfl ?_)
 refine Run.region_end ?_
 refine Run.seqJ (fun e h16 => Agree [(0, (Value.pointer p1)), (3, (Value.pointer (some ⟨k7, 0, none⟩))), (5, (Value.int .i64 (i14)))] e ∧ S_countermandlaw04_both_does_J1 B p1 k7 i14 h16 Q) ?_ fun j15 => ?_
 ·rintro e h16 ⟨hag, hS⟩
  refine Run.env hag ?_; clear hag
  refine Run.seq ?_
  refine Run.seq ?_
  refine Run.ops0 (idx := [0, 1, 2]) rfl ?_
  refine Run.go rfl rfl rfl (sem_fieldAddr ⟨k7, 0, none⟩ 0 rfl TF.fld_73_0 ?_)
  obtain ⟨i17, hl, hS⟩ := hS
  refine Run.go rfl rfl rfl (sem_load1 ⟨k7, 0, none⟩ ((Value.int .i64 (i17))) rfl TF.agg_3 hl ?_)
  obtain ⟨hT, hF⟩ := hS
  by_cases hb18 : (i17 : Int) > (2)
  ·have hS := hT hb18; clear hT hF
   refine Run.go rfl rfl rfl (sem_binI .i64 (i17) (2) (.bool true) rfl rfl (binI_gtr_t hb18) ?_)
   refine Run.region_end ?_
   refine Run.condT rfl ?_
   refine Run.seq ?_
   refine Run.ops0 (idx := [0, 1, 2, 3, 4, 5, 6, 7, 8, 9, 10, 11, 12]) rfl ?_
   refine Run.go rfl rfl rfl (sem_move ((Value.pointer p1)) rfl ?_)
   refine Run.go rfl rfl rfl (sem_move ((Value.pointer p1)) rfl ?_)
   obtain ⟨A19, e20, hS⟩ := hS
   refine Run.go rfl rfl rfl (sem_nilCheck A19 (congrArg Value.pointer e20) ?_)
   refine Run.go rfl rfl rfl (sem_fieldAddr A19 0 rfl TF.fld_85_0 ?_)
   obtain ⟨p21, hl, hS⟩ := hS
   refine Run.go rfl rfl rfl (sem_load1 A19 ((Value.pointer p21)) rfl TF.agg_61 hl ?_)
   refine Run.go rfl rfl rfl (sem_move ((Value.int .i64 (i14))) rfl ?_)
   refine Run.go rfl rfl rfl (sem_callL [(Value.pointer p21), (Value.int .i64 (i14))] (TF.goes_36) rfl rfl (Spec.mono hS fun v h22 hv => ?_))
   obtain ⟨p23, i24, rfl, hS⟩ := hv
   refine Run.go rfl rfl rfl (sem_move ((Value.tuple #[(Value.pointer p23), (Value.int .i64 (i24))])) rfl ?_)
   refine Run.go rfl rfl rfl (sem_extract #[(Value.pointer p23), (Value.int .i64 (i24))] ((Value.pointer p23)) rfl rfl ?_)
   refine Run.go rfl rfl rfl (sem_extract #[(Value.pointer p23), (Value.int .i64 (i24))] ((Value.int .i64 (i24))) rfl rfl ?_)
   obtain ⟨A25, e26, hS⟩ := hS
   refine Run.go rfl rfl rfl (sem_nilCheck A25 (congrArg Value.pointer e26) ?_)
   refine Run.go rfl rfl rfl (sem_fieldAddr A25 1 rfl TF.fld_85_1 ?_)
   obtain ⟨h27, hst, hS⟩ := hS
   refine Run.go rfl rfl rfl (sem_store1 (Addr.add A25 1) ((Value.pointer p23)) h27 rfl rfl rfl TF.sz_57 hst ?_)
   refine Run.region_end ?_
   refine Run.ops0 (idx := [0, 1, 2, 3, 4, 5, 6, 7, 8, 9, 10, 11, 12]) rfl ?_
   refine Run.go rfl rfl rfl (sem_move ((Value.pointer p1)) rfl ?_)
   refine Run.go rfl rfl rfl (sem_move ((Value.pointer p1)) rfl ?_)
   obtain ⟨A28, e29, hS⟩ := hS
   refine Run.go rfl rfl rfl (sem_nilCheck A28 (congrArg Value.pointer e29) ?_)
   refine Run.go rfl rfl rfl (sem_fieldAddr A28 2 rfl TF.fld_85_2 ?_)
   obtain ⟨p30, hl, hS⟩ := hS
   refine Run.go rfl rfl rfl (sem_load1 (Addr.add A28 2) ((Value.pointer p30)) rfl TF.agg_83 hl ?_)
   obtain ⟨A31, e32, hS⟩ := hS
   refine Run.go rfl rfl rfl (sem_nilCheck A31 (congrArg Value.pointer e32) ?_)
   refine Run.go rfl rfl rfl (sem_fieldAddr A31 0 rfl TF.fld_90_0 ?_)
   obtain ⟨p33, hl, hS⟩ := hS
   refine Run.go rfl rfl rfl (sem_load1 A31 ((Value.pointer p33)) rfl TF.agg_88 hl ?_)
   refine Run.go rfl rfl rfl (sem_move ((Value.int .i64 (i14))) rfl ?_)
   refine Run.go rfl rfl rfl (sem_callL [(Value.pointer p33), (Value.int .i64 (i14))] (TF.goes_96) rfl rfl (Spec.mono hS fun v h34 hv => ?_))
   obtain ⟨p35, rfl, hS⟩ := hv
   obtain ⟨A36, e37, hS⟩ := hS
   refine Run.go rfl rfl rfl (sem_nilCheck A36 (congrArg Value.pointer e37) ?_)
   refine Run.go rfl rfl rfl (sem_fieldAddr A36 2 rfl TF.fld_85_2 ?_)
   obtain ⟨h38, hst, hS⟩ := hS
   refine Run.go rfl rfl rfl (sem_store1 (Addr.add A36 2) ((Value.pointer p35)) h38 rfl rfl rfl TF.sz_83 hst ?_)
   refine Run.region_end ?_
   refine Run.seq ?_
   refine Run.ops0 (idx := [0]) rfl ?_
   refine Run.go rfl rfl rfl (sem_assign ((Value.bool true)) rfl ?_)
   refine Run.region_end ?_
   refine Run.ret ⟨.inr rfl, ?_⟩
   exact hS.imp fun h' hq => ⟨(true), rfl, hq⟩
  ·have hS := hF hb18; clear hT hF
   refine Run.go rfl rfl rfl (sem_binI .i64 (i17) (2) (.bool false) rfl rfl (binI_gtr_f hb18) ?_)
   refine Run.region_end ?_
   refine Run.condF rfl ?_
   refine Run.skip ?_
   refine Run.seq ?_
   refine Run.ops0 (idx := [0]) rfl ?_
   refine Run.go rfl rfl rfl (sem_assign ((Value.bool true)) rfl ?_)
   refine Run.region_end ?_
   refine Run.ret ⟨.inr rfl, ?_⟩
   exact hS.imp fun h' hq => ⟨(true), rfl, hq⟩
 refine Run.seq ?_
 refine Run.ops0 (idx := [0, 1]) rfl ?_
 refine Run.go rfl rfl rfl (sem_fieldAddr ⟨k7, 0, none⟩ 0 rfl TF.fld_73_0 ?_)
 obtain ⟨i39, hl, hS⟩ := hS
 refine Run.go rfl rfl rfl (sem_load1 ⟨k7, 0, none⟩ ((Value.int .i64 (i39))) rfl TF.agg_3 hl ?_)
 refine Run.region_end ?_
 refine Run.block ?_
 refine Run.seq ?_
 refine Run.ops0 (idx := [0, 1]) rfl ?_
 obtain ⟨hT, hF⟩ := hS
 by_cases hb40 : (i39 : Int) = 0
 ·have hS := hT hb40; clear hT hF
  refine Run.go rfl rfl rfl (sem_binI .i64 (i39) (0) (.bool true) rfl rfl (binI_eql_t hb40) ?_)
  refine Run.go rfl rfl rfl (sem_assign ((Value.bool true)) rfl ?_)
  refine Run.region_end ?_
  refine Run.condT rfl ?_
  refine Run.seq ?_
  skip
  obtain ⟨A42, e43, hS⟩ := hS
  skip
  skip
  obtain ⟨p46, hl, hS⟩ := hS
  have f47 := hl
  skip
  obtain ⟨s49, hl, hS⟩ := hS
  have f50 := hl
  skip
  obtain ⟨A52, e53, hS⟩ := hS
  skip
  skip
  obtain ⟨p56, hl, hS⟩ := hS
  have f57 := hl
  skip
  obtain ⟨s59, hl, hS⟩ := hS
  have f60 := hl
  refine Run.drawM (fun h' => cellH B h' (Addr.add A42 1) = some (Value.pointer p46) ∧ cellH B h' ⟨k7, 1, none⟩ = some (Value.string s49) ∧ cellH B h' (Addr.add A52 2) = some (Value.pointer p56) ∧ cellH B h' ⟨k7, 1, none⟩ = some (Value.string s59) ∧ True) [] ⟨[0, 1, 2, 4, 0, 16, 40, 0, 128, 256, 512, 0, 2048, 5184, 8256, 32767], [65535, 65534, 65533, 65531, 65535, 65519, 65495, 65535, 65407, 65279, 65023, 65535, 63487, 60415, 57279, 49151], [0, 0, 0, 0, 0, 0, 0, 0, 0, 0, 0, 0, 0, 0, 0, 0], 0⟩ (.q 0 (.q 1 (.q 2 (.q 3 (.q 4 (.q 5 (.q 7 (.q 8 (.q 9 (.q 10 (.q 11 (.q 12 (.x 6 (.x 13 (.q 14 (.q 15 .nil)) .no) .no))))))))))))) TF.mixed (by kernel_rfl) ⟨f47, f50, f57, f60, trivial⟩ ?_
  refine RunT.quiet rfl rfl rfl (fun h' hC => sem_move ((Value.pointer p1)) rfl ⟨rfl, rfl⟩) ?_
  refine RunT.quiet rfl rfl rfl (fun h' hC => sem_nilCheck A42 (congrArg Value.pointer e43) ⟨rfl, rfl⟩) ?_
  refine RunT.quiet rfl rfl rfl (fun h' hC => sem_fieldAddr A42 1 rfl TF.fld_85_1 ⟨rfl, rfl⟩) ?_
  refine RunT.quiet rfl rfl rfl (fun h' hC => sem_load1 (Addr.add A42 1) ((Value.pointer p46)) rfl TF.agg_57 hC.1 ⟨rfl, rfl⟩) ?_
  refine RunT.quiet rfl rfl rfl (fun h' hC => sem_fieldAddr ⟨k7, 0, none⟩ 1 rfl TF.fld_73_1 ⟨rfl, rfl⟩) ?_
  refine RunT.quiet rfl rfl rfl (fun h' hC => sem_load1 ⟨k7, 1, none⟩ ((Value.string s49)) rfl TF.agg_9 hC.2.1 ⟨rfl, rfl⟩) ?_
  refine RunT.quiet rfl rfl rfl (fun h' hC => sem_move ((Value.pointer p1)) rfl ⟨rfl, rfl⟩) ?_
  refine RunT.quiet rfl rfl rfl (fun h' hC => sem_nilCheck A52 (congrArg Value.pointer e53) ⟨rfl, rfl⟩) ?_
  refine RunT.quiet rfl rfl rfl (fun h' hC => sem_fieldAddr A52 2 rfl TF.fld_85_2 ⟨rfl, rfl⟩) ?_
  refine RunT.quiet rfl rfl rfl (fun h' hC => sem_load1 (Addr.add A52 2) ((Value.pointer p56)) rfl TF.agg_83 hC.2.2.1 ⟨rfl, rfl⟩) ?_
  refine RunT.quiet rfl rfl rfl (fun h' hC => sem_fieldAddr ⟨k7, 0, none⟩ 1 rfl TF.fld_73_1 ⟨rfl, rfl⟩) ?_
  refine RunT.quiet rfl rfl rfl (fun h' hC => sem_load1 ⟨k7, 1, none⟩ ((Value.string s59)) rfl TF.agg_9 hC.2.2.2.1 ⟨rfl, rfl⟩) ?_
  refine ⟨?_, trivial⟩
  refine OpH.go rfl rfl rfl (sem_callL [(Value.pointer p46), (Value.string s49)] (TF.goes_38) rfl rfl (Spec.mono hS fun v h61 hv => ?_))
  obtain ⟨i62, rfl, hS⟩ := hv
  obtain ⟨g63, g64, g65, g66, hS⟩ := hS
  refine ⟨fun _ => ⟨g63, g64, g65, g66, trivial⟩, ?_⟩
  refine ⟨?_, trivial⟩
  refine OpH.go rfl rfl rfl (sem_callL [(Value.pointer p56), (Value.string s59)] (TF.goes_97) rfl rfl (Spec.mono hS fun v h67 hv => ?_))
  obtain ⟨i68, rfl, hS⟩ := hv
  obtain ⟨g69, g70, g71, g72, hS⟩ := hS
  refine ⟨fun _ => ⟨g69, g70, g71, g72, trivial⟩, ?_⟩
  refine RunT.quiet rfl rfl rfl (fun h' hC => sem_binI .i64 (i62) (i68) ((Value.bool ((i62 : Int) == (i68)))) rfl rfl rfl ⟨rfl, rfl⟩) ?_
  refine RunT.quiet rfl rfl rfl (fun h' hC => sem_assign ((Value.bool ((i62 : Int) == (i68)))) rfl ⟨rfl, rfl⟩) ?_
  refine Run.ret ⟨.inr rfl, ?_⟩
  exact hS.imp fun h' hq => ⟨(((i62 : Int) == (i68))), rfl, hq⟩
 ·have hS := hF hb40; clear hT hF
  refine Run.go rfl rfl rfl (sem_binI .i64 (i39) (0) (.bool false) rfl rfl (binI_eql_f hb40) ?_)
  refine Run.go rfl rfl rfl (sem_assign ((Value.bool false)) rfl ?_)
  refine Run.region_end ?_
  refine Run.condF rfl ?_
  refine Run.seq ?_
  refine Run.ops0 (idx := [0, 1]) rfl ?_
  obtain ⟨hT, hF⟩ := hS
  by_cases hb73 : (i39 : Int) = 1
  ·have hS := hT hb73; clear hT hF
   refine Run.go rfl rfl rfl (sem_binI .i64 (i39) (1) (.bool true) rfl rfl (binI_eql_t hb73) ?_)
   refine Run.go rfl rfl rfl (sem_assign ((Value.bool true)) rfl ?_)
   refine Run.region_end ?_
   refine Run.condT rfl ?_
   refine Run.seq ?_
   refine Run.ops0 (idx := [0, 1, 2, 3, 4]) rfl ?_
   refine Run.go rfl rfl rfl (sem_move ((Value.pointer p1)) rfl ?_)
   obtain ⟨A74, e75, hS⟩ := hS
   refine Run.go rfl rfl rfl (sem_nilCheck A74 (congrArg Value.pointer e75) ?_)
   refine Run.go rfl rfl rfl (sem_fieldAddr A74 1 rfl TF.fld_85_1 ?_)
   obtain ⟨p76, hl, hS⟩ := hS
   refine Run.go rfl rfl rfl (sem_load1 (Addr.add A74 1) ((Value.pointer p76)) rfl TF.agg_57 hl ?_)
   refine Run.go rfl rfl rfl (sem_callL [(Value.pointer p76)] (TF.goes_44) rfl rfl (Spec.mono hS fun v h77 hv => ?_))
   obtain ⟨rfl, hS⟩ := hv
   refine Run.region_end ?_
   refine Run.drawM (fun h' => h' = h77) [20] ⟨[0, 1, 2, 4, 8, 16, 32, 0, 128, 256, 512, 1024, 2048, 4096, 8192, 16384, 32768, 65536, 262143, 524287, 786431], [2097151, 2097150, 2097149, 2097147, 2097143, 2097135, 2097119, 2097151, 2097023, 2096895, 2096639, 2096127, 2095103, 2093055, 2088959, 2080767, 2064383, 2031615, 2097087, 1835007, 1441791], [0, 1, 3, 7, 15, 31, 63, 0, 128, 384, 896, 1920, 3968, 8064, 16256, 32640, 65408, 130944, 262143, 524287, 1048575], 1048576⟩ (.q 0 (.q 1 (.q 2 (.q 3 (.q 4 (.q 5 (.q 6 (.q 7 (.q 8 (.q 9 (.q 10 (.q 11 (.q 12 (.q 13 (.q 14 (.q 15 (.q 16 (.q 17 (.q 18 (.q 19 (.x 20 .nil .no))))))))))))))))))))) TF.mixed (by kernel_rfl) rfl ?_
   refine RunT.quiet rfl rfl rfl (quiet_eq (sem_move ((Value.pointer p1)) rfl ⟨rfl, rfl⟩)) ?_
   obtain ⟨A78, e79, hS⟩ := hS
   refine RunT.quiet rfl rfl rfl (quiet_eq (sem_nilCheck A78 (congrArg Value.pointer e79) ⟨rfl, rfl⟩)) ?_
   refine RunT.quiet rfl rfl rfl (quiet_eq (sem_fieldAddr A78 2 rfl TF.fld_85_2 ⟨rfl, rfl⟩)) ?_
   obtain ⟨p80, hl, hS⟩ := hS
   refine RunT.quiet rfl rfl rfl (quiet_eq (sem_load1 (Addr.add A78 2) ((Value.pointer p80)) rfl TF.agg_83 hl ⟨rfl, rfl⟩)) ?_
   obtain ⟨A81, e82, hS⟩ := hS
   refine RunT.quiet rfl rfl rfl (quiet_eq (sem_nilCheck A81 (congrArg Value.pointer e82) ⟨rfl, rfl⟩)) ?_
   refine RunT.quiet rfl rfl rfl (quiet_eq (sem_fieldAddr A81 0 rfl TF.fld_90_0 ⟨rfl, rfl⟩)) ?_
   obtain ⟨p83, hl, hS⟩ := hS
   refine RunT.quiet rfl rfl rfl (quiet_eq (sem_load1 A81 ((Value.pointer p83)) rfl TF.agg_88 hl ⟨rfl, rfl⟩)) ?_
   refine RunT.quiet rfl rfl rfl (quiet_eq (sem_move ((Value.pointer p1)) rfl ⟨rfl, rfl⟩)) ?_
   obtain ⟨A84, e85, hS⟩ := hS
   refine RunT.quiet rfl rfl rfl (quiet_eq (sem_nilCheck A84 (congrArg Value.pointer e85) ⟨rfl, rfl⟩)) ?_
   refine RunT.quiet rfl rfl rfl (quiet_eq (sem_fieldAddr A84 2 rfl TF.fld_85_2 ⟨rfl, rfl⟩)) ?_
   obtain ⟨p86, hl, hS⟩ := hS
   refine RunT.quiet rfl rfl rfl (quiet_eq (sem_load1 (Addr.add A84 2) ((Value.pointer p86)) rfl TF.agg_83 hl ⟨rfl, rfl⟩)) ?_
   obtain ⟨A87, e88, hS⟩ := hS
   refine RunT.quiet rfl rfl rfl (quiet_eq (sem_nilCheck A87 (congrArg Value.pointer e88) ⟨rfl, rfl⟩)) ?_
   refine RunT.quiet rfl rfl rfl (quiet_eq (sem_fieldAddr A87 0 rfl TF.fld_90_0 ⟨rfl, rfl⟩)) ?_
   obtain ⟨p89, hl, hS⟩ := hS
   refine RunT.quiet rfl rfl rfl (quiet_eq (sem_load1 A87 ((Value.pointer p89)) rfl TF.agg_88 hl ⟨rfl, rfl⟩)) ?_
   obtain ⟨A90, e91, hS⟩ := hS
   refine RunT.quiet rfl rfl rfl (quiet_eq (sem_nilCheck A90 (congrArg Value.pointer e91) ⟨rfl, rfl⟩)) ?_
   refine RunT.quiet rfl rfl rfl (quiet_eq (sem_fieldAddr A90 0 rfl TF.fld_94_0 ⟨rfl, rfl⟩)) ?_
   obtain ⟨a92, n93, c94, hl, hS⟩ := hS
   refine RunT.quiet rfl rfl rfl (quiet_eq (sem_load1 A90 ((Value.slice a92 n93 c94)) rfl TF.agg_92 hl ⟨rfl, rfl⟩)) ?_
   refine RunT.quiet rfl rfl rfl (quiet_eq (sem_lenSl a92 n93 c94 rfl TF.sl_92 ⟨rfl, rfl⟩)) ?_
   obtain ⟨A95, e96, hS⟩ := hS
   refine RunT.quiet rfl rfl rfl (quiet_eq (sem_nilCheck A95 (congrArg Value.pointer e96) ⟨rfl, rfl⟩)) ?_
   refine RunT.quiet rfl rfl rfl (quiet_eq (sem_fieldAddr A95 1 rfl TF.fld_94_1 ⟨rfl, rfl⟩)) ?_
   refine ⟨?_, trivial⟩
   obtain ⟨h97, hst, hS⟩ := hS
   refine OpH.go rfl rfl rfl (sem_store1 (Addr.add A95 1) ((Value.int .i64 ((n93 : Nat)))) h97 rfl rfl rfl TF.sz_3 hst ?_)
   refine ⟨fun hz => Bool.noConfusion hz, ?_⟩
   refine Run.inBlock ?_
   exact Run.of_fin (hS.imp fun h' hS => j15 _ _ ⟨⟨rfl, rfl, rfl, trivial⟩, hS⟩)
  ·have hS := hF hb73; clear hT hF
   refine Run.go rfl rfl rfl (sem_binI .i64 (i39) (1) (.bool false) rfl rfl (binI_eql_f hb73) ?_)
   refine Run.go rfl rfl rfl (sem_assign ((Value.bool false)) rfl ?_)
   refine Run.region_end ?_
   refine Run.condF rfl ?_
   refine Run.seq ?_
   refine Run.ops0 (idx := [0, 1]) rfl ?_
   obtain ⟨hT, hF⟩ := hS
   by_cases hb98 : (i39 : Int) = 2
   ·have hS := hT hb98; clear hT hF
    refine Run.go rfl rfl rfl (sem_binI .i64 (i39) (2) (.bool true) rfl rfl (binI_eql_t hb98) ?_)
    refine Run.go rfl rfl rfl (sem_assign ((Value.bool true)) rfl ?_)
    refine Run.region_end ?_
    refine Run.condT rfl ?_
    refine Run.seq ?_
    refine Run.ops0 (idx := [0, 1, 2, 3, 4]) rfl ?_
    refine Run.go rfl rfl rfl (sem_move ((Value.pointer p1)) rfl ?_)
    obtain ⟨A99, e100, hS⟩ := hS
    refine Run.go rfl rfl rfl (sem_nilCheck A99 (congrArg Value.pointer e100) ?_)
    refine Run.go rfl rfl rfl (sem_fieldAddr A99 1 rfl TF.fld_85_1 ?_)
    obtain ⟨p101, hl, hS⟩ := hS
    refine Run.go rfl rfl rfl (sem_load1 (Addr.add A99 1) ((Value.pointer p101)) rfl TF.agg_57 hl ?_)
    refine Run.go rfl rfl rfl (sem_callL [(Value.pointer p101)] (TF.goes_45) rfl rfl (Spec.mono hS fun v h102 hv => ?_))
    obtain ⟨rfl, hS⟩ := hv
    refine Run.region_end ?_
    refine Run.ops0 (idx := [0, 1, 2, 3, 4]) rfl ?_
    refine Run.go rfl rfl rfl (sem_move ((Value.pointer p1)) rfl ?_)
    obtain ⟨A103, e104, hS⟩ := hS
    refine Run.go rfl rfl rfl (sem_nilCheck A103 (congrArg Value.pointer e104) ?_)
    refine Run.go rfl rfl rfl (sem_fieldAddr A103 2 rfl TF.fld_85_2 ?_)
    obtain ⟨p105, hl, hS⟩ := hS
    refine Run.go rfl rfl rfl (sem_load1 (Addr.add A103 2) ((Value.pointer p105)) rfl TF.agg_83 hl ?_)
    refine Run.go rfl rfl rfl (sem_callL [(Value.pointer p105)] (TF.goes_98) rfl rfl (Spec.mono hS fun v h106 hv => ?_))
    obtain ⟨rfl, hS⟩ := hv
    refine Run.region_end ?_
    refine Run.inBlock ?_
    exact Run.of_fin (hS.imp fun h' hS => j15 _ _ ⟨⟨rfl, rfl, rfl, trivial⟩, hS⟩)
   ·have hS := hF hb98; clear hT hF
    refine Run.go rfl rfl rfl (sem_binI .i64 (i39) (2) (.bool false) rfl rfl (binI_eql_f hb98) ?_)
    refine Run.go rfl rfl rfl (sem_assign ((Value.bool false)) rfl ?_)
    refine Run.region_end ?_
    refine Run.condF rfl ?_
    refine Run.seq ?_
    refine Run.ops0 (idx := [0, 1]) rfl ?_
    obtain ⟨hT, hF⟩ := hS
    by_cases hb107 : (i39 : Int) = 3
    ·have hS := hT hb107; clear hT hF
     refine Run.go rfl rfl rfl (sem_binI .i64 (i39) (3) (.bool true) rfl rfl (binI_eql_t hb107) ?_)
     refine Run.go rfl rfl rfl (sem_assign ((Value.bool true)) rfl ?_)
     refine Run.region_end ?_
     refine Run.condT rfl ?_
     refine Run.seq ?_
     refine Run.drawM (fun h' => h' = h8) [8] ⟨[0, 1, 2, 4, 0, 16, 0, 64, 168], [511, 510, 509, 507, 511, 495, 511, 447, 343], [0, 1, 3, 7, 0, 16, 0, 64, 255], 256⟩ (.q 0 (.q 1 (.q 2 (.q 3 (.q 4 (.q 5 (.q 6 (.q 7 (.x 8 .nil .no))))))))) TF.mixed (by kernel_rfl) rfl ?_
     refine RunT.quiet rfl rfl rfl (quiet_eq (sem_move ((Value.pointer p1)) rfl ⟨rfl, rfl⟩)) ?_
     obtain ⟨A108, e109, hS⟩ := hS
     refine RunT.quiet rfl rfl rfl (quiet_eq (sem_nilCheck A108 (congrArg Value.pointer e109) ⟨rfl, rfl⟩)) ?_
     refine RunT.quiet rfl rfl rfl (quiet_eq (sem_fieldAddr A108 0 rfl TF.fld_85_0 ⟨rfl, rfl⟩)) ?_
     obtain ⟨p110, hl, hS⟩ := hS
     refine RunT.quiet rfl rfl rfl (quiet_eq (sem_load1 A108 ((Value.pointer p110)) rfl TF.agg_61 hl ⟨rfl, rfl⟩)) ?_
     refine RunT.quiet rfl rfl rfl (quiet_eq (sem_fieldAddr ⟨k7, 0, none⟩ 2 rfl TF.fld_73_2 ⟨rfl, rfl⟩)) ?_
     obtain ⟨i111, hl, hS⟩ := hS
     refine RunT.quiet rfl rfl rfl (quiet_eq (sem_load1 ⟨k7, 2, none⟩ ((Value.int .i64 (i111))) rfl TF.agg_3 hl ⟨rfl, rfl⟩)) ?_
     refine RunT.quiet rfl rfl rfl (quiet_eq (sem_fieldAddr ⟨k7, 0, none⟩ 3 rfl TF.fld_73_3 ⟨rfl, rfl⟩)) ?_
     obtain ⟨i112, hl, hS⟩ := hS
     refine RunT.quiet rfl rfl rfl (quiet_eq (sem_load1 ⟨k7, 3, none⟩ ((Value.int .i64 (i112))) rfl TF.agg_3 hl ⟨rfl, rfl⟩)) ?_
     refine ⟨?_, trivial⟩
     refine OpH.go rfl rfl rfl (sem_callL [(Value.pointer p110), (Value.int .i64 (i111)), (Value.int .i64 (i112))] (TF.goes_46) rfl rfl (Spec.mono hS fun v h113 hv => ?_))
     obtain ⟨rfl, hS⟩ := hv
     refine ⟨fun hz => Bool.noConfusion hz, ?_⟩
     refine Run.drawM (fun h' => h' = h113) [11] ⟨[0, 1, 2, 4, 8, 16, 32, 0, 128, 0, 512, 1344], [4095, 4094, 4093, 4091, 4087, 4079, 4063, 4095, 3967, 4095, 3583, 2751], [0, 1, 3, 7, 15, 31, 63, 0, 128, 0, 512, 2047], 2048⟩ (.q 0 (.q 1 (.q 2 (.q 3 (.q 4 (.q 5 (.q 6 (.q 7 (.q 8 (.q 9 (.q 10 (.x 11 .nil .no)))))))))))) TF.mixed (by kernel_rfl) rfl ?_
     refine RunT.quiet rfl rfl rfl (quiet_eq (sem_move ((Value.pointer p1)) rfl ⟨rfl, rfl⟩)) ?_
     obtain ⟨A114, e115, hS⟩ := hS
     refine RunT.quiet rfl rfl rfl (quiet_eq (sem_nilCheck A114 (congrArg Value.pointer e115) ⟨rfl, rfl⟩)) ?_
     refine RunT.quiet rfl rfl rfl (quiet_eq (sem_fieldAddr A114 2 rfl TF.fld_85_2 ⟨rfl, rfl⟩)) ?_
     obtain ⟨p116, hl, hS⟩ := hS
     refine RunT.quiet rfl rfl rfl (quiet_eq (sem_load1 (Addr.add A114 2) ((Value.pointer p116)) rfl TF.agg_83 hl ⟨rfl, rfl⟩)) ?_
     obtain ⟨A117, e118, hS⟩ := hS
     refine RunT.quiet rfl rfl rfl (quiet_eq (sem_nilCheck A117 (congrArg Value.pointer e118) ⟨rfl, rfl⟩)) ?_
     refine RunT.quiet rfl rfl rfl (quiet_eq (sem_fieldAddr A117 0 rfl TF.fld_90_0 ⟨rfl, rfl⟩)) ?_
     obtain ⟨p119, hl, hS⟩ := hS
     refine RunT.quiet rfl rfl rfl (quiet_eq (sem_load1 A117 ((Value.pointer p119)) rfl TF.agg_88 hl ⟨rfl, rfl⟩)) ?_
     refine RunT.quiet rfl rfl rfl (quiet_eq (sem_fieldAddr ⟨k7, 0, none⟩ 2 rfl TF.fld_73_2 ⟨rfl, rfl⟩)) ?_
     obtain ⟨i120, hl, hS⟩ := hS
     refine RunT.quiet rfl rfl rfl (quiet_eq (sem_load1 ⟨k7, 2, none⟩ ((Value.int .i64 (i120))) rfl TF.agg_3 hl ⟨rfl, rfl⟩)) ?_
     refine RunT.quiet rfl rfl rfl (quiet_eq (sem_fieldAddr ⟨k7, 0, none⟩ 3 rfl TF.fld_73_3 ⟨rfl, rfl⟩)) ?_
     obtain ⟨i121, hl, hS⟩ := hS
     refine RunT.quiet rfl rfl rfl (quiet_eq (sem_load1 ⟨k7, 3, none⟩ ((Value.int .i64 (i121))) rfl TF.agg_3 hl ⟨rfl, rfl⟩)) ?_
     refine ⟨?_, trivial⟩
     refine OpH.go rfl rfl rfl (sem_callL [(Value.pointer p119), (Value.int .i64 (i120)), (Value.int .i64 (i121))] (TF.goes_99) rfl rfl (Spec.mono hS fun v h122 hv => ?_))
     obtain ⟨rfl, hS⟩ := hv
     refine ⟨fun hz => Bool.noConfusion hz, ?_⟩
     refine Run.inBlock ?_
     exact Run.of_fin (hS.imp fun h' hS => j15 _ _ ⟨⟨rfl, rfl, rfl, trivial⟩, hS⟩)
    ·have hS := hF hb107; clear hT hF
     refine Run.go rfl rfl rfl (sem_binI .i64 (i39) (3) (.bool false) rfl rfl (binI_eql_f hb107) ?_)
     refine Run.go rfl rfl rfl (sem_assign ((Value.bool false)) rfl ?_)
     refine Run.region_end ?_
     refine Run.condF rfl ?_
     refine Run.seq ?_
     refine Run.ops0 (idx := [0, 1]) rfl ?_
     obtain ⟨hT, hF⟩ := hS
     by_cases hb123 : (i39 : Int) = 4
     ·have hS := hT hb123; clear hT hF
      refine Run.go rfl rfl rfl (sem_binI .i64 (i39) (4) (.bool true) rfl rfl (binI_eql_t hb123) ?_)
      refine Run.go rfl rfl rfl (sem_assign ((Value.bool true)) rfl ?_)
      refine Run.region_end ?_
      refine Run.condT rfl ?_
      refine Run.seq ?_
      refine Run.drawM (fun h' => h' = h8) [7] ⟨[0, 1, 2, 4, 0, 0, 32, 88], [255, 254, 253, 251, 255, 255, 223, 167], [0, 1, 3, 7, 0, 0, 32, 127], 128⟩ (.q 0 (.q 1 (.q 2 (.q 3 (.q 4 (.q 5 (.q 6 (.x 7 .nil .no)))))))) TF.mixed (by kernel_rfl) rfl ?_
      refine RunT.quiet rfl rfl rfl (quiet_eq (sem_move ((Value.pointer p1)) rfl ⟨rfl, rfl⟩)) ?_
      obtain ⟨A124, e125, hS⟩ := hS
      refine RunT.quiet rfl rfl rfl (quiet_eq (sem_nilCheck A124 (congrArg Value.pointer e125) ⟨rfl, rfl⟩)) ?_
      refine RunT.quiet rfl rfl rfl (quiet_eq (sem_fieldAddr A124 0 rfl TF.fld_85_0 ⟨rfl, rfl⟩)) ?_
      obtain ⟨p126, hl, hS⟩ := hS
      refine RunT.quiet rfl rfl rfl (quiet_eq (sem_load1 A124 ((Value.pointer p126)) rfl TF.agg_61 hl ⟨rfl, rfl⟩)) ?_
      refine RunT.quiet rfl rfl rfl (quiet_eq (sem_move ((Value.int .i64 (i14))) rfl ⟨rfl, rfl⟩)) ?_
      refine RunT.quiet rfl rfl rfl (quiet_eq (sem_fieldAddr ⟨k7, 0, none⟩ 1 rfl TF.fld_73_1 ⟨rfl, rfl⟩)) ?_
      obtain ⟨s127, hl, hS⟩ := hS
      refine RunT.quiet rfl rfl rfl (quiet_eq (sem_load1 ⟨k7, 1, none⟩ ((Value.string s127)) rfl TF.agg_9 hl ⟨rfl, rfl⟩)) ?_
      refine ⟨?_, trivial⟩
      refine OpH.go rfl rfl rfl (sem_callL [(Value.pointer p126), (Value.int .i64 (i14)), (Value.string s127)] (TF.goes_42) rfl rfl (Spec.mono hS fun v h128 hv => ?_))
      obtain ⟨i129, rfl, hS⟩ := hv
      refine ⟨fun hz => Bool.noConfusion hz, ?_⟩
      refine Run.drawM (fun h' => h' = h128) [10] ⟨[0, 1, 2, 4, 8, 16, 32, 0, 0, 256, 704], [2047, 2046, 2045, 2043, 2039, 2031, 2015, 2047, 2047, 1791, 1343], [0, 1, 3, 7, 15, 31, 63, 0, 0, 256, 1023], 1024⟩ (.q 0 (.q 1 (.q 2 (.q 3 (.q 4 (.q 5 (.q 6 (.q 7 (.q 8 (.q 9 (.x 10 .nil .no))))))))))) TF.mixed (by kernel_rfl) rfl ?_
      refine RunT.quiet rfl rfl rfl (quiet_eq (sem_move ((Value.pointer p1)) rfl ⟨rfl, rfl⟩)) ?_
      obtain ⟨A130, e131, hS⟩ := hS
      refine RunT.quiet rfl rfl rfl (quiet_eq (sem_nilCheck A130 (congrArg Value.pointer e131) ⟨rfl, rfl⟩)) ?_
      refine RunT.quiet rfl rfl rfl (quiet_eq (sem_fieldAddr A130 2 rfl TF.fld_85_2 ⟨rfl, rfl⟩)) ?_
      obtain ⟨p132, hl, hS⟩ := hS
      refine RunT.quiet rfl rfl rfl (quiet_eq (sem_load1 (Addr.add A130 2) ((Value.pointer p132)) rfl TF.agg_83 hl ⟨rfl, rfl⟩)) ?_
      obtain ⟨A133, e134, hS⟩ := hS
      refine RunT.quiet rfl rfl rfl (quiet_eq (sem_nilCheck A133 (congrArg Value.pointer e134) ⟨rfl, rfl⟩)) ?_
      refine RunT.quiet rfl rfl rfl (quiet_eq (sem_fieldAddr A133 0 rfl TF.fld_90_0 ⟨rfl, rfl⟩)) ?_
      obtain ⟨p135, hl, hS⟩ := hS
      refine RunT.quiet rfl rfl rfl (quiet_eq (sem_load1 A133 ((Value.pointer p135)) rfl TF.agg_88 hl ⟨rfl, rfl⟩)) ?_
      refine RunT.quiet rfl rfl rfl (quiet_eq (sem_move ((Value.int .i64 (i14))) rfl ⟨rfl, rfl⟩)) ?_
      refine RunT.quiet rfl rfl rfl (quiet_eq (sem_fieldAddr ⟨k7, 0, none⟩ 1 rfl TF.fld_73_1 ⟨rfl, rfl⟩)) ?_
      obtain ⟨s136, hl, hS⟩ := hS
      refine RunT.quiet rfl rfl rfl (quiet_eq (sem_load1 ⟨k7, 1, none⟩ ((Value.string s136)) rfl TF.agg_9 hl ⟨rfl, rfl⟩)) ?_
      refine ⟨?_, trivial⟩
      refine OpH.go rfl rfl rfl (sem_callL [(Value.pointer p135), (Value.int .i64 (i14)), (Value.string s136)] (TF.goes_100) rfl rfl (Spec.mono hS fun v h137 hv => ?_))
      obtain ⟨i138, rfl, hS⟩ := hv
      refine ⟨fun hz => Bool.noConfusion hz, ?_⟩
      refine Run.inBlock ?_
      exact Run.of_fin (hS.imp fun h' hS => j15 _ _ ⟨⟨rfl, rfl, rfl, trivial⟩, hS⟩)
     ·have hS := hF hb123; clear hT hF
      refine Run.go rfl rfl rfl (sem_binI .i64 (i39) (4) (.bool false) rfl rfl (binI_eql_f hb123) ?_)
      refine Run.go rfl rfl rfl (sem_assign ((Value.bool false)) rfl ?_)
      refine Run.region_end ?_
      refine Run.condF rfl ?_
      refine Run.skip ?_
      refine Run.inBlock ?_
      exact Run.of_fin (hS.imp fun h' hS => j15 _ _ ⟨⟨rfl, rfl, rfl, trivial⟩, hS⟩)
set_option maxHeartbeats 4000000 in
theorem C_wal_Log_Size.of {B : RO} {p1 : Option Addr} {h : Heap} {Q : Int → Heap → Prop} (hS : S_wal_Log_Size B p1 h Q) : C_wal_Log_Size B p1 h Q := by
 unfold S_wal_Log_Size at hS
 unfold C_wal_Log_Size
 refine Spec.of_run Try.func53 (N := 9) (rs := [ResultVar.tmp 2]) rfl rfl rfl (Nat.le_of_ble_eq_true rfl) ?_
 refine Run.seq ?_
 refine Run.ops0 (idx := [0]) rfl ?_
 refine Run.go rfl rfl rfl (sem_assign ((Value.int .i64 (0))) rfl ?_)
 refine Run.region_end ?_
 refine Run.seq ?_
 refine Run.seq ?_
 refine Run.ops0 (idx := [0, 1]) rfl ?_
 refine Run.go rfl rfl rfl (sem_move ((Value.pointer p1)) rfl ?_)
 obtain ⟨hT, hF⟩ := hS
 by_cases hb3 : p1 = none
 ·have hS := hT hb3; clear hT hF
  refine Run.go rfl rfl rfl (sem_ptrNilT p1 (.inl rfl) true rfl rfl TF.ptr_57 hb3 rfl ?_)
  refine Run.region_end ?_
  refine Run.condT rfl ?_
  refine Run.seq ?_
  refine Run.ops0 (idx := [0]) rfl ?_
  refine Run.go rfl rfl rfl (sem_assign ((Value.int .i64 (0))) rfl ?_)
  refine Run.region_end ?_
  refine Run.ret ⟨.inr rfl, ?_⟩
  exact hS.imp fun h' hq => ⟨(0), rfl, hq⟩
 ·have hS := hF hb3; clear hT hF
  refine Run.go rfl rfl rfl (sem_ptrNilF p1 (.inl rfl) false rfl rfl TF.ptr_57 hb3 rfl ?_)
  refine Run.region_end ?_
  refine Run.condF rfl ?_
  refine Run.skip ?_
  refine Run.seq ?_
  refine Run.ops0 (idx := [0, 1, 2, 3, 4]) rfl ?_
  refine Run.go rfl rfl rfl (sem_move ((Value.pointer p1)) rfl ?_)
  obtain ⟨A4, e5, hS⟩ := hS
  refine Run.go rfl rfl rfl (sem_nilCheck A4 (congrArg Value.pointer e5) ?_)
  refine Run.go rfl rfl rfl (sem_fieldAddr A4 2 rfl TF.fld_171_2 ?_)
  obtain ⟨i6, hl, hS⟩ := hS
  refine Run.go rfl rfl rfl (sem_load1 (Addr.add A4 2) ((Value.int .i64 (i6))) rfl TF.agg_3 hl ?_)
  refine Run.go rfl rfl rfl (sem_assign ((Value.int .i64 (i6))) rfl ?_)
  refine Run.region_end ?_
  refine Run.ret ⟨.inr rfl, ?_⟩
  exact hS.imp fun h' hq => ⟨(i6), rfl, hq⟩
set_option maxHeartbeats 4000000 in
theorem C_wal_Log_Torn.of {B : RO} {p1 : Option Addr} {h : Heap} {Q : Bool → Heap → Prop} (hS : S_wal_Log_Torn B p1 h Q) : C_wal_Log_Torn B p1 h Q := by
 unfold S_wal_Log_Torn at hS
 unfold C_wal_Log_Torn
 refine Spec.of_run Try.func54 (N := 11) (rs := [ResultVar.tmp 2]) rfl rfl rfl (Nat.le_of_ble_eq_true rfl) ?_
 refine Run.seq ?_
 refine Run.ops0 (idx := [0]) rfl ?_
 refine Run.go rfl rfl rfl (sem_assign ((Value.bool false)) rfl ?_)
 refine Run.region_end ?_
 refine Run.seq ?_
 refine Run.ops0 (idx := [0, 1, 2, 3, 4, 5, 6, 7, 8]) rfl ?_
 refine Run.go rfl rfl rfl (sem_move ((Value.pointer p1)) rfl ?_)
 obtain ⟨hT, hF⟩ := hS
 by_cases hb3 : p1 = none
 ·have hS := hT hb3; clear hT hF
  refine Run.go rfl rfl rfl (sem_ptrNilT p1 (.inr rfl) false rfl rfl TF.ptr_57 hb3 rfl ?_)
  refine Run.go rfl rfl rfl (sem_move ((Value.bool false)) rfl ?_)
  refine Run.no rfl rfl rfl ?_
  refine Run.no rfl rfl rfl ?_
  refine Run.no rfl rfl rfl ?_
  refine Run.no rfl rfl rfl ?_
  refine Run.go rfl rfl rfl (sem_pick false ((Value.bool false)) rfl rfl ?_)
  refine Run.go rfl rfl rfl (sem_assign ((Value.bool false)) rfl ?_)
  refine Run.region_end ?_
  refine Run.ret ⟨.inr rfl, ?_⟩
  exact hS.imp fun h' hq => ⟨(false), rfl, hq⟩
 ·have hS := hF hb3; clear hT hF
  refine Run.go rfl rfl rfl (sem_ptrNilF p1 (.inr rfl) true rfl rfl TF.ptr_57 hb3 rfl ?_)
  refine Run.go rfl rfl rfl (sem_move ((Value.bool true)) rfl ?_)
  refine Run.go rfl rfl rfl (sem_move ((Value.pointer p1)) rfl ?_)
  obtain ⟨A4, e5, hS⟩ := hS
  refine Run.go rfl rfl rfl (sem_nilCheck A4 (congrArg Value.pointer e5) ?_)
  refine Run.go rfl rfl rfl (sem_fieldAddr A4 3 rfl TF.fld_171_3 ?_)
  obtain ⟨b6, hl, hS⟩ := hS
  refine Run.go rfl rfl rfl (sem_load1 (Addr.add A4 3) ((Value.bool b6)) rfl TF.agg_4 hl ?_)
  refine Run.go rfl rfl rfl (sem_pick true ((Value.bool b6)) rfl rfl ?_)
  refine Run.go rfl rfl rfl (sem_assign ((Value.bool b6)) rfl ?_)
  refine Run.region_end ?_
  refine Run.ret ⟨.inr rfl, ?_⟩
  exact hS.imp fun h' hq => ⟨(b6), rfl, hq⟩
set_option maxHeartbeats 4000000 in
theorem C_wal_Log_Area.of {B : RO} {p1 : Option Addr} {h : Heap} {Q : Int → Heap → Prop} (hS : S_wal_Log_Area B p1 h Q) : C_wal_Log_Area B p1 h Q := by
 unfold S_wal_Log_Area at hS
 unfold C_wal_Log_Area
 refine Spec.of_run Try.func55 (N := 9) (rs := [ResultVar.tmp 2]) rfl rfl rfl (Nat.le_of_ble_eq_true rfl) ?_
 refine Run.seq ?_
 refine Run.ops0 (idx := [0]) rfl ?_
 refine Run.go rfl rfl rfl (sem_assign ((Value.int .i64 (0))) rfl ?_)
 refine Run.region_end ?_
 refine Run.seq ?_
 refine Run.seq ?_
 refine Run.ops0 (idx := [0, 1]) rfl ?_
 refine Run.go rfl rfl rfl (sem_move ((Value.pointer p1)) rfl ?_)
 obtain ⟨hT, hF⟩ := hS
 by_cases hb3 : p1 = none
 ·have hS := hT hb3; clear hT hF
  refine Run.go rfl rfl rfl (sem_ptrNilT p1 (.inl rfl) true rfl rfl TF.ptr_57 hb3 rfl ?_)
  refine Run.region_end ?_
  refine Run.condT rfl ?_
  refine Run.seq ?_
  refine Run.ops0 (idx := [0]) rfl ?_
  refine Run.go rfl rfl rfl (sem_assign ((Value.int .i64 (0))) rfl ?_)
  refine Run.region_end ?_
  refine Run.ret ⟨.inr rfl, ?_⟩
  exact hS.imp fun h' hq => ⟨(0), rfl, hq⟩
 ·have hS := hF hb3; clear hT hF
  refine Run.go rfl rfl rfl (sem_ptrNilF p1 (.inl rfl) false rfl rfl TF.ptr_57 hb3 rfl ?_)
  refine Run.region_end ?_
  refine Run.condF rfl ?_
  refine Run.skip ?_
  refine Run.seq ?_
  refine Run.ops0 (idx := [0, 1, 2, 3, 4]) rfl ?_
  refine Run.go rfl rfl rfl (sem_move ((Value.pointer p1)) rfl ?_)
  obtain ⟨A4, e5, hS⟩ := hS
  refine Run.go rfl rfl rfl (sem_nilCheck A4 (congrArg Value.pointer e5) ?_)
  refine Run.go rfl rfl rfl (sem_fieldAddr A4 1 rfl TF.fld_171_1 ?_)
  obtain ⟨i6, hl, hS⟩ := hS
  refine Run.go rfl rfl rfl (sem_load1 (Addr.add A4 1) ((Value.int .i64 (i6))) rfl TF.agg_3 hl ?_)
  refine Run.go rfl rfl rfl (sem_assign ((Value.int .i64 (i6))) rfl ?_)
  refine Run.region_end ?_
  refine Run.ret ⟨.inr rfl, ?_⟩
  exact hS.imp fun h' hq => ⟨(i6), rfl, hq⟩
set_option maxHeartbeats 4000000 in
theorem C_countermandref04_Log_Text.of {B : RO} {p1 : Option Addr} {h : Heap} {Q : ByteArray → Heap → Prop} (hS : S_countermandref04_Log_Text B p1 h Q) : C_countermandref04_Log_Text B p1 h Q := by
 unfold S_countermandref04_Log_Text at hS
 unfold C_countermandref04_Log_Text
 refine Spec.of_run Try.func56 (N := 20) (rs := [ResultVar.tmp 2]) rfl rfl rfl (Nat.le_of_ble_eq_true rfl) ?_
 refine Run.seq ?_
 refine Run.ops0 (idx := [0]) rfl ?_
 refine Run.go rfl rfl rfl (sem_assign ((Value.string (ByteArray.mk #[]))) rfl ?_)
 refine Run.region_end ?_
 refine Run.seq ?_
 skip
 obtain ⟨A4, e5, hS⟩ := hS
 skip
 skip
 obtain ⟨p8, hl, hS⟩ := hS
 have f9 := hl
 skip
 obtain ⟨A11, e12, hS⟩ := hS
 skip
 skip
 obtain ⟨i15, hl, hS⟩ := hS
 have f16 := hl
 skip
 obtain ⟨A18, e19, hS⟩ := hS
 skip
 skip
 obtain ⟨p22, hl, hS⟩ := hS
 have f23 := hl
 obtain ⟨A24, e25, hS⟩ := hS
 skip
 skip
 obtain ⟨a28, n29, c30, hl, hS⟩ := hS
 have f31 := hl
 skip
 refine Run.drawM (fun h' => cellH B h' A4 = some (Value.pointer p8) ∧ cellH B h' (Addr.add A11 1) = some (Value.int .i64 (i15)) ∧ cellH B h' A18 = some (Value.pointer p22) ∧ cellH B h' A24 = some (Value.slice a28 n29 c30) ∧ True) [] ⟨[0, 1, 2, 4, 0, 16, 32, 64, 0, 256, 512, 1024, 2048, 4096, 8192, 16384, 32904, 131071], [262143, 262142, 262141, 262139, 262143, 262127, 262111, 262079, 262143, 261887, 261631, 261119, 260095, 258047, 253951, 245759, 229239, 196607], [0, 0, 0, 0, 0, 0, 0, 0, 0, 0, 0, 0, 0, 0, 0, 0, 0, 0], 0⟩ (.q 0 (.q 1 (.q 2 (.q 3 (.q 4 (.q 5 (.q 6 (.q 7 (.q 8 (.q 9 (.q 10 (.q 11 (.q 12 (.q 13 (.q 14 (.q 15 (.x 16 (.q 17 .nil) .no))))))))))))))))) TF.mixed (by kernel_rfl) ⟨f9, f16, f23, f31, trivial⟩ ?_
 refine RunT.quiet rfl rfl rfl (fun h' hC => sem_move ((Value.pointer p1)) rfl ⟨rfl, rfl⟩) ?_
 refine RunT.quiet rfl rfl rfl (fun h' hC => sem_nilCheck A4 (congrArg Value.pointer e5) ⟨rfl, rfl⟩) ?_
 refine RunT.quiet rfl rfl rfl (fun h' hC => sem_fieldAddr A4 0 rfl TF.fld_90_0 ⟨rfl, rfl⟩) ?_
 refine RunT.quiet rfl rfl rfl (fun h' hC => sem_load1 A4 ((Value.pointer p8)) rfl TF.agg_88 hC.1 ⟨rfl, rfl⟩) ?_
 refine RunT.quiet rfl rfl rfl (fun h' hC => sem_move ((Value.pointer p1)) rfl ⟨rfl, rfl⟩) ?_
 refine RunT.quiet rfl rfl rfl (fun h' hC => sem_nilCheck A11 (congrArg Value.pointer e12) ⟨rfl, rfl⟩) ?_
 refine RunT.quiet rfl rfl rfl (fun h' hC => sem_fieldAddr A11 1 rfl TF.fld_90_1 ⟨rfl, rfl⟩) ?_
 refine RunT.quiet rfl rfl rfl (fun h' hC => sem_load1 (Addr.add A11 1) ((Value.int .i64 (i15))) rfl TF.agg_3 hC.2.1 ⟨rfl, rfl⟩) ?_
 refine RunT.quiet rfl rfl rfl (fun h' hC => sem_move ((Value.pointer p1)) rfl ⟨rfl, rfl⟩) ?_
 refine RunT.quiet rfl rfl rfl (fun h' hC => sem_nilCheck A18 (congrArg Value.pointer e19) ⟨rfl, rfl⟩) ?_
 refine RunT.quiet rfl rfl rfl (fun h' hC => sem_fieldAddr A18 0 rfl TF.fld_90_0 ⟨rfl, rfl⟩) ?_
 refine RunT.quiet rfl rfl rfl (fun h' hC => sem_load1 A18 ((Value.pointer p22)) rfl TF.agg_88 hC.2.2.1 ⟨rfl, rfl⟩) ?_
 refine RunT.quiet rfl rfl rfl (fun h' hC => sem_nilCheck A24 (congrArg Value.pointer e25) ⟨rfl, rfl⟩) ?_
 refine RunT.quiet rfl rfl rfl (fun h' hC => sem_fieldAddr A24 0 rfl TF.fld_94_0 ⟨rfl, rfl⟩) ?_
 refine RunT.quiet rfl rfl rfl (fun h' hC => sem_load1 A24 ((Value.slice a28 n29 c30)) rfl TF.agg_92 hC.2.2.2.1 ⟨rfl, rfl⟩) ?_
 refine RunT.quiet rfl rfl rfl (fun h' hC => sem_lenSl a28 n29 c30 rfl TF.sl_92 ⟨rfl, rfl⟩) ?_
 refine ⟨?_, trivial⟩
 refine OpH.go rfl rfl rfl (sem_callL [(Value.pointer p8), (Value.int .i64 (i15)), (Value.int .i64 ((n29 : Nat)))] (TF.goes_58) rfl rfl (Spec.mono hS fun v h33 hv => ?_))
 obtain ⟨s34, rfl, hS⟩ := hv
 obtain ⟨g35, g36, g37, g38, hS⟩ := hS
 refine ⟨fun _ => ⟨g35, g36, g37, g38, trivial⟩, ?_⟩
 refine RunT.quiet rfl rfl rfl (fun h' hC => sem_assign ((Value.string s34)) rfl ⟨rfl, rfl⟩) ?_
 refine Run.ret ⟨.inr rfl, ?_⟩
 exact hS.imp fun h' hq => ⟨s34, rfl, hq⟩
set_option maxHeartbeats 4000000 in
theorem C_countermandref02_All.of {B : RO} {s1 : ByteArray} {h : Heap} {Q : Option Addr → Nat → Nat → Heap → Prop} (hS : S_countermandref02_All B s1 h Q) : C_countermandref02_All B s1 h Q := by
 unfold S_countermandref02_All at hS
 unfold C_countermandref02_All
 refine Spec.of_run Try.func57 (N := 26) (rs := [ResultVar.tmp 2]) rfl rfl rfl (Nat.le_of_ble_eq_true rfl) ?_
 refine Run.seq ?_
 refine Run.ops0 (idx := [0]) rfl ?_
 refine Run.go rfl rfl rfl (sem_assign ((Value.slice none 0 0)) rfl ?_)
 refine Run.region_end ?_
 refine Run.seq ?_
 refine Run.ops0 (idx := [0]) rfl ?_
 refine Run.go rfl rfl rfl (sem_assign ((Value.slice none 0 0)) rfl ?_)
 refine Run.region_end ?_
 refine Run.seq ?_
 refine Run.ops0 (idx := [0, 1, 2, 3, 4, 5, 6]) rfl ?_
 refine Run.go rfl rfl rfl (sem_move ((Value.string s1)) rfl ?_)
 refine Run.go rfl rfl rfl (sem_callL [(Value.string s1)] (TF.goes_101) rfl rfl (Spec.mono hS fun v h5 hv => ?_))
 obtain ⟨s6, i7, rfl, hS⟩ := hv
 refine Run.go rfl rfl rfl (sem_move ((Value.tuple #[(Value.string s6), (Value.int .i64 (i7))])) rfl ?_)
 refine Run.go rfl rfl rfl (sem_extract #[(Value.string s6), (Value.int .i64 (i7))] ((Value.string s6)) rfl rfl ?_)
 refine Run.go rfl rfl rfl (sem_extract #[(Value.string s6), (Value.int .i64 (i7))] ((Value.int .i64 (i7))) rfl rfl ?_)
 refine Run.go rfl rfl rfl (sem_assign ((Value.string s6)) rfl ?_)
 refine Run.go rfl rfl rfl (sem_assign ((Value.int .i64 (i7))) rfl ?_)
 refine Run.region_end ?_
 refine Run.seq ?_
 refine Run.block ?_
 obtain ⟨J18, m16, h0, hS⟩ := hS
 refine Run.of_fin (h0.imp fun h' h0 => ?_)
 refine Run.loop (σ := ByteArray × (Option Addr) × Nat × Nat × ByteArray × Int × Nat) (fun x e h => J18 x.1 x.2.1 x.2.2.1 x.2.2.2.1 x.2.2.2.2.1 x.2.2.2.2.2.1 x.2.2.2.2.2.2 h ∧ Agree [(0, (Value.string x.1)), (3, (Value.slice x.2.1 x.2.2.1 x.2.2.2.1)), (4, (Value.string x.2.2.2.2.1)), (5, (Value.int .i64 (x.2.2.2.2.2.1)))] e) (fun x => x.2.2.2.2.2.2) (s1, none, 0, 0, s6, (i7), m16) ⟨h0, ⟨rfl, rfl, rfl, rfl, trivial⟩⟩ ?_; clear h0
 rintro ⟨s8, a9, n10, c11, s12, i13, m15⟩ e h14 ⟨hJ, hag⟩ ih17
 have hS := hS s8 a9 n10 c11 s12 i13 m15 h14 hJ; clear hJ
 refine Run.env hag ?_; clear hag
 refine Run.seq ?_
 refine Run.seq ?_
 refine Run.ops0 (idx := [0, 1]) rfl ?_
 refine Run.go rfl rfl rfl (sem_move ((Value.int .i64 (i13))) rfl ?_)
 obtain ⟨hT, hF⟩ := hS
 by_cases hb19 : (i13 : Int) > (0)
 ·have hS := hT hb19; clear hT hF
  refine Run.go rfl rfl rfl (sem_binI .i64 (i13) (0) (.bool true) rfl rfl (binI_gtr_t hb19) ?_)
  refine Run.region_end ?_
  refine Run.condT rfl ?_
  refine Run.skip ?_
  refine Run.block ?_
  refine Run.seq ?_
  refine Run.ops0 (idx := [0, 1, 2, 3, 4]) rfl ?_
  refine Run.go rfl rfl rfl (sem_move ((Value.slice a9 n10 c11)) rfl ?_)
  refine Run.go rfl rfl rfl (sem_move ((Value.string s12)) rfl ?_)
  refine Run.go rfl rfl rfl (sem_buildSliceL [(0, (Value.string s12))] [(Value.string s12)] TF.slc_55 TF.zero_9 rfl (by decide) (by decide) rfl rfl (fun k20 hb1 hb2 h21 hb3 => ?_))
  have hS := hS k20 hb1 hb2 h21 hb3
  refine Run.go rfl rfl rfl (sem_appendL [(Value.slice a9 n10 c11), (Value.slice (some ⟨k20, 0, none⟩) 1 1)] rfl (semH_mono (fun v h22 hv => ?_) hS))
  obtain ⟨a23, n24, c25, rfl, hS⟩ := hv
  refine Run.go rfl rfl rfl (sem_assign ((Value.slice a23 n24 c25)) rfl ?_)
  refine Run.region_end ?_
  refine Run.seq ?_
  refine Run.ops0 (idx := [0, 1, 2, 3]) rfl ?_
  refine Run.go rfl rfl rfl (sem_move ((Value.string s8)) rfl ?_)
  refine Run.go rfl rfl rfl (sem_move ((Value.int .i64 (i13))) rfl ?_)
  obtain ⟨hi0, hi1, hi2, hS⟩ := hS
  refine Run.go rfl rfl rfl (sem_sliceStrI s8 (i13) ((ByteArray.size s8 : Nat)) rfl TF.isStr_9 ⟨_, rfl⟩ rfl hi0 hi1 hi2 ?_)
  refine Run.go rfl rfl rfl (sem_assign ((Value.string (ByteArray.extract s8 (Int.toNat (i13)) (Int.toNat ((ByteArray.size s8 : Nat)))))) rfl ?_)
  refine Run.region_end ?_
  refine Run.ops0 (idx := [0, 1, 2, 3, 4, 5, 6]) rfl ?_
  refine Run.go rfl rfl rfl (sem_move ((Value.string (ByteArray.extract s8 (Int.toNat (i13)) (Int.toNat ((ByteArray.size s8 : Nat)))))) rfl ?_)
  refine Run.go rfl rfl rfl (sem_callL [(Value.string (ByteArray.extract s8 (Int.toNat (i13)) (Int.toNat ((ByteArray.size s8 : Nat)))))] (TF.goes_101) rfl rfl (Spec.mono hS fun v h26 hv => ?_))
  obtain ⟨s27, i28, rfl, hS⟩ := hv
  refine Run.go rfl rfl rfl (sem_move ((Value.tuple #[(Value.string s27), (Value.int .i64 (i28))])) rfl ?_)
  refine Run.go rfl rfl rfl (sem_extract #[(Value.string s27), (Value.int .i64 (i28))] ((Value.string s27)) rfl rfl ?_)
  refine Run.go rfl rfl rfl (sem_extract #[(Value.string s27), (Value.int .i64 (i28))] ((Value.int .i64 (i28))) rfl rfl ?_)
  refine Run.go rfl rfl rfl (sem_assign ((Value.string s27)) rfl ?_)
  refine Run.go rfl rfl rfl (sem_assign ((Value.int .i64 (i28))) rfl ?_)
  refine Run.region_end ?_
  refine Run.inBlock ?_
  exact Run.of_fin (hS.imp fun h' ⟨m', hm, hS⟩ => ih17 ((ByteArray.extract s8 (Int.toNat (i13)) (Int.toNat ((ByteArray.size s8 : Nat)))), a23, n24, c25, s27, (i28), m') _ _ ⟨hS, ⟨rfl, rfl, rfl, rfl, trivial⟩⟩ hm)
 ·have hS := hF hb19; clear hT hF
  refine Run.go rfl rfl rfl (sem_binI .i64 (i13) (0) (.bool false) rfl rfl (binI_gtr_f hb19) ?_)
  refine Run.region_end ?_
  refine Run.condF rfl ?_
  refine Run.exit rfl ?_
  refine Run.seq ?_
  refine Run.ops0 (idx := [0, 1]) rfl ?_
  refine Run.go rfl rfl rfl (sem_move ((Value.slice a9 n10 c11)) rfl ?_)
  refine Run.go rfl rfl rfl (sem_assign ((Value.slice a9 n10 c11)) rfl ?_)
  refine Run.region_end ?_
  refine Run.ret ⟨.inr rfl, ?_⟩
  exact hS.imp fun h' hq => ⟨a9, n10, c11, rfl, hq⟩
set_option maxHeartbeats 4000000 in
theorem C_countermandref03_Disk_Text.of {B : RO} {p1 : Option Addr} {i2 : Int} {i3 : Int} {h : Heap} {Q : ByteArray → Heap → Prop} (hS : S_countermandref03_Disk_Text B p1 i2 i3 h Q) : C_countermandref03_Disk_Text B p1 i2 i3 h Q := by
 unfold S_countermandref03_Disk_Text at hS
 unfold C_countermandref03_Disk_Text
 refine Spec.of_run Try.func58 (N := 43) (rs := [ResultVar.tmp 6]) rfl rfl rfl (Nat.le_of_ble_eq_true rfl) ?_
 refine Run.seq ?_
 refine Run.ops0 (idx := [0]) rfl ?_
 refine Run.go rfl rfl rfl (sem_assign ((Value.string (ByteArray.mk #[]))) rfl ?_)
 refine Run.region_end ?_
 refine Run.seq ?_
 refine Run.ops0 (idx := [0]) rfl ?_
 refine Run.go rfl rfl rfl (sem_assign ((Value.string (ByteArray.mk #[]))) rfl ?_)
 refine Run.region_end ?_
 refine Run.seq ?_
 refine Run.seq ?_
 refine Run.ops0 (idx := [0]) rfl ?_
 refine Run.go rfl rfl rfl (sem_assign ((Value.int .i64 (0))) rfl ?_)
 refine Run.region_end ?_
 refine Run.block ?_
 obtain ⟨J11, m9, h0, hS⟩ := hS
 refine Run.of_fin (h0.imp fun h' h0 => ?_)
 refine Run.loop (σ := ByteArray × Int × Nat) (fun x e h => J11 x.1 x.2.1 x.2.2 h ∧ Agree [(0, (Value.pointer p1)), (1, (Value.int .i64 (i2))), (2, (Value.int .i64 (i3))), (7, (Value.string x.1)), (8, (Value.int .i64 (x.2.1)))] e) (fun x => x.2.2) ((ByteArray.mk #[]), (0), m9) ⟨h0, ⟨rfl, rfl, rfl, rfl, rfl, trivial⟩⟩ ?_; clear h0
 rintro ⟨s5, i6, m8⟩ e h7 ⟨hJ, hag⟩ ih10
 have hS := hS s5 i6 m8 h7 hJ; clear hJ
 refine Run.env hag ?_; clear hag
 refine Run.seq ?_
 refine Run.seq ?_
 refine Run.ops0 (idx := [0, 1, 2]) rfl ?_
 refine Run.go rfl rfl rfl (sem_move ((Value.int .i64 (i6))) rfl ?_)
 refine Run.go rfl rfl rfl (sem_move ((Value.int .i64 (i3))) rfl ?_)
 obtain ⟨hT, hF⟩ := hS
 by_cases hb12 : (i6 : Int) < (i3)
 ·have hS := hT hb12; clear hT hF
  refine Run.go rfl rfl rfl (sem_binI .i64 (i6) (i3) (.bool true) rfl rfl (binI_lss_t hb12) ?_)
  refine Run.region_end ?_
  refine Run.condT rfl ?_
  refine Run.skip ?_
  refine Run.seq ?_
  refine Run.block ?_
  refine Run.seq ?_
  refine Run.ops0 (idx := [0, 1, 2, 3, 4, 5, 6, 7, 8, 9]) rfl ?_
  refine Run.go rfl rfl rfl (sem_move ((Value.pointer p1)) rfl ?_)
  obtain ⟨A13, e14, hS⟩ := hS
  refine Run.go rfl rfl rfl (sem_nilCheck A13 (congrArg Value.pointer e14) ?_)
  refine Run.go rfl rfl rfl (sem_fieldAddr A13 0 rfl TF.fld_94_0 ?_)
  refine Run.ldSl hS fun a15 n16 c17 h18 hl hS => ?_
  refine Run.go rfl rfl rfl (sem_load1 A13 ((Value.slice a15 n16 c17)) rfl TF.agg_92 hl ?_)
  refine Run.go rfl rfl rfl (sem_move ((Value.int .i64 (i6))) rfl ?_)
  obtain ⟨A19, e20, hi0, hi1, hS⟩ := hS
  refine Run.go rfl rfl rfl (sem_indexAddrS A19 n16 c17 .i64 (i6) (congrArg (fun a => Value.slice a n16 c17) e20) rfl TF.slc_92 hi0 hi1 ?_)
  refine Run.go rfl rfl rfl (sem_fieldAddr (Addr.add A19 (Int.toNat (i6) * 3)) 0 rfl TF.fld_189_0 ?_)
  obtain ⟨i21, hl, hS⟩ := hS
  refine Run.go rfl rfl rfl (sem_load1 (Addr.add A19 (Int.toNat (i6) * 3)) ((Value.int .i64 (i21))) rfl TF.agg_3 hl ?_)
  refine Run.go rfl rfl rfl (sem_move ((Value.int .i64 (i2))) rfl ?_)
  obtain ⟨hT, hF⟩ := hS
  by_cases hb22 : (i21 : Int) = i2
  ·have hS := hT hb22; clear hT hF
   refine Run.go rfl rfl rfl (sem_binI .i64 (i21) (i2) (.bool true) rfl rfl (binI_eql_t hb22) ?_)
   refine Run.region_end ?_
   refine Run.condT rfl ?_
   refine Run.seq ?_
   refine Run.ops0 (idx := [0, 1, 2, 3, 4, 5, 6, 7]) rfl ?_
   refine Run.go rfl rfl rfl (sem_move ((Value.pointer p1)) rfl ?_)
   obtain ⟨A23, e24, hS⟩ := hS
   refine Run.go rfl rfl rfl (sem_nilCheck A23 (congrArg Value.pointer e24) ?_)
   refine Run.go rfl rfl rfl (sem_fieldAddr A23 0 rfl TF.fld_94_0 ?_)
   refine Run.ldSl hS fun a25 n26 c27 h28 hl hS => ?_
   refine Run.go rfl rfl rfl (sem_load1 A23 ((Value.slice a25 n26 c27)) rfl TF.agg_92 hl ?_)
   refine Run.go rfl rfl rfl (sem_move ((Value.int .i64 (i6))) rfl ?_)
   obtain ⟨A29, e30, hi0, hi1, hS⟩ := hS
   refine Run.go rfl rfl rfl (sem_indexAddrS A29 n26 c27 .i64 (i6) (congrArg (fun a => Value.slice a n26 c27) e30) rfl TF.slc_92 hi0 hi1 ?_)
   refine Run.go rfl rfl rfl (sem_fieldAddr (Addr.add A29 (Int.toNat (i6) * 3)) 1 rfl TF.fld_189_1 ?_)
   obtain ⟨b31, hl, hS⟩ := hS
   obtain ⟨hT, hF⟩ := hS
   cases b31
   ·have hS := hF rfl; clear hT hF
    refine Run.go rfl rfl rfl (sem_load1 (Addr.add (Addr.add A29 (Int.toNat (i6) * 3)) 1) (.bool false) rfl TF.agg_4 hl ?_)
    refine Run.region_end ?_
    refine Run.condF rfl ?_
    refine Run.ops0 (idx := [0, 1, 2, 3, 4, 5, 6, 7, 8, 9, 10]) rfl ?_
    refine Run.go rfl rfl rfl (sem_move ((Value.string s5)) rfl ?_)
    refine Run.go rfl rfl rfl (sem_move ((Value.pointer p1)) rfl ?_)
    obtain ⟨A32, e33, hS⟩ := hS
    refine Run.go rfl rfl rfl (sem_nilCheck A32 (congrArg Value.pointer e33) ?_)
    refine Run.go rfl rfl rfl (sem_fieldAddr A32 0 rfl TF.fld_94_0 ?_)
    refine Run.ldSl hS fun a34 n35 c36 h37 hl hS => ?_
    refine Run.go rfl rfl rfl (sem_load1 A32 ((Value.slice a34 n35 c36)) rfl TF.agg_92 hl ?_)
    refine Run.go rfl rfl rfl (sem_move ((Value.int .i64 (i6))) rfl ?_)
    obtain ⟨A38, e39, hi0, hi1, hS⟩ := hS
    refine Run.go rfl rfl rfl (sem_indexAddrS A38 n35 c36 .i64 (i6) (congrArg (fun a => Value.slice a n35 c36) e39) rfl TF.slc_92 hi0 hi1 ?_)
    refine Run.go rfl rfl rfl (sem_fieldAddr (Addr.add A38 (Int.toNat (i6) * 3)) 2 rfl TF.fld_189_2 ?_)
    obtain ⟨s40, hl, hS⟩ := hS
    refine Run.go rfl rfl rfl (sem_load1 (Addr.add (Addr.add A38 (Int.toNat (i6) * 3)) 2) ((Value.string s40)) rfl TF.agg_9 hl ?_)
    obtain ⟨hi0, hS⟩ := hS
    refine Run.go rfl rfl rfl (sem_strAdd s5 s40 rfl rfl hi0 ?_)
    refine Run.go rfl rfl rfl (sem_assign ((Value.string (s5 ++ s40))) rfl ?_)
    refine Run.region_end ?_
    refine Run.inBlock ?_
    refine Run.ops0 (idx := [0, 1, 2]) rfl ?_
    refine Run.go rfl rfl rfl (sem_move ((Value.int .i64 (i6))) rfl ?_)
    refine Run.go rfl rfl rfl (sem_binI .i64 (i6) (1) ((Value.int .i64 (IntKind.wrap .i64 ((i6) + (1))))) rfl rfl rfl ?_)
    refine Run.go rfl rfl rfl (sem_assign ((Value.int .i64 (IntKind.wrap .i64 ((i6) + (1))))) rfl ?_)
    refine Run.region_end ?_
    exact Run.of_fin (hS.imp fun h' ⟨m', hm, hS⟩ => ih10 ((s5 ++ s40), (IntKind.wrap .i64 ((i6) + (1))), m') _ _ ⟨hS, ⟨rfl, rfl, rfl, rfl, rfl, trivial⟩⟩ hm)
   ·have hS := hT rfl; clear hT hF
    refine Run.go rfl rfl rfl (sem_load1 (Addr.add (Addr.add A29 (Int.toNat (i6) * 3)) 1) (.bool true) rfl TF.agg_4 hl ?_)
    refine Run.region_end ?_
    refine Run.condT rfl ?_
    refine Run.ops0 (idx := [0]) rfl ?_
    refine Run.go rfl rfl rfl (sem_assign ((Value.string (ByteArray.mk #[]))) rfl ?_)
    refine Run.region_end ?_
    refine Run.inBlock ?_
    refine Run.ops0 (idx := [0, 1, 2]) rfl ?_
    refine Run.go rfl rfl rfl (sem_move ((Value.int .i64 (i6))) rfl ?_)
    refine Run.go rfl rfl rfl (sem_binI .i64 (i6) (1) ((Value.int .i64 (IntKind.wrap .i64 ((i6) + (1))))) rfl rfl rfl ?_)
    refine Run.go rfl rfl rfl (sem_assign ((Value.int .i64 (IntKind.wrap .i64 ((i6) + (1))))) rfl ?_)
    refine Run.region_end ?_
    exact Run.of_fin (hS.imp fun h' ⟨m', hm, hS⟩ => ih10 ((ByteArray.mk #[]), (IntKind.wrap .i64 ((i6) + (1))), m') _ _ ⟨hS, ⟨rfl, rfl, rfl, rfl, rfl, trivial⟩⟩ hm)
  ·have hS := hF hb22; clear hT hF
   refine Run.go rfl rfl rfl (sem_binI .i64 (i21) (i2) (.bool false) rfl rfl (binI_eql_f hb22) ?_)
   refine Run.region_end ?_
   refine Run.condF rfl ?_
   refine Run.skip ?_
   refine Run.inBlock ?_
   refine Run.ops0 (idx := [0, 1, 2]) rfl ?_
   refine Run.go rfl rfl rfl (sem_move ((Value.int .i64 (i6))) rfl ?_)
   refine Run.go rfl rfl rfl (sem_binI .i64 (i6) (1) ((Value.int .i64 (IntKind.wrap .i64 ((i6) + (1))))) rfl rfl rfl ?_)
   refine Run.go rfl rfl rfl (sem_assign ((Value.int .i64 (IntKind.wrap .i64 ((i6) + (1))))) rfl ?_)
   refine Run.region_end ?_
   exact Run.of_fin (hS.imp fun h' ⟨m', hm, hS⟩ => ih10 (s5, (IntKind.wrap .i64 ((i6) + (1))), m') _ _ ⟨hS, ⟨rfl, rfl, rfl, rfl, rfl, trivial⟩⟩ hm)
 ·have hS := hF hb12; clear hT hF
  refine Run.go rfl rfl rfl (sem_binI .i64 (i6) (i3) (.bool false) rfl rfl (binI_lss_f hb12) ?_)
  refine Run.region_end ?_
  refine Run.condF rfl ?_
  refine Run.exit rfl ?_
  refine Run.seq ?_
  refine Run.ops0 (idx := [0, 1]) rfl ?_
  refine Run.go rfl rfl rfl (sem_move ((Value.string s5)) rfl ?_)
  refine Run.go rfl rfl rfl (sem_assign ((Value.string s5)) rfl ?_)
  refine Run.region_end ?_
  refine Run.ret ⟨.inr rfl, ?_⟩
  exact hS.imp fun h' hq => ⟨s5, rfl, hq⟩
set_option maxHeartbeats 4000000 in
theorem C_countermandref04_Log_Whole.of {B : RO} {p1 : Option Addr} {h : Heap} {Q : Int → Heap → Prop} (hS : S_countermandref04_Log_Whole B p1 h Q) : C_countermandref04_Log_Whole B p1 h Q := by
 unfold S_countermandref04_Log_Whole at hS
 unfold C_countermandref04_Log_Whole
 refine Spec.of_run Try.func59 (N := 8) (rs := [ResultVar.tmp 2]) rfl rfl rfl (Nat.le_of_ble_eq_true rfl) ?_
 refine Run.seq ?_
 refine Run.ops0 (idx := [0]) rfl ?_
 refine Run.go rfl rfl rfl (sem_assign ((Value.int .i64 (0))) rfl ?_)
 refine Run.region_end ?_
 refine Run.seq ?_
 refine Run.ops0 (idx := [0, 1, 2, 3, 4, 5]) rfl ?_
 refine Run.go rfl rfl rfl (sem_move ((Value.pointer p1)) rfl ?_)
 refine Run.go rfl rfl rfl (sem_callL [(Value.pointer p1)] (TF.goes_56) rfl rfl (Spec.mono hS fun v h3 hv => ?_))
 obtain ⟨s4, rfl, hS⟩ := hv
 refine Run.go rfl rfl rfl (sem_callL [(Value.string s4)] (TF.goes_57) rfl rfl (Spec.mono hS fun v h5 hv => ?_))
 obtain ⟨a6, n7, c8, rfl, hS⟩ := hv
 refine Run.go rfl rfl rfl (sem_callL [(Value.slice a6 n7 c8)] (TF.goes_102) rfl rfl (Spec.mono hS fun v h9 hv => ?_))
 obtain ⟨s10, rfl, hS⟩ := hv
 refine Run.go rfl rfl rfl (sem_lenStr s10 rfl TF.isStr_9 ?_)
 refine Run.go rfl rfl rfl (sem_assign ((Value.int .i64 ((ByteArray.size s10 : Nat)))) rfl ?_)
 refine Run.region_end ?_
 refine Run.ret ⟨.inr rfl, ?_⟩
 exact hS.imp fun h' hq => ⟨((ByteArray.size s10 : Nat)), rfl, hq⟩
set_option maxHeartbeats 4000000 in
theorem C_wafer_Whole.of {B : RO} {s1 : ByteArray} {h : Heap} {Q : Int → Heap → Prop} (hS : S_wafer_Whole B s1 h Q) : C_wafer_Whole B s1 h Q := by
 unfold S_wafer_Whole at hS
 unfold C_wafer_Whole
 refine Spec.of_run Try.func89 (N := 15) (rs := [ResultVar.tmp 2]) rfl rfl rfl (Nat.le_of_ble_eq_true rfl) ?_
 refine Run.seq ?_
 refine Run.ops0 (idx := [0]) rfl ?_
 refine Run.go rfl rfl rfl (sem_assign ((Value.int .i64 (0))) rfl ?_)
 refine Run.region_end ?_
 refine Run.seq ?_
 refine Run.ops0 (idx := [0, 1]) rfl ?_
 refine Run.go rfl rfl rfl (sem_allocN [(Value.int .i64 (0))] TF.zero_3 (fun k3 hb1 hb2 h4 hb3 => ?_))
 have hS := hS k3 hb1 hb2 h4 hb3
 obtain ⟨h5, hst, hS⟩ := hS
 refine Run.go rfl rfl rfl (sem_store1 ⟨k3, 0, none⟩ ((Value.int .i64 (0))) h5 rfl rfl rfl TF.sz_3 hst ?_)
 refine Run.region_end ?_
 refine Run.seq ?_
 refine Run.seq ?_
 refine Run.ops0 (idx := [0, 1]) rfl ?_
 refine Run.go rfl rfl rfl (sem_move ((Value.string s1)) rfl ?_)
 refine Run.go rfl rfl rfl (sem_callL [(Value.string s1)] (TF.goes_92) rfl rfl (Spec.mono hS fun v7 h6 hv => ?_))
 obtain ⟨_, rfl, hS⟩ := hv
 refine Run.region_end ?_
 refine Run.block ?_
 obtain ⟨xs13, G9, J12, hit, hins, hG, h0, hS, hR⟩ := hS
 refine Run.of_fin (h0.imp fun h' h0 => ?_)
 refine Run.range (v7) (xs13.map (fun x : ByteArray => [(Value.string x)])) G9 J12 rfl hit hins hG h0 rfl (fun a ha => by obtain ⟨x, _, rfl⟩ := List.mem_map.1 ha; rfl) ?_ ?_
 ·rintro q11 args h10 ha hJ
  obtain ⟨s8, hx, rfl⟩ := Option.map_eq_some_iff.1 ((List.getElem?_map ..).symm.trans ha)
  have hS := hS q11 h10 s8 hx hJ; clear hJ hx ha
  refine Run.ops0 (idx := [0]) rfl ?_
  refine Run.go rfl rfl rfl (sem_assign ((Value.string s8)) rfl ?_)
  refine Run.region_end ?_
  refine Run.begin ⟨rfl, ?_⟩
  refine Run.block ?_
  refine Run.ops0 (idx := [0, 1, 2, 3, 4, 5, 6]) rfl ?_
  obtain ⟨i14, hl, hS⟩ := hS
  refine Run.go rfl rfl rfl (sem_load1 ⟨k3, 0, none⟩ ((Value.int .i64 (i14))) rfl TF.agg_3 hl ?_)
  refine Run.go rfl rfl rfl (sem_move ((Value.string s8)) rfl ?_)
  refine Run.go rfl rfl rfl (sem_lenStr s8 rfl TF.isStr_9 ?_)
  refine Run.go rfl rfl rfl (sem_binI .i64 (2) ((ByteArray.size s8 : Nat)) ((Value.int .i64 (IntKind.wrap .i64 ((2) + ((ByteArray.size s8 : Nat)))))) rfl rfl rfl ?_)
  refine Run.go rfl rfl rfl (sem_binI .i64 (IntKind.wrap .i64 ((2) + ((ByteArray.size s8 : Nat)))) (4) ((Value.int .i64 (IntKind.wrap .i64 ((IntKind.wrap .i64 ((2) + ((ByteArray.size s8 : Nat)))) + (4))))) rfl rfl rfl ?_)
  refine Run.go rfl rfl rfl (sem_binI .i64 (i14) (IntKind.wrap .i64 ((IntKind.wrap .i64 ((2) + ((ByteArray.size s8 : Nat)))) + (4))) ((Value.int .i64 (IntKind.wrap .i64 ((i14) + (IntKind.wrap .i64 ((IntKind.wrap .i64 ((2) + ((ByteArray.size s8 : Nat)))) + (4))))))) rfl rfl rfl ?_)
  obtain ⟨h15, hst, hS⟩ := hS
  refine Run.go rfl rfl rfl (sem_store1 ⟨k3, 0, none⟩ ((Value.int .i64 (IntKind.wrap .i64 ((i14) + (IntKind.wrap .i64 ((IntKind.wrap .i64 ((2) + ((ByteArray.size s8 : Nat)))) + (4))))))) h15 rfl rfl rfl TF.sz_3 hst ?_)
  refine Run.region_end ?_
  refine Run.inBlock ?_
  refine Run.of_fin (hS.imp fun h' hS => ?_)
  exact Run.fall (.inl ⟨rfl, hS⟩)
 ·intro h10 hJ
  have hS := hR h10 (by simpa using hJ); clear hJ hR
  refine Run.inBlock ?_
  refine Run.seq ?_
  refine Run.ops0 (idx := [0, 1]) rfl ?_
  obtain ⟨i16, hl, hS⟩ := hS
  refine Run.go rfl rfl rfl (sem_load1 ⟨k3, 0, none⟩ ((Value.int .i64 (i16))) rfl TF.agg_3 hl ?_)
  refine Run.go rfl rfl rfl (sem_assign ((Value.int .i64 (i16))) rfl ?_)
  refine Run.region_end ?_
  refine Run.ret ⟨.inr rfl, ?_⟩
  exact hS.imp fun h' hq => ⟨(i16), rfl, hq⟩
set_option maxHeartbeats 4000000 in
theorem C_wafer_Close.of {B : RO} {s1 : ByteArray} {h : Heap} {Q : ByteArray → Heap → Prop} (hS : S_wafer_Close B s1 h Q) : C_wafer_Close B s1 h Q := by
 unfold S_wafer_Close at hS
 unfold C_wafer_Close
 refine Spec.of_run Try.func90 (N := 23) (rs := [ResultVar.tmp 2]) rfl rfl rfl (Nat.le_of_ble_eq_true rfl) ?_
 refine Run.seq ?_
 refine Run.ops0 (idx := [0]) rfl ?_
 refine Run.go rfl rfl rfl (sem_assign ((Value.string (ByteArray.mk #[]))) rfl ?_)
 refine Run.region_end ?_
 refine Run.seq ?_
 refine Run.ops0 (idx := [0, 1, 2]) rfl ?_
 refine Run.go rfl rfl rfl (sem_move ((Value.string s1)) rfl ?_)
 refine Run.go rfl rfl rfl (sem_lenStr s1 rfl TF.isStr_9 ?_)
 refine Run.go rfl rfl rfl (sem_assign ((Value.int .i64 ((ByteArray.size s1 : Nat)))) rfl ?_)
 refine Run.region_end ?_
 refine Run.seq ?_
 refine Run.seq ?_
 refine Run.ops0 (idx := [0, 1]) rfl ?_
 refine Run.go rfl rfl rfl (sem_move ((Value.int .i64 ((ByteArray.size s1 : Nat)))) rfl ?_)
 obtain ⟨hT, hF⟩ := hS
 by_cases hb3 : ((ByteArray.size s1 : Nat) : Int) > (1024)
 ·have hS := hT hb3; clear hT hF
  refine Run.go rfl rfl rfl (sem_binI .i64 ((ByteArray.size s1 : Nat)) (1024) (.bool true) rfl rfl (binI_gtr_t hb3) ?_)
  refine Run.region_end ?_
  refine Run.condT rfl ?_
  refine Run.seq ?_
  refine Run.ops0 (idx := [0]) rfl ?_
  refine Run.go rfl rfl rfl (sem_assign ((Value.string (ByteArray.mk #[]))) rfl ?_)
  refine Run.region_end ?_
  refine Run.ret ⟨.inr rfl, ?_⟩
  exact hS.imp fun h' hq => ⟨(ByteArray.mk #[]), rfl, hq⟩
 ·have hS := hF hb3; clear hT hF
  refine Run.go rfl rfl rfl (sem_binI .i64 ((ByteArray.size s1 : Nat)) (1024) (.bool false) rfl rfl (binI_gtr_f hb3) ?_)
  refine Run.region_end ?_
  refine Run.condF rfl ?_
  refine Run.skip ?_
  refine Run.seq ?_
  refine Run.ops0 (idx := [0, 1, 2, 3, 4, 5, 6, 7, 8, 9]) rfl ?_
  refine Run.go rfl rfl rfl (sem_move ((Value.int .i64 ((ByteArray.size s1 : Nat)))) rfl ?_)
  obtain ⟨hi0, hS⟩ := hS
  refine Run.go rfl rfl rfl (sem_shr .i64 .u64 ((ByteArray.size s1 : Nat)) (8) rfl rfl hi0 ?_)
  refine Run.go rfl rfl rfl (sem_convI .i64 .u8 (Int.fdiv ((ByteArray.size s1 : Nat)) (2 ^ (min (Int.toNat (8)) (IntKind.bits .i64)))) rfl TF.int_3 TF.int_5 ?_)
  refine Run.go rfl rfl rfl (sem_move ((Value.int .i64 ((ByteArray.size s1 : Nat)))) rfl ?_)
  refine Run.go rfl rfl rfl (sem_convI .i64 .u8 ((ByteArray.size s1 : Nat)) rfl TF.int_3 TF.int_5 ?_)
  refine Run.go rfl rfl rfl (sem_buildSliceL [(0, (Value.int .u8 (IntKind.wrap .u8 (Int.fdiv ((ByteArray.size s1 : Nat)) (2 ^ (min (Int.toNat (8)) (IntKind.bits .i64))))))), (1, (Value.int .u8 (IntKind.wrap .u8 ((ByteArray.size s1 : Nat)))))] [(Value.int .u8 (IntKind.wrap .u8 (Int.fdiv ((ByteArray.size s1 : Nat)) (2 ^ (min (Int.toNat (8)) (IntKind.bits .i64)))))), (Value.int .u8 (IntKind.wrap .u8 ((ByteArray.size s1 : Nat))))] TF.slc_208 TF.zero_5 rfl (by decide) (by decide) rfl rfl (fun k4 hb1 hb2 h5 hb3 => ?_))
  have hS := hS k4 hb1 hb2 h5 hb3
  refine Run.go rfl rfl rfl (sem_convW ((Value.slice (some ⟨k4, 0, none⟩) 2 2)) rfl (semH_mono (fun v h7 hv => ?_) hS))
  obtain ⟨s6, rfl, hS⟩ := hv
  refine Run.go rfl rfl rfl (sem_move ((Value.string s1)) rfl ?_)
  obtain ⟨hi0, hS⟩ := hS
  refine Run.go rfl rfl rfl (sem_strAdd s6 s1 rfl rfl hi0 ?_)
  refine Run.go rfl rfl rfl (sem_assign ((Value.string (s6 ++ s1))) rfl ?_)
  refine Run.region_end ?_
  refine Run.seq ?_
  refine Run.ops0 (idx := [0, 1, 2, 3, 4, 5]) rfl ?_
  refine Run.go rfl rfl rfl (sem_move ((Value.string (s6 ++ s1))) rfl ?_)
  refine Run.go rfl rfl rfl (sem_move ((Value.string (s6 ++ s1))) rfl ?_)
  refine Run.go rfl rfl rfl (sem_callL [(Value.string (s6 ++ s1))] (TF.goes_133) rfl rfl (Spec.mono hS fun v h8 hv => ?_))
  obtain ⟨i9, rfl, hS⟩ := hv
  refine Run.go rfl rfl rfl (sem_callL [(Value.int .u32 (i9))] (TF.goes_132) rfl rfl (Spec.mono hS fun v h10 hv => ?_))
  obtain ⟨s11, rfl, hS⟩ := hv
  obtain ⟨hi0, hS⟩ := hS
  refine Run.go rfl rfl rfl (sem_strAdd (s6 ++ s1) s11 rfl rfl hi0 ?_)
  refine Run.go rfl rfl rfl (sem_assign ((Value.string ((s6 ++ s1) ++ s11))) rfl ?_)
  refine Run.region_end ?_
  refine Run.ret ⟨.inr rfl, ?_⟩
  exact hS.imp fun h' hq => ⟨((s6 ++ s1) ++ s11), rfl, hq⟩
set_option maxHeartbeats 4000000 in
theorem C_wal_Log_All_1.of {B : RO} {v1 : Value} {A2 : Addr} {h : Heap} {Q : Heap → Prop} (hS : S_wal_Log_All_1 B v1 A2 h Q) : C_wal_Log_All_1 B v1 A2 h Q := by
 unfold S_wal_Log_All_1 at hS
 unfold C_wal_Log_All_1
 refine Spec.of_run Try.func91 (N := 21) (rs := []) rfl rfl rfl (Nat.le_of_ble_eq_true rfl) ?_
 refine Run.seq ?_
 refine Run.ops0 (idx := [0]) rfl ?_
 obtain ⟨hone, hS⟩ := hS
 refine Run.go rfl rfl rfl (sem_box1N (v1) rfl hone (fun k3 hb1 hb2 h4 hb3 => ?_))
 have hS := hS k3 hb1 hb2 h4 hb3
 refine Run.region_end ?_
 refine Run.seq ?_
 refine Run.seq ?_
 refine Run.ops0 (idx := [0, 1]) rfl ?_
 obtain ⟨p5, hl, hS⟩ := hS
 refine Run.go rfl rfl rfl (sem_load1 A2 ((Value.pointer p5)) rfl TF.agg_57 hl ?_)
 obtain ⟨hT, hF⟩ := hS
 by_cases hb6 : p5 = none
 ·have hS := hT hb6; clear hT hF
  refine Run.go rfl rfl rfl (sem_ptrNilT p5 (.inl rfl) true rfl rfl TF.ptr_57 hb6 rfl ?_)
  refine Run.region_end ?_
  refine Run.condT rfl ?_
  refine Run.ret ⟨.inr rfl, ?_⟩
  exact hS.imp fun h' hq => ⟨rfl, hq⟩
 ·have hS := hF hb6; clear hT hF
  refine Run.go rfl rfl rfl (sem_ptrNilF p5 (.inl rfl) false rfl rfl TF.ptr_57 hb6 rfl ?_)
  refine Run.region_end ?_
  refine Run.condF rfl ?_
  refine Run.skip ?_
  refine Run.seq ?_
  refine Run.drawM (fun h' => h' = h4) [8, 9] ⟨[0, 1, 2, 4, 0, 16, 32, 64, 136, 256], [1023, 1022, 1021, 1019, 1023, 1007, 991, 959, 887, 767], [0, 1, 3, 7, 0, 16, 48, 112, 255, 511], 768⟩ (.q 0 (.q 1 (.q 2 (.q 3 (.q 4 (.q 5 (.q 6 (.q 7 (.x 8 (.x 9 .nil .no) .no))))))))) TF.mixed (by kernel_rfl) rfl ?_
  obtain ⟨p7, hl, hS⟩ := hS
  refine RunT.quiet rfl rfl rfl (quiet_eq (sem_load1 A2 ((Value.pointer p7)) rfl TF.agg_57 hl ⟨rfl, rfl⟩)) ?_
  obtain ⟨A8, e9, hS⟩ := hS
  refine RunT.quiet rfl rfl rfl (quiet_eq (sem_nilCheck A8 (congrArg Value.pointer e9) ⟨rfl, rfl⟩)) ?_
  refine RunT.quiet rfl rfl rfl (quiet_eq (sem_fieldAddr A8 0 rfl TF.fld_171_0 ⟨rfl, rfl⟩)) ?_
  obtain ⟨p10, hl, hS⟩ := hS
  refine RunT.quiet rfl rfl rfl (quiet_eq (sem_load1 A8 ((Value.pointer p10)) rfl TF.agg_61 hl ⟨rfl, rfl⟩)) ?_
  obtain ⟨p11, hl, hS⟩ := hS
  refine RunT.quiet rfl rfl rfl (quiet_eq (sem_load1 A2 ((Value.pointer p11)) rfl TF.agg_57 hl ⟨rfl, rfl⟩)) ?_
  obtain ⟨A12, e13, hS⟩ := hS
  refine RunT.quiet rfl rfl rfl (quiet_eq (sem_nilCheck A12 (congrArg Value.pointer e13) ⟨rfl, rfl⟩)) ?_
  refine RunT.quiet rfl rfl rfl (quiet_eq (sem_fieldAddr A12 1 rfl TF.fld_171_1 ⟨rfl, rfl⟩)) ?_
  obtain ⟨i14, hl, hS⟩ := hS
  refine RunT.quiet rfl rfl rfl (quiet_eq (sem_load1 (Addr.add A12 1) ((Value.int .i64 (i14))) rfl TF.agg_3 hl ⟨rfl, rfl⟩)) ?_
  refine ⟨?_, trivial⟩
  refine OpH.go rfl rfl rfl (sem_callL [(Value.pointer p10), (Value.int .i64 (i14))] (TF.goes_47) rfl rfl (Spec.mono hS fun v h15 hv => ?_))
  obtain ⟨s16, rfl, hS⟩ := hv
  refine ⟨fun hz => Bool.noConfusion hz, ?_⟩
  refine ⟨?_, trivial⟩
  refine OpH.go rfl rfl rfl (sem_callL [(Value.string s16)] (TF.goes_92) rfl rfl (Spec.mono hS fun v18 h17 hv => ?_))
  obtain ⟨_, rfl, hS⟩ := hv
  refine ⟨fun hz => Bool.noConfusion hz, ?_⟩
  refine Run.block ?_
  obtain ⟨xs24, G20, J23, hit, hins, hG, h0, hS, hR⟩ := hS
  refine Run.of_fin (h0.imp fun h' h0 => ?_)
  refine Run.range (v18) (xs24.map (fun x : ByteArray => [(Value.string x)])) G20 J23 rfl hit hins hG h0 rfl (fun a ha => by obtain ⟨x, _, rfl⟩ := List.mem_map.1 ha; rfl) ?_ ?_
  ·rintro q22 args h21 ha hJ
   obtain ⟨s19, hx, rfl⟩ := Option.map_eq_some_iff.1 ((List.getElem?_map ..).symm.trans ha)
   have hS := hS q22 h21 s19 hx hJ; clear hJ hx ha
   refine Run.ops0 (idx := [0]) rfl ?_
   refine Run.go rfl rfl rfl (sem_assign ((Value.string s19)) rfl ?_)
   refine Run.region_end ?_
   refine Run.begin ⟨rfl, ?_⟩
   refine Run.block ?_
   refine Run.seq ?_
   refine Run.ops0 (idx := [0, 1, 2, 3]) rfl ?_
   obtain ⟨v25, hl, hS⟩ := hS
   refine Run.go rfl rfl rfl (sem_load1 ⟨k3, 0, none⟩ (v25) rfl TF.agg_104 hl ?_)
   refine Run.go rfl rfl rfl (sem_move ((Value.string s19)) rfl ?_)
   refine Run.go rfl rfl rfl (sem_callV (v25) [(Value.string s19)] rfl rfl hS (fun nx h' ha => ha.mono fun v h26 hv => ?_))
   obtain ⟨b27, rfl, hS⟩ := hv
   obtain ⟨hT, hF⟩ := hS
   cases b27
   ·have hS := hF rfl; clear hT hF
    refine Run.go rfl rfl rfl (sem_not false rfl ?_)
    refine Run.region_end ?_
    refine Run.condT rfl ?_
    refine Run.ret (.inr ⟨_, rfl, ?_⟩)
    refine Run.ret ⟨.inr rfl, ?_⟩
    exact hS.imp fun h' hq => ⟨rfl, hq⟩
   ·have hS := hT rfl; clear hT hF
    refine Run.go rfl rfl rfl (sem_not true rfl ?_)
    refine Run.region_end ?_
    refine Run.condF rfl ?_
    refine Run.skip ?_
    refine Run.inBlock ?_
    refine Run.of_fin (hS.imp fun h' hS => ?_)
    exact Run.fall (.inl ⟨rfl, hS⟩)
  ·intro h21 hJ
   have hS := hR h21 (by simpa using hJ); clear hJ hR
   refine Run.inBlock ?_
   refine Run.fall ⟨.inl rfl, ?_⟩
   exact hS.imp fun h' hq => ⟨rfl, hq⟩
set_option maxHeartbeats 4000000 in
theorem C_wafer_All.of {B : RO} {s1 : ByteArray} {h : Heap} {Q : Value → Heap → Prop} (hS : S_wafer_All B s1 h Q) : C_wafer_All B s1 h Q := by
 unfold S_wafer_All at hS
 unfold C_wafer_All
 refine Spec.of_run Try.func92 (N := 4) (rs := [ResultVar.tmp 2]) rfl rfl rfl (Nat.le_of_ble_eq_true rfl) ?_
 refine Run.seq ?_
 refine Run.ops0 (idx := [0, 1]) rfl ?_
 refine Run.go rfl rfl rfl (sem_box1N ((Value.string s1)) rfl rfl (fun k3 hb1 hb2 h4 hb3 => ?_))
 have hS := hS k3 hb1 hb2 h4 hb3
 refine Run.go rfl rfl rfl (sem_assign (Value.nilFunc) rfl ?_)
 refine Run.region_end ?_
 refine Run.seq ?_
 refine Run.ops0 (idx := [0, 1]) rfl ?_
 refine Run.go rfl rfl rfl (sem_makeFuncL [] [(Value.pointer (some ⟨k3, 0, none⟩))] rfl rfl ?_)
 refine Run.go rfl rfl rfl (sem_assign ((Value.func (.func 134) #[] #[(Value.pointer (some ⟨k3, 0, none⟩))])) rfl ?_)
 refine Run.region_end ?_
 refine Run.ret ⟨.inr rfl, ?_⟩
 exact hS.imp fun h' hq => ⟨(Value.func (.func 134) #[] #[(Value.pointer (some ⟨k3, 0, none⟩))]), rfl, hq⟩
set_option maxHeartbeats 4000000 in
theorem C_disk_good.of {B : RO} {i1 : Int} {h : Heap} {Q : Bool → Heap → Prop} (hS : S_disk_good B i1 h Q) : C_disk_good B i1 h Q := by
 unfold S_disk_good at hS
 unfold C_disk_good
 refine Spec.of_run Try.func93 (N := 9) (rs := [ResultVar.tmp 2]) rfl rfl rfl (Nat.le_of_ble_eq_true rfl) ?_
 refine Run.seq ?_
 refine Run.ops0 (idx := [0]) rfl ?_
 refine Run.go rfl rfl rfl (sem_assign ((Value.bool false)) rfl ?_)
 refine Run.region_end ?_
 refine Run.seq ?_
 refine Run.ops0 (idx := [0, 1, 2, 3, 4, 5, 6]) rfl ?_
 refine Run.go rfl rfl rfl (sem_move ((Value.int .i64 (i1))) rfl ?_)
 obtain ⟨hT, hF⟩ := hS
 by_cases hb3 : (i1 : Int) = 0
 ·have hS := hT hb3; clear hT hF
  refine Run.go rfl rfl rfl (sem_binI .i64 (i1) (0) (.bool true) rfl rfl (binI_eql_t hb3) ?_)
  refine Run.go rfl rfl rfl (sem_move ((Value.bool true)) rfl ?_)
  refine Run.no rfl rfl rfl ?_
  refine Run.no rfl rfl rfl ?_
  refine Run.go rfl rfl rfl (sem_pick true ((Value.bool true)) rfl rfl ?_)
  refine Run.go rfl rfl rfl (sem_assign ((Value.bool true)) rfl ?_)
  refine Run.region_end ?_
  refine Run.ret ⟨.inr rfl, ?_⟩
  exact hS.imp fun h' hq => ⟨(true), rfl, hq⟩
 ·have hS := hF hb3; clear hT hF
  refine Run.go rfl rfl rfl (sem_binI .i64 (i1) (0) (.bool false) rfl rfl (binI_eql_f hb3) ?_)
  refine Run.go rfl rfl rfl (sem_move ((Value.bool false)) rfl ?_)
  refine Run.go rfl rfl rfl (sem_move ((Value.int .i64 (i1))) rfl ?_)
  refine Run.go rfl rfl rfl (sem_binI .i64 (i1) (1) ((Value.bool ((i1 : Int) == (1)))) rfl rfl rfl ?_)
  refine Run.go rfl rfl rfl (sem_pick false ((Value.bool ((i1 : Int) == (1)))) rfl rfl ?_)
  refine Run.go rfl rfl rfl (sem_assign ((Value.bool ((i1 : Int) == (1)))) rfl ?_)
  refine Run.region_end ?_
  refine Run.ret ⟨.inr rfl, ?_⟩
  exact hS.imp fun h' hq => ⟨(((i1 : Int) == (1))), rfl, hq⟩
set_option maxHeartbeats 4000000 in
theorem C_disk_Disk_land.of {B : RO} {p1 : Option Addr} {i2 : Int} {b3 : Bool} {s4 : ByteArray} {h : Heap} {Q : Heap → Prop} (hS : S_disk_Disk_land B p1 i2 b3 s4 h Q) : C_disk_Disk_land B p1 i2 b3 s4 h Q := by
 unfold S_disk_Disk_land at hS
 unfold C_disk_Disk_land
 refine Spec.of_run Try.func94 (N := 28) (rs := []) rfl rfl rfl (Nat.le_of_ble_eq_true rfl) ?_
 refine Run.seq ?_
 refine Run.ops0 (idx := [0]) rfl ?_
 refine Run.go rfl rfl rfl (sem_boxNN [(Value.int .i64 (i2)), (Value.bool b3), (Value.string s4)] rfl (fun k5 hb1 hb2 h6 hb3 => ?_))
 have hS := hS k5 hb1 hb2 h6 hb3
 refine Run.region_end ?_
 refine Run.seq ?_
 refine Run.ops0 (idx := [0, 1]) rfl ?_
 refine Run.go rfl rfl rfl (sem_fieldAddr ⟨k5, 0, none⟩ 1 rfl TF.fld_181_1 ?_)
 obtain ⟨b7, hl, hS⟩ := hS
 obtain ⟨hT, hF⟩ := hS
 cases b7
 ·have hS := hF rfl; clear hT hF
  refine Run.go rfl rfl rfl (sem_load1 ⟨k5, 1, none⟩ (.bool false) rfl TF.agg_4 hl ?_)
  refine Run.region_end ?_
  refine Run.condF rfl ?_
  refine Run.drawM (fun h' => h' = h6) [15] ⟨[0, 0, 2, 1, 8, 20, 32, 64, 0, 256, 640, 1, 2048, 6143, 10239, 18431], [65535, 65535, 65533, 65534, 65527, 65515, 65503, 65471, 65535, 65279, 64895, 65534, 63487, 61435, 57343, 48127], [0, 0, 2, 1, 9, 31, 63, 127, 0, 256, 1023, 1, 2049, 8191, 16383, 32767], 32768⟩ (.q 0 (.q 1 (.q 2 (.q 3 (.q 4 (.q 5 (.q 6 (.q 7 (.q 8 (.q 9 (.q 10 (.q 11 (.q 12 (.q 13 (.q 14 (.x 15 .nil .no)))))))))))))))) TF.mixed (by kernel_rfl) rfl ?_
  refine RunT.quiet rfl rfl rfl (quiet_eq (sem_move ((Value.pointer p1)) rfl ⟨rfl, rfl⟩)) ?_
  refine RunT.quiet rfl rfl rfl (quiet_eq (sem_fieldAddr ⟨k5, 0, none⟩ 0 rfl TF.fld_181_0 ⟨rfl, rfl⟩)) ?_
  obtain ⟨i8, hl, hS⟩ := hS
  refine RunT.quiet rfl rfl rfl (quiet_eq (sem_load1 ⟨k5, 0, none⟩ ((Value.int .i64 (i8))) rfl TF.agg_3 hl ⟨rfl, rfl⟩)) ?_
  obtain ⟨A9, e10, hS⟩ := hS
  refine RunT.quiet rfl rfl rfl (quiet_eq (sem_nilCheck A9 (congrArg Value.pointer e10) ⟨rfl, rfl⟩)) ?_
  refine RunT.quiet rfl rfl rfl (quiet_eq (sem_fieldAddr A9 0 rfl TF.fld_177_0 ⟨rfl, rfl⟩)) ?_
  obtain ⟨hi0, hi1, hS⟩ := hS
  refine RunT.quiet rfl rfl rfl (quiet_eq (sem_indexAddrA A9 .i64 (i8) rfl rfl TF.arr_174 hi0 hi1 ⟨rfl, rfl⟩)) ?_
  refine RunT.quiet rfl rfl rfl (quiet_eq (sem_fieldAddr (Addr.add A9 (Int.toNat (i8) * 2)) 1 rfl TF.fld_173_1 ⟨rfl, rfl⟩)) ?_
  obtain ⟨s11, hl, hS⟩ := hS
  refine RunT.quiet rfl rfl rfl (quiet_eq (sem_load1 (Addr.add (Addr.add A9 (Int.toNat (i8) * 2)) 1) ((Value.string s11)) rfl TF.agg_9 hl ⟨rfl, rfl⟩)) ?_
  refine RunT.quiet rfl rfl rfl (quiet_eq (sem_fieldAddr ⟨k5, 0, none⟩ 2 rfl TF.fld_181_2 ⟨rfl, rfl⟩)) ?_
  obtain ⟨s12, hl, hS⟩ := hS
  refine RunT.quiet rfl rfl rfl (quiet_eq (sem_load1 ⟨k5, 2, none⟩ ((Value.string s12)) rfl TF.agg_9 hl ⟨rfl, rfl⟩)) ?_
  obtain ⟨hi0, hS⟩ := hS
  refine RunT.quiet rfl rfl rfl (quiet_eq (sem_strAdd s11 s12 rfl rfl hi0 ⟨rfl, rfl⟩)) ?_
  obtain ⟨A13, e14, hS⟩ := hS
  refine RunT.quiet rfl rfl rfl (quiet_eq (sem_nilCheck A13 (congrArg Value.pointer e14) ⟨rfl, rfl⟩)) ?_
  refine RunT.quiet rfl rfl rfl (quiet_eq (sem_fieldAddr A13 0 rfl TF.fld_177_0 ⟨rfl, rfl⟩)) ?_
  obtain ⟨hi0, hi1, hS⟩ := hS
  refine RunT.quiet rfl rfl rfl (quiet_eq (sem_indexAddrA A13 .i64 (i8) rfl rfl TF.arr_174 hi0 hi1 ⟨rfl, rfl⟩)) ?_
  refine RunT.quiet rfl rfl rfl (quiet_eq (sem_fieldAddr (Addr.add A13 (Int.toNat (i8) * 2)) 1 rfl TF.fld_173_1 ⟨rfl, rfl⟩)) ?_
  refine ⟨?_, trivial⟩
  obtain ⟨h15, hst, hS⟩ := hS
  refine OpH.go rfl rfl rfl (sem_store1 (Addr.add (Addr.add A13 (Int.toNat (i8) * 2)) 1) ((Value.string (s11 ++ s12))) h15 rfl rfl rfl TF.sz_9 hst ?_)
  refine ⟨fun hz => Bool.noConfusion hz, ?_⟩
  refine Run.fall ⟨.inl rfl, ?_⟩
  exact hS.imp fun h' hq => ⟨rfl, hq⟩
 ·have hS := hT rfl; clear hT hF
  refine Run.go rfl rfl rfl (sem_load1 ⟨k5, 1, none⟩ (.bool true) rfl TF.agg_4 hl ?_)
  refine Run.region_end ?_
  refine Run.condT rfl ?_
  refine Run.drawM (fun h' => h' = h6) [7] ⟨[0, 0, 2, 1, 8, 23, 39, 71], [255, 255, 253, 254, 247, 235, 223, 191], [0, 0, 2, 1, 9, 31, 63, 127], 128⟩ (.q 0 (.q 1 (.q 2 (.q 3 (.q 4 (.q 5 (.q 6 (.x 7 .nil .no)))))))) TF.mixed (by kernel_rfl) rfl ?_
  refine RunT.quiet rfl rfl rfl (quiet_eq (sem_move ((Value.pointer p1)) rfl ⟨rfl, rfl⟩)) ?_
  refine RunT.quiet rfl rfl rfl (quiet_eq (sem_fieldAddr ⟨k5, 0, none⟩ 0 rfl TF.fld_181_0 ⟨rfl, rfl⟩)) ?_
  obtain ⟨i16, hl, hS⟩ := hS
  refine RunT.quiet rfl rfl rfl (quiet_eq (sem_load1 ⟨k5, 0, none⟩ ((Value.int .i64 (i16))) rfl TF.agg_3 hl ⟨rfl, rfl⟩)) ?_
  obtain ⟨A17, e18, hS⟩ := hS
  refine RunT.quiet rfl rfl rfl (quiet_eq (sem_nilCheck A17 (congrArg Value.pointer e18) ⟨rfl, rfl⟩)) ?_
  refine RunT.quiet rfl rfl rfl (quiet_eq (sem_fieldAddr A17 0 rfl TF.fld_177_0 ⟨rfl, rfl⟩)) ?_
  obtain ⟨hi0, hi1, hS⟩ := hS
  refine RunT.quiet rfl rfl rfl (quiet_eq (sem_indexAddrA A17 .i64 (i16) rfl rfl TF.arr_174 hi0 hi1 ⟨rfl, rfl⟩)) ?_
  refine RunT.quiet rfl rfl rfl (quiet_eq (sem_fieldAddr (Addr.add A17 (Int.toNat (i16) * 2)) 1 rfl TF.fld_173_1 ⟨rfl, rfl⟩)) ?_
  refine ⟨?_, trivial⟩
  obtain ⟨h19, hst, hS⟩ := hS
  refine OpH.go rfl rfl rfl (sem_store1 (Addr.add (Addr.add A17 (Int.toNat (i16) * 2)) 1) ((Value.string (ByteArray.mk #[]))) h19 rfl rfl rfl TF.sz_9 hst ?_)
  refine ⟨fun hz => Bool.noConfusion hz, ?_⟩
  refine Run.fall ⟨.inl rfl, ?_⟩
  exact hS.imp fun h' hq => ⟨rfl, hq⟩
set_option maxHeartbeats 4000000 in
theorem C_disk_Disk_Reset.of {B : RO} {p1 : Option Addr} {i2 : Int} {h : Heap} {Q : Int → Heap → Prop} (hS : S_disk_Disk_Reset B p1 i2 h Q) : C_disk_Disk_Reset B p1 i2 h Q := by
 unfold S_disk_Disk_Reset at hS
 unfold C_disk_Disk_Reset
 refine Spec.of_run Try.func95 (N := 29) (rs := [ResultVar.tmp 4]) rfl rfl rfl (Nat.le_of_ble_eq_true rfl) ?_
 refine Run.seq ?_
 refine Run.ops0 (idx := [0]) rfl ?_
 refine Run.go rfl rfl rfl (sem_assign ((Value.int .i64 (0))) rfl ?_)
 refine Run.region_end ?_
 refine Run.seqJ (fun e h5 => Agree [(0, (Value.pointer p1)), (1, (Value.int .i64 (i2)))] e ∧ S_disk_Disk_Reset_J1 B p1 i2 h5 Q) ?_ fun j4 => ?_
 ·rintro e h5 ⟨hag, hS⟩
  refine Run.env hag ?_; clear hag
  refine Run.seq ?_
  refine Run.ops0 (idx := [0, 1, 2, 3, 4, 5, 6]) rfl ?_
  refine Run.go rfl rfl rfl (sem_move ((Value.pointer p1)) rfl ?_)
  refine Run.go rfl rfl rfl (sem_move ((Value.int .i64 (i2))) rfl ?_)
  obtain ⟨A6, e7, hS⟩ := hS
  refine Run.go rfl rfl rfl (sem_nilCheck A6 (congrArg Value.pointer e7) ?_)
  refine Run.go rfl rfl rfl (sem_fieldAddr A6 0 rfl TF.fld_177_0 ?_)
  obtain ⟨hi0, hi1, hS⟩ := hS
  refine Run.go rfl rfl rfl (sem_indexAddrA A6 .i64 (i2) rfl rfl TF.arr_174 hi0 hi1 ?_)
  refine Run.go rfl rfl rfl (sem_fieldAddr (Addr.add A6 (Int.toNat (i2) * 2)) 0 rfl TF.fld_173_0 ?_)
  obtain ⟨h8, hst, hS⟩ := hS
  refine Run.go rfl rfl rfl (sem_store1 (Addr.add A6 (Int.toNat (i2) * 2)) ((Value.string (ByteArray.mk #[]))) h8 rfl rfl rfl TF.sz_9 hst ?_)
  refine Run.region_end ?_
  refine Run.seq ?_
  refine Run.ops0 (idx := [0, 1, 2, 3, 4, 5, 6, 7, 8, 9, 10, 11]) rfl ?_
  refine Run.go rfl rfl rfl (sem_move ((Value.pointer p1)) rfl ?_)
  refine Run.go rfl rfl rfl (sem_move ((Value.pointer p1)) rfl ?_)
  obtain ⟨A9, e10, hS⟩ := hS
  refine Run.go rfl rfl rfl (sem_nilCheck A9 (congrArg Value.pointer e10) ?_)
  refine Run.go rfl rfl rfl (sem_fieldAddr A9 4 rfl TF.fld_177_1 ?_)
  refine Run.ldSl hS fun a11 n12 c13 h14 hl hS => ?_
  refine Run.go rfl rfl rfl (sem_load1 (Addr.add A9 4) ((Value.slice a11 n12 c13)) rfl TF.agg_175 hl ?_)
  refine Run.go rfl rfl rfl (sem_move ((Value.int .i64 (i2))) rfl ?_)
  refine Run.go rfl rfl rfl (sem_buildSL [(0, (Value.int .i64 (i2))), (1, (Value.bool true))] [(Value.int .i64 (i2)), (Value.bool true), (Value.string ByteArray.empty)] TF.zero_181 TF.places_181 rfl rfl ?_)
  refine Run.go rfl rfl rfl (sem_buildSliceL [(0, (Value.agg #[(Value.int .i64 (i2)), (Value.bool true), (Value.string ByteArray.empty)]))] [(Value.int .i64 (i2)), (Value.bool true), (Value.string ByteArray.empty)] TF.slc_175 TF.zero_181 rfl (by decide) (by decide) rfl rfl (fun k15 hb1 hb2 h16 hb3 => ?_))
  have hS := hS k15 hb1 hb2 h16 hb3
  refine Run.go rfl rfl rfl (sem_appendL [(Value.slice a11 n12 c13), (Value.slice (some ⟨k15, 0, none⟩) 1 1)] rfl (semH_mono (fun v h17 hv => ?_) hS))
  obtain ⟨a18, n19, c20, rfl, hS⟩ := hv
  obtain ⟨A21, e22, hS⟩ := hS
  refine Run.go rfl rfl rfl (sem_nilCheck A21 (congrArg Value.pointer e22) ?_)
  refine Run.go rfl rfl rfl (sem_fieldAddr A21 4 rfl TF.fld_177_1 ?_)
  obtain ⟨h23, hst, hS⟩ := hS
  refine Run.go rfl rfl rfl (sem_store1 (Addr.add A21 4) ((Value.slice a18 n19 c20)) h23 rfl rfl rfl TF.sz_175 hst ?_)
  refine Run.region_end ?_
  refine Run.seq ?_
  refine Run.ops0 (idx := [0]) rfl ?_
  refine Run.go rfl rfl rfl (sem_assign ((Value.int .i64 (0))) rfl ?_)
  refine Run.region_end ?_
  refine Run.ret ⟨.inr rfl, ?_⟩
  exact hS.imp fun h' hq => ⟨(0), rfl, hq⟩
 refine Run.block ?_
 refine Run.seq ?_
 refine Run.ops0 (idx := [0, 1, 2]) rfl ?_
 refine Run.go rfl rfl rfl (sem_move ((Value.pointer p1)) rfl ?_)
 obtain ⟨hT, hF⟩ := hS
 by_cases hb24 : p1 = none
 ·have hS := hT hb24; clear hT hF
  refine Run.go rfl rfl rfl (sem_ptrNilT p1 (.inl rfl) true rfl rfl TF.ptr_61 hb24 rfl ?_)
  refine Run.go rfl rfl rfl (sem_assign ((Value.bool true)) rfl ?_)
  refine Run.region_end ?_
  refine Run.condT rfl ?_
  refine Run.seq ?_
  refine Run.ops0 (idx := [0]) rfl ?_
  refine Run.go rfl rfl rfl (sem_assign ((Value.int .i64 (2))) rfl ?_)
  refine Run.region_end ?_
  refine Run.ret ⟨.inr rfl, ?_⟩
  exact hS.imp fun h' hq => ⟨(2), rfl, hq⟩
 ·have hS := hF hb24; clear hT hF
  refine Run.go rfl rfl rfl (sem_ptrNilF p1 (.inl rfl) false rfl rfl TF.ptr_61 hb24 rfl ?_)
  refine Run.go rfl rfl rfl (sem_assign ((Value.bool false)) rfl ?_)
  refine Run.region_end ?_
  refine Run.condF rfl ?_
  refine Run.seq ?_
  refine Run.ops0 (idx := [0, 1, 2, 3]) rfl ?_
  refine Run.go rfl rfl rfl (sem_move ((Value.int .i64 (i2))) rfl ?_)
  refine Run.go rfl rfl rfl (sem_callL [(Value.int .i64 (i2))] (TF.goes_93) rfl rfl (Spec.mono hS fun v h25 hv => ?_))
  obtain ⟨b26, rfl, hS⟩ := hv
  obtain ⟨hT, hF⟩ := hS
  cases b26
  ·have hS := hF rfl; clear hT hF
   refine Run.go rfl rfl rfl (sem_not false rfl ?_)
   refine Run.go rfl rfl rfl (sem_assign ((Value.bool true)) rfl ?_)
   refine Run.region_end ?_
   refine Run.condT rfl ?_
   refine Run.seq ?_
   refine Run.ops0 (idx := [0]) rfl ?_
   refine Run.go rfl rfl rfl (sem_assign ((Value.int .i64 (1))) rfl ?_)
   refine Run.region_end ?_
   refine Run.ret ⟨.inr rfl, ?_⟩
   exact hS.imp fun h' hq => ⟨(1), rfl, hq⟩
  ·have hS := hT rfl; clear hT hF
   refine Run.go rfl rfl rfl (sem_not true rfl ?_)
   refine Run.go rfl rfl rfl (sem_assign ((Value.bool false)) rfl ?_)
   refine Run.region_end ?_
   refine Run.condF rfl ?_
   refine Run.skip ?_
   refine Run.inBlock ?_
   exact Run.of_fin (hS.imp fun h' hS => j4 _ _ ⟨⟨rfl, rfl, trivial⟩, hS⟩)
set_option maxHeartbeats 4000000 in
theorem C_countermandref04_Open.of {B : RO} {p1 : Option Addr} {i2 : Int} {h : Heap} {Q : Option Addr → Heap → Prop} (hS : S_countermandref04_Open B p1 i2 h Q) : C_countermandref04_Open B p1 i2 h Q := by
 unfold S_countermandref04_Open at hS
 unfold C_countermandref04_Open
 refine Spec.of_run Try.func96 (N := 20) (rs := [ResultVar.tmp 4]) rfl rfl rfl (Nat.le_of_ble_eq_true rfl) ?_
 refine Run.seq ?_
 refine Run.ops0 (idx := [0]) rfl ?_
 refine Run.go rfl rfl rfl (sem_assign ((Value.pointer none)) rfl ?_)
 refine Run.region_end ?_
 refine Run.seq ?_
 refine Run.ops0 (idx := [0, 1, 2, 3, 4]) rfl ?_
 refine Run.go rfl rfl rfl (sem_move ((Value.pointer p1)) rfl ?_)
 refine Run.go rfl rfl rfl (sem_move ((Value.int .i64 (i2))) rfl ?_)
 refine Run.go rfl rfl rfl (sem_buildSL [(0, (Value.pointer p1)), (1, (Value.int .i64 (i2)))] [(Value.pointer p1), (Value.int .i64 (i2)), (Value.bool false)] TF.zero_90 TF.places_90 rfl rfl ?_)
 refine Run.go rfl rfl rfl (sem_boxNN [(Value.pointer p1), (Value.int .i64 (i2)), (Value.bool false)] rfl (fun k4 hb1 hb2 h5 hb3 => ?_))
 have hS := hS k4 hb1 hb2 h5 hb3
 refine Run.go rfl rfl rfl (sem_assign ((Value.pointer (some ⟨k4, 0, none⟩))) rfl ?_)
 refine Run.region_end ?_
 refine Run.seq ?_
 refine Run.ops0 (idx := [0, 1, 2, 3, 4, 5, 6, 7, 8, 9]) rfl ?_
 refine Run.go rfl rfl rfl (sem_move ((Value.pointer (some ⟨k4, 0, none⟩))) rfl ?_)
 refine Run.go rfl rfl rfl (sem_move ((Value.pointer (some ⟨k4, 0, none⟩))) rfl ?_)
 refine Run.go rfl rfl rfl (sem_callL [(Value.pointer (some ⟨k4, 0, none⟩))] (TF.goes_59) rfl rfl (Spec.mono hS fun v h6 hv => ?_))
 obtain ⟨i7, rfl, hS⟩ := hv
 refine Run.go rfl rfl rfl (sem_move ((Value.pointer (some ⟨k4, 0, none⟩))) rfl ?_)
 refine Run.go rfl rfl rfl (sem_callL [(Value.pointer (some ⟨k4, 0, none⟩))] (TF.goes_56) rfl rfl (Spec.mono hS fun v h8 hv => ?_))
 obtain ⟨s9, rfl, hS⟩ := hv
 refine Run.go rfl rfl rfl (sem_lenStr s9 rfl TF.isStr_9 ?_)
 refine Run.go rfl rfl rfl (sem_binI .i64 (i7) ((ByteArray.size s9 : Nat)) ((Value.bool (decide ((i7 : Int) < ((ByteArray.size s9 : Nat)))))) rfl rfl rfl ?_)
 refine Run.go rfl rfl rfl (sem_nilCheck ⟨k4, 0, none⟩ rfl ?_)
 refine Run.go rfl rfl rfl (sem_fieldAddr ⟨k4, 0, none⟩ 2 rfl TF.fld_90_2 ?_)
 obtain ⟨h10, hst, hS⟩ := hS
 refine Run.go rfl rfl rfl (sem_store1 ⟨k4, 2, none⟩ ((Value.bool (decide ((i7 : Int) < ((ByteArray.size s9 : Nat)))))) h10 rfl rfl rfl TF.sz_4 hst ?_)
 refine Run.region_end ?_
 refine Run.seq ?_
 refine Run.ops0 (idx := [0, 1]) rfl ?_
 refine Run.go rfl rfl rfl (sem_move ((Value.pointer (some ⟨k4, 0, none⟩))) rfl ?_)
 refine Run.go rfl rfl rfl (sem_assign ((Value.pointer (some ⟨k4, 0, none⟩))) rfl ?_)
 refine Run.region_end ?_
 refine Run.ret ⟨.inr rfl, ?_⟩
 exact hS.imp fun h' hq => ⟨(some ⟨k4, 0, none⟩), rfl, hq⟩
end Go.Proofs.Ythloobpjkeodgaa.H
