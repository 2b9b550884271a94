/- The functions do what they ask for. No condition. -/
import Derived.Test.YtcncdfmnpmmikaaXvS
namespace Go.Proofs.Ytcncdfmnpmmikaa.H
open Go
set_option linter.unusedVariables false
set_option maxRecDepth 100000

set_option maxHeartbeats 4000000 in
theorem C_countermandref05_Told.of {B : RO} {s1 : ByteArray} {h : Heap} {Q : Int → ByteArray → Option Addr → Nat → Nat → Heap → Prop} (hS : S_countermandref05_Told B s1 h Q) : C_countermandref05_Told B s1 h Q := by
 unfold S_countermandref05_Told at hS
 unfold C_countermandref05_Told
 refine Spec.of_run Try.func83 (N := 69) (rs := [ResultVar.tmp 2, ResultVar.tmp 3, ResultVar.tmp 4]) rfl rfl rfl (Nat.le_of_ble_eq_true rfl) ?_
 refine Run.seq ?_
 refine Run.ops0 (idx := [0, 1, 2]) rfl ?_
 refine Run.go rfl rfl rfl (sem_assign ((Value.int .i64 (0))) rfl ?_)
 refine Run.go rfl rfl rfl (sem_assign ((Value.string (ByteArray.mk #[]))) rfl ?_)
 refine Run.go rfl rfl rfl (sem_assign ((Value.slice none 0 0)) rfl ?_)
 refine Run.region_end ?_
 refine Run.seq ?_
 refine Run.ops0 (idx := [0]) rfl ?_
 refine Run.go rfl rfl rfl (sem_assign ((Value.slice none 0 0)) rfl ?_)
 refine Run.region_end ?_
 refine Run.seq ?_
 refine Run.ops0 (idx := [0]) rfl ?_
 refine Run.go rfl rfl rfl (sem_assign ((Value.int .i64 (0))) rfl ?_)
 refine Run.region_end ?_
 refine Run.seq ?_
 refine Run.ops0 (idx := [0]) rfl ?_
 refine Run.go rfl rfl rfl (sem_assign ((Value.string (ByteArray.mk #[]))) rfl ?_)
 refine Run.region_end ?_
 refine Run.seq ?_
 refine Run.seq ?_
 refine Run.ops0 (idx := [0, 1, 2, 3]) rfl ?_
 refine Run.go rfl rfl rfl (sem_move ((Value.string s1)) rfl ?_)
 refine Run.go rfl rfl rfl (sem_callL [(Value.string s1)] (TF.goes_112) rfl rfl (Spec.mono hS fun v h7 hv => ?_))
 obtain ⟨a8, n9, c10, rfl, hS⟩ := hv
 refine Run.go rfl rfl rfl (sem_lenSl a8 n9 c10 rfl TF.sl_45 ?_)
 refine Run.go rfl rfl rfl (sem_move ((Value.int .i64 (0))) rfl ?_)
 refine Run.region_end ?_
 refine Run.block ?_
 obtain ⟨J21, m19, h0, hS⟩ := hS
 refine Run.of_fin (h0.imp fun h' h0 => ?_)
 refine Run.loop (σ := (Option Addr) × Nat × Nat × Int × ByteArray × Int × Nat) (fun x e h => J21 x.1 x.2.1 x.2.2.1 x.2.2.2.1 x.2.2.2.2.1 x.2.2.2.2.2.1 x.2.2.2.2.2.2 h ∧ Agree [(5, (Value.slice x.1 x.2.1 x.2.2.1)), (6, (Value.int .i64 (x.2.2.2.1))), (7, (Value.string x.2.2.2.2.1)), (13, (Value.slice a8 n9 c10)), (14, (Value.int .i64 ((n9 : Nat)))), (15, (Value.int .i64 (x.2.2.2.2.2.1)))] e) (fun x => x.2.2.2.2.2.2) (none, 0, 0, (0), (ByteArray.mk #[]), (0), m19) ⟨h0, ⟨rfl, rfl, rfl, rfl, rfl, rfl, trivial⟩⟩ ?_; clear h0
 rintro ⟨a11, n12, c13, i14, s15, i16, m18⟩ e h17 ⟨hJ, hag⟩ ih20
 have hS := hS a11 n12 c13 i14 s15 i16 m18 h17 hJ; clear hJ
 refine Run.env hag ?_; clear hag
 refine Run.seq ?_
 refine Run.ops0 (idx := [0]) rfl ?_
 obtain ⟨hT, hF⟩ := hS
 by_cases hb22 : (i16 : Int) < ((n9 : Nat))
 ·have hS := hT hb22; clear hT hF
  refine Run.go rfl rfl rfl (sem_binI .i64 (i16) ((n9 : Nat)) (.bool true) rfl rfl (binI_lss_t hb22) ?_)
  refine Run.region_end ?_
  refine Run.seq ?_
  refine Run.condT rfl ?_
  refine Run.skip ?_
  refine Run.seq ?_
  refine Run.block ?_
  refine Run.seq ?_
  refine Run.ops0 (idx := [0, 1, 2, 3, 4]) rfl ?_
  refine Run.go rfl rfl rfl (sem_move ((Value.int .i64 (i16))) rfl ?_)
  obtain ⟨A23, e24, hi0, hi1, hS⟩ := hS
  refine Run.go rfl rfl rfl (sem_indexAddrS A23 n9 c10 .i64 (i16) (congrArg (fun a => Value.slice a n9 c10) e24) rfl TF.slc_45 hi0 hi1 ?_)
  obtain ⟨s25, hl, hS⟩ := hS
  refine Run.go rfl rfl rfl (sem_load1 (Addr.add A23 (Int.toNat (i16) * 1)) ((Value.string s25)) rfl TF.agg_9 hl ?_)
  refine Run.go rfl rfl rfl (sem_assign ((Value.int .i64 (i16))) rfl ?_)
  refine Run.go rfl rfl rfl (sem_assign ((Value.string s25)) rfl ?_)
  refine Run.region_end ?_
  refine Run.seq ?_
  refine Run.seq ?_
  refine Run.ops0 (idx := [0, 1]) rfl ?_
  refine Run.go rfl rfl rfl (sem_move ((Value.int .i64 (i16))) rfl ?_)
  obtain ⟨hT, hF⟩ := hS
  by_cases hb26 : (i16 : Int) = 0
  ·have hS := hT hb26; clear hT hF
   refine Run.go rfl rfl rfl (sem_binI .i64 (i16) (0) (.bool true) rfl rfl (binI_eql_t hb26) ?_)
   refine Run.region_end ?_
   refine Run.condT rfl ?_
   refine Run.seqJ (fun e h28 => Agree [(5, (Value.slice a11 n12 c13)), (9, (Value.string s25)), (13, (Value.slice a8 n9 c10)), (14, (Value.int .i64 ((n9 : Nat)))), (15, (Value.int .i64 (i16)))] e ∧ S_countermandref05_Told_J1 B a8 n9 c10 a11 n12 c13 i16 m18 J21 s25 h28 Q) ?_ fun j27 => ?_
   ·rintro e h28 ⟨hag, hS⟩
    refine Run.env hag ?_; clear hag
    refine Run.seq ?_
    refine Run.ops0 (idx := [0, 1, 2, 3, 4, 5, 6, 7]) rfl ?_
    refine Run.go rfl rfl rfl (sem_move ((Value.string s25)) rfl ?_)
    obtain ⟨hi0, hi1, hi2, hS⟩ := hS
    refine Run.go rfl rfl rfl (sem_sliceStrI s25 (1) ((ByteArray.size s25 : Nat)) rfl TF.isStr_9 ⟨_, rfl⟩ rfl hi0 hi1 hi2 ?_)
    refine Run.go rfl rfl rfl (sem_callL [(Value.string (ByteArray.extract s25 (Int.toNat (1)) (Int.toNat ((ByteArray.size s25 : Nat)))))] (TF.goes_113) rfl rfl (Spec.mono hS fun v h29 hv => ?_))
    obtain ⟨i30, i31, rfl, hS⟩ := hv
    refine Run.go rfl rfl rfl (sem_move ((Value.tuple #[(Value.int .u64 (i30)), (Value.int .i64 (i31))])) rfl ?_)
    refine Run.go rfl rfl rfl (sem_extract #[(Value.int .u64 (i30)), (Value.int .i64 (i31))] ((Value.int .u64 (i30))) rfl rfl ?_)
    refine Run.go rfl rfl rfl (sem_extract #[(Value.int .u64 (i30)), (Value.int .i64 (i31))] ((Value.int .i64 (i31))) rfl rfl ?_)
    refine Run.go rfl rfl rfl (sem_assign ((Value.int .u64 (i30))) rfl ?_)
    refine Run.go rfl rfl rfl (sem_assign ((Value.int .i64 (i31))) rfl ?_)
    refine Run.region_end ?_
    refine Run.seqJ (fun e h33 => Agree [(5, (Value.slice a11 n12 c13)), (9, (Value.string s25)), (10, (Value.int .u64 (i30))), (11, (Value.int .i64 (i31))), (13, (Value.slice a8 n9 c10)), (14, (Value.int .i64 ((n9 : Nat)))), (15, (Value.int .i64 (i16)))] e ∧ S_countermandref05_Told_J2 B a8 n9 c10 a11 n12 c13 i16 m18 J21 s25 i30 i31 h33 Q) ?_ fun j32 => ?_
    ·rintro e h33 ⟨hag, hS⟩
     refine Run.env hag ?_; clear hag
     refine Run.seq ?_
     refine Run.ops0 (idx := [0, 1, 2]) rfl ?_
     refine Run.go rfl rfl rfl (sem_move ((Value.int .u64 (i30))) rfl ?_)
     refine Run.go rfl rfl rfl (sem_convI .u64 .i64 (i30) rfl TF.int_188 TF.int_3 ?_)
     refine Run.go rfl rfl rfl (sem_assign ((Value.int .i64 (IntKind.wrap .i64 (i30)))) rfl ?_)
     refine Run.region_end ?_
     refine Run.seq ?_
     refine Run.ops0 (idx := [0, 1, 2, 3, 4]) rfl ?_
     refine Run.go rfl rfl rfl (sem_move ((Value.string s25)) rfl ?_)
     refine Run.go rfl rfl rfl (sem_move ((Value.int .i64 (i31))) rfl ?_)
     refine Run.go rfl rfl rfl (sem_binI .i64 (1) (i31) ((Value.int .i64 (IntKind.wrap .i64 ((1) + (i31))))) rfl rfl rfl ?_)
     obtain ⟨hi0, hi1, hi2, hS⟩ := hS
     refine Run.go rfl rfl rfl (sem_sliceStrI s25 (IntKind.wrap .i64 ((1) + (i31))) ((ByteArray.size s25 : Nat)) rfl TF.isStr_9 ⟨_, rfl⟩ rfl hi0 hi1 hi2 ?_)
     refine Run.go rfl rfl rfl (sem_assign ((Value.string (ByteArray.extract s25 (Int.toNat (IntKind.wrap .i64 ((1) + (i31)))) (Int.toNat ((ByteArray.size s25 : Nat)))))) rfl ?_)
     refine Run.region_end ?_
     refine Run.exit rfl ?_
     refine Run.ops0 (idx := [0, 1]) rfl ?_
     refine Run.go rfl rfl rfl (sem_binI .i64 (i16) (1) ((Value.int .i64 (IntKind.wrap .i64 ((i16) + (1))))) rfl rfl rfl ?_)
     refine Run.go rfl rfl rfl (sem_move ((Value.int .i64 (IntKind.wrap .i64 ((i16) + (1))))) rfl ?_)
     refine Run.region_end ?_
     exact Run.of_fin (hS.imp fun h' ⟨m', hm, hS⟩ => ih20 (a11, n12, c13, (IntKind.wrap .i64 (i30)), (ByteArray.extract s25 (Int.toNat (IntKind.wrap .i64 ((1) + (i31)))) (Int.toNat ((ByteArray.size s25 : Nat)))), (IntKind.wrap .i64 ((i16) + (1))), m') _ _ ⟨hS, ⟨rfl, rfl, rfl, rfl, rfl, rfl, trivial⟩⟩ hm)
    refine Run.seq ?_
    refine Run.ops0 (idx := [0, 1, 2, 3, 4, 5, 6, 7, 8, 9]) rfl ?_
    refine Run.go rfl rfl rfl (sem_move ((Value.int .i64 (i31))) rfl ?_)
    obtain ⟨hT, hF⟩ := hS
    by_cases hb34 : (i31 : Int) = 0
    ·have hS := hT hb34; clear hT hF
     refine Run.go rfl rfl rfl (sem_binI .i64 (i31) (0) (.bool true) rfl rfl (binI_eql_t hb34) ?_)
     refine Run.go rfl rfl rfl (sem_move ((Value.bool true)) rfl ?_)
     refine Run.no rfl rfl rfl ?_
     refine Run.no rfl rfl rfl ?_
     refine Run.go rfl rfl rfl (sem_pick true ((Value.bool true)) rfl rfl ?_)
     refine Run.go rfl rfl rfl (sem_move ((Value.bool true)) rfl ?_)
     refine Run.no rfl rfl rfl ?_
     refine Run.no rfl rfl rfl ?_
     refine Run.go rfl rfl rfl (sem_pick true ((Value.bool true)) rfl rfl ?_)
     refine Run.region_end ?_
     refine Run.condT rfl ?_
     refine Run.seq ?_
     refine Run.ops0 (idx := [0, 1, 2]) rfl ?_
     refine Run.go rfl rfl rfl (sem_assign ((Value.int .i64 (0))) rfl ?_)
     refine Run.go rfl rfl rfl (sem_assign ((Value.string (ByteArray.mk #[]))) rfl ?_)
     refine Run.go rfl rfl rfl (sem_assign ((Value.slice none 0 0)) rfl ?_)
     refine Run.region_end ?_
     refine Run.ret ⟨.inr rfl, ?_⟩
     exact hS.imp fun h' hq => ⟨(0), (ByteArray.mk #[]), none, 0, 0, rfl, hq⟩
    ·have hS := hF hb34; clear hT hF
     refine Run.go rfl rfl rfl (sem_binI .i64 (i31) (0) (.bool false) rfl rfl (binI_eql_f hb34) ?_)
     refine Run.go rfl rfl rfl (sem_move ((Value.bool false)) rfl ?_)
     refine Run.go rfl rfl rfl (sem_move ((Value.int .u64 (i30))) rfl ?_)
     obtain ⟨hT, hF⟩ := hS
     by_cases hb35 : (i30 : Int) = 0
     ·have hS := hT hb35; clear hT hF
      refine Run.go rfl rfl rfl (sem_binI .u64 (i30) (0) (.bool true) rfl rfl (binI_eql_t hb35) ?_)
      refine Run.go rfl rfl rfl (sem_pick false ((Value.bool true)) rfl rfl ?_)
      refine Run.go rfl rfl rfl (sem_move ((Value.bool true)) rfl ?_)
      refine Run.no rfl rfl rfl ?_
      refine Run.no rfl rfl rfl ?_
      refine Run.go rfl rfl rfl (sem_pick true ((Value.bool true)) rfl rfl ?_)
      refine Run.region_end ?_
      refine Run.condT rfl ?_
      refine Run.seq ?_
      refine Run.ops0 (idx := [0, 1, 2]) rfl ?_
      refine Run.go rfl rfl rfl (sem_assign ((Value.int .i64 (0))) rfl ?_)
      refine Run.go rfl rfl rfl (sem_assign ((Value.string (ByteArray.mk #[]))) rfl ?_)
      refine Run.go rfl rfl rfl (sem_assign ((Value.slice none 0 0)) rfl ?_)
      refine Run.region_end ?_
      refine Run.ret ⟨.inr rfl, ?_⟩
      exact hS.imp fun h' hq => ⟨(0), (ByteArray.mk #[]), none, 0, 0, rfl, hq⟩
     ·have hS := hF hb35; clear hT hF
      refine Run.go rfl rfl rfl (sem_binI .u64 (i30) (0) (.bool false) rfl rfl (binI_eql_f hb35) ?_)
      refine Run.go rfl rfl rfl (sem_pick false ((Value.bool false)) rfl rfl ?_)
      refine Run.go rfl rfl rfl (sem_move ((Value.bool false)) rfl ?_)
      refine Run.go rfl rfl rfl (sem_move ((Value.int .u64 (i30))) rfl ?_)
      obtain ⟨hT, hF⟩ := hS
      by_cases hb36 : (i30 : Int) > (1099511627776)
      ·have hS := hT hb36; clear hT hF
       refine Run.go rfl rfl rfl (sem_binI .u64 (i30) (1099511627776) (.bool true) rfl rfl (binI_gtr_t hb36) ?_)
       refine Run.go rfl rfl rfl (sem_pick false ((Value.bool true)) rfl rfl ?_)
       refine Run.region_end ?_
       refine Run.condT rfl ?_
       refine Run.seq ?_
       refine Run.ops0 (idx := [0, 1, 2]) rfl ?_
       refine Run.go rfl rfl rfl (sem_assign ((Value.int .i64 (0))) rfl ?_)
       refine Run.go rfl rfl rfl (sem_assign ((Value.string (ByteArray.mk #[]))) rfl ?_)
       refine Run.go rfl rfl rfl (sem_assign ((Value.slice none 0 0)) rfl ?_)
       refine Run.region_end ?_
       refine Run.ret ⟨.inr rfl, ?_⟩
       exact hS.imp fun h' hq => ⟨(0), (ByteArray.mk #[]), none, 0, 0, rfl, hq⟩
      ·have hS := hF hb36; clear hT hF
       refine Run.go rfl rfl rfl (sem_binI .u64 (i30) (1099511627776) (.bool false) rfl rfl (binI_gtr_f hb36) ?_)
       refine Run.go rfl rfl rfl (sem_pick false ((Value.bool false)) rfl rfl ?_)
       refine Run.region_end ?_
       refine Run.condF rfl ?_
       refine Run.skip ?_
       exact Run.of_fin (hS.imp fun h' hS => j32 _ _ ⟨⟨rfl, rfl, rfl, rfl, rfl, rfl, rfl, trivial⟩, hS⟩)
   refine Run.seq ?_
   refine Run.ops0 (idx := [0, 1, 2, 3, 4, 5, 6, 7]) rfl ?_
   refine Run.go rfl rfl rfl (sem_move ((Value.string s25)) rfl ?_)
   refine Run.go rfl rfl rfl (sem_lenStr s25 rfl TF.isStr_9 ?_)
   obtain ⟨hT, hF⟩ := hS
   by_cases hb37 : ((ByteArray.size s25 : Nat) : Int) = 0
   ·have hS := hT hb37; clear hT hF
    refine Run.go rfl rfl rfl (sem_binI .i64 ((ByteArray.size s25 : Nat)) (0) (.bool true) rfl rfl (binI_eql_t hb37) ?_)
    refine Run.go rfl rfl rfl (sem_move ((Value.bool true)) rfl ?_)
    refine Run.no rfl rfl rfl ?_
    refine Run.no rfl rfl rfl ?_
    refine Run.no rfl rfl rfl ?_
    refine Run.go rfl rfl rfl (sem_pick true ((Value.bool true)) rfl rfl ?_)
    refine Run.region_end ?_
    refine Run.condT rfl ?_
    refine Run.seq ?_
    refine Run.ops0 (idx := [0, 1, 2]) rfl ?_
    refine Run.go rfl rfl rfl (sem_assign ((Value.int .i64 (0))) rfl ?_)
    refine Run.go rfl rfl rfl (sem_assign ((Value.string (ByteArray.mk #[]))) rfl ?_)
    refine Run.go rfl rfl rfl (sem_assign ((Value.slice none 0 0)) rfl ?_)
    refine Run.region_end ?_
    refine Run.ret ⟨.inr rfl, ?_⟩
    exact hS.imp fun h' hq => ⟨(0), (ByteArray.mk #[]), none, 0, 0, rfl, hq⟩
   ·have hS := hF hb37; clear hT hF
    refine Run.go rfl rfl rfl (sem_binI .i64 ((ByteArray.size s25 : Nat)) (0) (.bool false) rfl rfl (binI_eql_f hb37) ?_)
    refine Run.go rfl rfl rfl (sem_move ((Value.bool false)) rfl ?_)
    refine Run.go rfl rfl rfl (sem_move ((Value.string s25)) rfl ?_)
    obtain ⟨hi0, hi1, hS⟩ := hS
    refine Run.go rfl rfl rfl (sem_indexStr' s25 .i64 (0) rfl rfl TF.isStr_9 hi0 hi1 ?_)
    obtain ⟨hT, hF⟩ := hS
    by_cases hb38 : (byteAt s25 (Int.toNat (0)) : Int) = 0
    ·have hS := hT hb38; clear hT hF
     refine Run.go rfl rfl rfl (sem_binI .u8 (byteAt s25 (Int.toNat (0))) (0) (.bool false) rfl rfl (binI_neq_t hb38) ?_)
     refine Run.go rfl rfl rfl (sem_pick false ((Value.bool false)) rfl rfl ?_)
     refine Run.region_end ?_
     refine Run.condF rfl ?_
     refine Run.skip ?_
     exact Run.of_fin (hS.imp fun h' hS => j27 _ _ ⟨⟨rfl, rfl, rfl, rfl, rfl, trivial⟩, hS⟩)
    ·have hS := hF hb38; clear hT hF
     refine Run.go rfl rfl rfl (sem_binI .u8 (byteAt s25 (Int.toNat (0))) (0) (.bool true) rfl rfl (binI_neq_f hb38) ?_)
     refine Run.go rfl rfl rfl (sem_pick false ((Value.bool true)) rfl rfl ?_)
     refine Run.region_end ?_
     refine Run.condT rfl ?_
     refine Run.seq ?_
     refine Run.ops0 (idx := [0, 1, 2]) rfl ?_
     refine Run.go rfl rfl rfl (sem_assign ((Value.int .i64 (0))) rfl ?_)
     refine Run.go rfl rfl rfl (sem_assign ((Value.string (ByteArray.mk #[]))) rfl ?_)
     refine Run.go rfl rfl rfl (sem_assign ((Value.slice none 0 0)) rfl ?_)
     refine Run.region_end ?_
     refine Run.ret ⟨.inr rfl, ?_⟩
     exact hS.imp fun h' hq => ⟨(0), (ByteArray.mk #[]), none, 0, 0, rfl, hq⟩
  ·have hS := hF hb26; clear hT hF
   refine Run.go rfl rfl rfl (sem_binI .i64 (i16) (0) (.bool false) rfl rfl (binI_eql_f hb26) ?_)
   refine Run.region_end ?_
   refine Run.condF rfl ?_
   refine Run.skip ?_
   refine Run.seqJ (fun e h40 => Agree [(5, (Value.slice a11 n12 c13)), (6, (Value.int .i64 (i14))), (7, (Value.string s15)), (9, (Value.string s25)), (13, (Value.slice a8 n9 c10)), (14, (Value.int .i64 ((n9 : Nat)))), (15, (Value.int .i64 (i16)))] e ∧ S_countermandref05_Told_J3 B a8 n9 c10 a11 n12 c13 i14 s15 i16 m18 J21 s25 h40 Q) ?_ fun j39 => ?_
   ·rintro e h40 ⟨hag, hS⟩
    refine Run.env hag ?_; clear hag
    refine Run.ops0 (idx := [0, 1, 2, 3, 4, 5]) rfl ?_
    refine Run.go rfl rfl rfl (sem_move ((Value.slice a11 n12 c13)) rfl ?_)
    refine Run.go rfl rfl rfl (sem_move ((Value.string s25)) rfl ?_)
    obtain ⟨hi0, hi1, hi2, hS⟩ := hS
    refine Run.go rfl rfl rfl (sem_sliceStrI s25 (1) ((ByteArray.size s25 : Nat)) rfl TF.isStr_9 ⟨_, rfl⟩ rfl hi0 hi1 hi2 ?_)
    refine Run.go rfl rfl rfl (sem_buildSliceL [(0, (Value.string (ByteArray.extract s25 (Int.toNat (1)) (Int.toNat ((ByteArray.size s25 : Nat))))))] [(Value.string (ByteArray.extract s25 (Int.toNat (1)) (Int.toNat ((ByteArray.size s25 : Nat)))))] TF.slc_45 TF.zero_9 rfl (by decide) (by decide) rfl rfl (fun k41 hb1 hb2 h42 hb3 => ?_))
    have hS := hS k41 hb1 hb2 h42 hb3
    refine Run.go rfl rfl rfl (sem_appendL [(Value.slice a11 n12 c13), (Value.slice (some ⟨k41, 0, none⟩) 1 1)] rfl (semH_mono (fun v h43 hv => ?_) hS))
    obtain ⟨a44, n45, c46, rfl, hS⟩ := hv
    refine Run.go rfl rfl rfl (sem_assign ((Value.slice a44 n45 c46)) rfl ?_)
    refine Run.region_end ?_
    refine Run.inBlock ?_
    refine Run.ops0 (idx := [0, 1]) rfl ?_
    refine Run.go rfl rfl rfl (sem_binI .i64 (i16) (1) ((Value.int .i64 (IntKind.wrap .i64 ((i16) + (1))))) rfl rfl rfl ?_)
    refine Run.go rfl rfl rfl (sem_move ((Value.int .i64 (IntKind.wrap .i64 ((i16) + (1))))) rfl ?_)
    refine Run.region_end ?_
    exact Run.of_fin (hS.imp fun h' ⟨m', hm, hS⟩ => ih20 (a44, n45, c46, (i14), s15, (IntKind.wrap .i64 ((i16) + (1))), m') _ _ ⟨hS, ⟨rfl, rfl, rfl, rfl, rfl, rfl, trivial⟩⟩ hm)
   refine Run.seq ?_
   refine Run.ops0 (idx := [0, 1, 2, 3, 4, 5, 6, 7]) rfl ?_
   refine Run.go rfl rfl rfl (sem_move ((Value.string s25)) rfl ?_)
   refine Run.go rfl rfl rfl (sem_lenStr s25 rfl TF.isStr_9 ?_)
   obtain ⟨hT, hF⟩ := hS
   by_cases hb47 : ((ByteArray.size s25 : Nat) : Int) = 0
   ·have hS := hT hb47; clear hT hF
    refine Run.go rfl rfl rfl (sem_binI .i64 ((ByteArray.size s25 : Nat)) (0) (.bool true) rfl rfl (binI_eql_t hb47) ?_)
    refine Run.go rfl rfl rfl (sem_move ((Value.bool true)) rfl ?_)
    refine Run.no rfl rfl rfl ?_
    refine Run.no rfl rfl rfl ?_
    refine Run.no rfl rfl rfl ?_
    refine Run.go rfl rfl rfl (sem_pick true ((Value.bool true)) rfl rfl ?_)
    refine Run.region_end ?_
    refine Run.condT rfl ?_
    refine Run.exit rfl ?_
    refine Run.seq ?_
    refine Run.ops0 (idx := [0, 1, 2, 3, 4, 5]) rfl ?_
    refine Run.go rfl rfl rfl (sem_move ((Value.int .i64 (i14))) rfl ?_)
    refine Run.go rfl rfl rfl (sem_move ((Value.string s15)) rfl ?_)
    refine Run.go rfl rfl rfl (sem_move ((Value.slice a11 n12 c13)) rfl ?_)
    refine Run.go rfl rfl rfl (sem_assign ((Value.int .i64 (i14))) rfl ?_)
    refine Run.go rfl rfl rfl (sem_assign ((Value.string s15)) rfl ?_)
    refine Run.go rfl rfl rfl (sem_assign ((Value.slice a11 n12 c13)) rfl ?_)
    refine Run.region_end ?_
    refine Run.ret ⟨.inr rfl, ?_⟩
    exact hS.imp fun h' hq => ⟨(i14), s15, a11, n12, c13, rfl, hq⟩
   ·have hS := hF hb47; clear hT hF
    refine Run.go rfl rfl rfl (sem_binI .i64 ((ByteArray.size s25 : Nat)) (0) (.bool false) rfl rfl (binI_eql_f hb47) ?_)
    refine Run.go rfl rfl rfl (sem_move ((Value.bool false)) rfl ?_)
    refine Run.go rfl rfl rfl (sem_move ((Value.string s25)) rfl ?_)
    obtain ⟨hi0, hi1, hS⟩ := hS
    refine Run.go rfl rfl rfl (sem_indexStr' s25 .i64 (0) rfl rfl TF.isStr_9 hi0 hi1 ?_)
    obtain ⟨hT, hF⟩ := hS
    by_cases hb48 : (byteAt s25 (Int.toNat (0)) : Int) = 1
    ·have hS := hT hb48; clear hT hF
     refine Run.go rfl rfl rfl (sem_binI .u8 (byteAt s25 (Int.toNat (0))) (1) (.bool false) rfl rfl (binI_neq_t hb48) ?_)
     refine Run.go rfl rfl rfl (sem_pick false ((Value.bool false)) rfl rfl ?_)
     refine Run.region_end ?_
     refine Run.condF rfl ?_
     refine Run.skip ?_
     exact Run.of_fin (hS.imp fun h' hS => j39 _ _ ⟨⟨rfl, rfl, rfl, rfl, rfl, rfl, rfl, trivial⟩, hS⟩)
    ·have hS := hF hb48; clear hT hF
     refine Run.go rfl rfl rfl (sem_binI .u8 (byteAt s25 (Int.toNat (0))) (1) (.bool true) rfl rfl (binI_neq_f hb48) ?_)
     refine Run.go rfl rfl rfl (sem_pick false ((Value.bool true)) rfl rfl ?_)
     refine Run.region_end ?_
     refine Run.condT rfl ?_
     refine Run.exit rfl ?_
     refine Run.seq ?_
     refine Run.ops0 (idx := [0, 1, 2, 3, 4, 5]) rfl ?_
     refine Run.go rfl rfl rfl (sem_move ((Value.int .i64 (i14))) rfl ?_)
     refine Run.go rfl rfl rfl (sem_move ((Value.string s15)) rfl ?_)
     refine Run.go rfl rfl rfl (sem_move ((Value.slice a11 n12 c13)) rfl ?_)
     refine Run.go rfl rfl rfl (sem_assign ((Value.int .i64 (i14))) rfl ?_)
     refine Run.go rfl rfl rfl (sem_assign ((Value.string s15)) rfl ?_)
     refine Run.go rfl rfl rfl (sem_assign ((Value.slice a11 n12 c13)) rfl ?_)
     refine Run.region_end ?_
     refine Run.ret ⟨.inr rfl, ?_⟩
     exact hS.imp fun h' hq => ⟨(i14), s15, a11, n12, c13, rfl, hq⟩
 ·have hS := hF hb22; clear hT hF
  refine Run.go rfl rfl rfl (sem_binI .i64 (i16) ((n9 : Nat)) (.bool false) rfl rfl (binI_lss_f hb22) ?_)
  refine Run.region_end ?_
  refine Run.seq ?_
  refine Run.condF rfl ?_
  refine Run.exit rfl ?_
  refine Run.seq ?_
  refine Run.ops0 (idx := [0, 1, 2, 3, 4, 5]) rfl ?_
  refine Run.go rfl rfl rfl (sem_move ((Value.int .i64 (i14))) rfl ?_)
  refine Run.go rfl rfl rfl (sem_move ((Value.string s15)) rfl ?_)
  refine Run.go rfl rfl rfl (sem_move ((Value.slice a11 n12 c13)) rfl ?_)
  refine Run.go rfl rfl rfl (sem_assign ((Value.int .i64 (i14))) rfl ?_)
  refine Run.go rfl rfl rfl (sem_assign ((Value.string s15)) rfl ?_)
  refine Run.go rfl rfl rfl (sem_assign ((Value.slice a11 n12 c13)) rfl ?_)
  refine Run.region_end ?_
  refine Run.ret ⟨.inr rfl, ?_⟩
  exact hS.imp fun h' hq => ⟨(i14), s15, a11, n12, c13, rfl, hq⟩
set_option maxHeartbeats 4000000 in
theorem C_wal_Log_Size.of {B : RO} {p1 : Option Addr} {h : Heap} {Q : Int → Heap → Prop} (hS : S_wal_Log_Size B p1 h Q) : C_wal_Log_Size B p1 h Q := by
 unfold S_wal_Log_Size at hS
 unfold C_wal_Log_Size
 refine Spec.of_run Try.func84 (N := 9) (rs := [ResultVar.tmp 2]) rfl rfl rfl (Nat.le_of_ble_eq_true rfl) ?_
 refine Run.seq ?_
 refine Run.ops0 (idx := [0]) rfl ?_
 refine Run.go rfl rfl rfl (sem_assign ((Value.int .i64 (0))) rfl ?_)
 refine Run.region_end ?_
 refine Run.seq ?_
 refine Run.seq ?_
 refine Run.ops0 (idx := [0, 1]) rfl ?_
 refine Run.go rfl rfl rfl (sem_move ((Value.pointer p1)) rfl ?_)
 obtain ⟨hT, hF⟩ := hS
 by_cases hb3 : p1 = none
 ·have hS := hT hb3; clear hT hF
  refine Run.go rfl rfl rfl (sem_ptrNilT p1 (.inl rfl) true rfl rfl TF.ptr_136 hb3 rfl ?_)
  refine Run.region_end ?_
  refine Run.condT rfl ?_
  refine Run.seq ?_
  refine Run.ops0 (idx := [0]) rfl ?_
  refine Run.go rfl rfl rfl (sem_assign ((Value.int .i64 (0))) rfl ?_)
  refine Run.region_end ?_
  refine Run.ret ⟨.inr rfl, ?_⟩
  exact hS.imp fun h' hq => ⟨(0), rfl, hq⟩
 ·have hS := hF hb3; clear hT hF
  refine Run.go rfl rfl rfl (sem_ptrNilF p1 (.inl rfl) false rfl rfl TF.ptr_136 hb3 rfl ?_)
  refine Run.region_end ?_
  refine Run.condF rfl ?_
  refine Run.skip ?_
  refine Run.seq ?_
  refine Run.ops0 (idx := [0, 1, 2, 3, 4]) rfl ?_
  refine Run.go rfl rfl rfl (sem_move ((Value.pointer p1)) rfl ?_)
  obtain ⟨A4, e5, hS⟩ := hS
  refine Run.go rfl rfl rfl (sem_nilCheck A4 (congrArg Value.pointer e5) ?_)
  refine Run.go rfl rfl rfl (sem_fieldAddr A4 2 rfl TF.fld_178_2 ?_)
  obtain ⟨i6, hl, hS⟩ := hS
  refine Run.go rfl rfl rfl (sem_load1 (Addr.add A4 2) ((Value.int .i64 (i6))) rfl TF.agg_3 hl ?_)
  refine Run.go rfl rfl rfl (sem_assign ((Value.int .i64 (i6))) rfl ?_)
  refine Run.region_end ?_
  refine Run.ret ⟨.inr rfl, ?_⟩
  exact hS.imp fun h' hq => ⟨(i6), rfl, hq⟩
set_option maxHeartbeats 4000000 in
theorem C_wafer_Whole.of {B : RO} {s1 : ByteArray} {h : Heap} {Q : Int → Heap → Prop} (hS : S_wafer_Whole B s1 h Q) : C_wafer_Whole B s1 h Q := by
 unfold S_wafer_Whole at hS
 unfold C_wafer_Whole
 refine Spec.of_run Try.func106 (N := 15) (rs := [ResultVar.tmp 2]) rfl rfl rfl (Nat.le_of_ble_eq_true rfl) ?_
 refine Run.seq ?_
 refine Run.ops0 (idx := [0]) rfl ?_
 refine Run.go rfl rfl rfl (sem_assign ((Value.int .i64 (0))) rfl ?_)
 refine Run.region_end ?_
 refine Run.seq ?_
 refine Run.ops0 (idx := [0, 1]) rfl ?_
 refine Run.go rfl rfl rfl (sem_allocN [(Value.int .i64 (0))] TF.zero_3 (fun k3 hb1 hb2 h4 hb3 => ?_))
 have hS := hS k3 hb1 hb2 h4 hb3
 obtain ⟨h5, hst, hS⟩ := hS
 refine Run.go rfl rfl rfl (sem_store1 ⟨k3, 0, none⟩ ((Value.int .i64 (0))) h5 rfl rfl rfl TF.sz_3 hst ?_)
 refine Run.region_end ?_
 refine Run.seq ?_
 refine Run.seq ?_
 refine Run.ops0 (idx := [0, 1]) rfl ?_
 refine Run.go rfl rfl rfl (sem_move ((Value.string s1)) rfl ?_)
 refine Run.go rfl rfl rfl (sem_callL [(Value.string s1)] (TF.goes_128) rfl rfl (Spec.mono hS fun v7 h6 hv => ?_))
 obtain ⟨_, rfl, hS⟩ := hv
 refine Run.region_end ?_
 refine Run.block ?_
 obtain ⟨xs13, G9, J12, hit, hins, hG, h0, hS, hR⟩ := hS
 refine Run.of_fin (h0.imp fun h' h0 => ?_)
 refine Run.range (v7) (xs13.map (fun x : ByteArray => [(Value.string x)])) G9 J12 rfl hit hins hG h0 rfl (fun a ha => by obtain ⟨x, _, rfl⟩ := List.mem_map.1 ha; rfl) ?_ ?_
 ·rintro q11 args h10 ha hJ
  obtain ⟨s8, hx, rfl⟩ := Option.map_eq_some_iff.1 ((List.getElem?_map ..).symm.trans ha)
  have hS := hS q11 h10 s8 hx hJ; clear hJ hx ha
  refine Run.ops0 (idx := [0]) rfl ?_
  refine Run.go rfl rfl rfl (sem_assign ((Value.string s8)) rfl ?_)
  refine Run.region_end ?_
  refine Run.begin ⟨rfl, ?_⟩
  refine Run.block ?_
  refine Run.ops0 (idx := [0, 1, 2, 3, 4, 5, 6]) rfl ?_
  obtain ⟨i14, hl, hS⟩ := hS
  refine Run.go rfl rfl rfl (sem_load1 ⟨k3, 0, none⟩ ((Value.int .i64 (i14))) rfl TF.agg_3 hl ?_)
  refine Run.go rfl rfl rfl (sem_move ((Value.string s8)) rfl ?_)
  refine Run.go rfl rfl rfl (sem_lenStr s8 rfl TF.isStr_9 ?_)
  refine Run.go rfl rfl rfl (sem_binI .i64 (2) ((ByteArray.size s8 : Nat)) ((Value.int .i64 (IntKind.wrap .i64 ((2) + ((ByteArray.size s8 : Nat)))))) rfl rfl rfl ?_)
  refine Run.go rfl rfl rfl (sem_binI .i64 (IntKind.wrap .i64 ((2) + ((ByteArray.size s8 : Nat)))) (4) ((Value.int .i64 (IntKind.wrap .i64 ((IntKind.wrap .i64 ((2) + ((ByteArray.size s8 : Nat)))) + (4))))) rfl rfl rfl ?_)
  refine Run.go rfl rfl rfl (sem_binI .i64 (i14) (IntKind.wrap .i64 ((IntKind.wrap .i64 ((2) + ((ByteArray.size s8 : Nat)))) + (4))) ((Value.int .i64 (IntKind.wrap .i64 ((i14) + (IntKind.wrap .i64 ((IntKind.wrap .i64 ((2) + ((ByteArray.size s8 : Nat)))) + (4))))))) rfl rfl rfl ?_)
  obtain ⟨h15, hst, hS⟩ := hS
  refine Run.go rfl rfl rfl (sem_store1 ⟨k3, 0, none⟩ ((Value.int .i64 (IntKind.wrap .i64 ((i14) + (IntKind.wrap .i64 ((IntKind.wrap .i64 ((2) + ((ByteArray.size s8 : Nat)))) + (4))))))) h15 rfl rfl rfl TF.sz_3 hst ?_)
  refine Run.region_end ?_
  refine Run.inBlock ?_
  refine Run.of_fin (hS.imp fun h' hS => ?_)
  exact Run.fall (.inl ⟨rfl, hS⟩)
 ·intro h10 hJ
  have hS := hR h10 (by simpa using hJ); clear hJ hR
  refine Run.inBlock ?_
  refine Run.seq ?_
  refine Run.ops0 (idx := [0, 1]) rfl ?_
  obtain ⟨i16, hl, hS⟩ := hS
  refine Run.go rfl rfl rfl (sem_load1 ⟨k3, 0, none⟩ ((Value.int .i64 (i16))) rfl TF.agg_3 hl ?_)
  refine Run.go rfl rfl rfl (sem_assign ((Value.int .i64 (i16))) rfl ?_)
  refine Run.region_end ?_
  refine Run.ret ⟨.inr rfl, ?_⟩
  exact hS.imp fun h' hq => ⟨(i16), rfl, hq⟩
set_option maxHeartbeats 4000000 in
theorem C_wal_Log_All.of {B : RO} {p1 : Option Addr} {h : Heap} {Q : Value → Heap → Prop} (hS : S_wal_Log_All B p1 h Q) : C_wal_Log_All B p1 h Q := by
 unfold S_wal_Log_All at hS
 unfold C_wal_Log_All
 refine Spec.of_run Try.func107 (N := 4) (rs := [ResultVar.tmp 2]) rfl rfl rfl (Nat.le_of_ble_eq_true rfl) ?_
 refine Run.seq ?_
 refine Run.ops0 (idx := [0, 1]) rfl ?_
 refine Run.go rfl rfl rfl (sem_box1N ((Value.pointer p1)) rfl rfl (fun k3 hb1 hb2 h4 hb3 => ?_))
 have hS := hS k3 hb1 hb2 h4 hb3
 refine Run.go rfl rfl rfl (sem_assign (Value.nilFunc) rfl ?_)
 refine Run.region_end ?_
 refine Run.seq ?_
 refine Run.ops0 (idx := [0, 1]) rfl ?_
 refine Run.go rfl rfl rfl (sem_makeFuncL [] [(Value.pointer (some ⟨k3, 0, none⟩))] rfl rfl ?_)
 refine Run.go rfl rfl rfl (sem_assign ((Value.func (.func 129) #[] #[(Value.pointer (some ⟨k3, 0, none⟩))])) rfl ?_)
 refine Run.region_end ?_
 refine Run.ret ⟨.inr rfl, ?_⟩
 exact hS.imp fun h' hq => ⟨(Value.func (.func 129) #[] #[(Value.pointer (some ⟨k3, 0, none⟩))]), rfl, hq⟩
set_option maxHeartbeats 4000000 in
theorem C_vault_first.of {B : RO} {s1 : ByteArray} {h : Heap} {Q : Int → ByteArray → Bool → Heap → Prop} (hS : S_vault_first B s1 h Q) : C_vault_first B s1 h Q := by
 unfold S_vault_first at hS
 unfold C_vault_first
 refine Spec.of_run Try.func108 (N := 32) (rs := [ResultVar.tmp 2, ResultVar.tmp 3, ResultVar.tmp 4]) rfl rfl rfl (Nat.le_of_ble_eq_true rfl) ?_
 refine Run.seq ?_
 refine Run.ops0 (idx := [0, 1, 2]) rfl ?_
 refine Run.go rfl rfl rfl (sem_assign ((Value.int .i64 (0))) rfl ?_)
 refine Run.go rfl rfl rfl (sem_assign ((Value.string (ByteArray.mk #[]))) rfl ?_)
 refine Run.go rfl rfl rfl (sem_assign ((Value.bool false)) rfl ?_)
 refine Run.region_end ?_
 refine Run.seq ?_
 refine Run.ops0 (idx := [0, 1, 2]) rfl ?_
 refine Run.go rfl rfl rfl (sem_move ((Value.string s1)) rfl ?_)
 refine Run.go rfl rfl rfl (sem_callL [(Value.string s1)] (TF.goes_130) rfl rfl (Spec.mono hS fun v h5 hv => ?_))
 obtain ⟨p6, rfl, hS⟩ := hv
 refine Run.go rfl rfl rfl (sem_assign ((Value.pointer p6)) rfl ?_)
 refine Run.region_end ?_
 refine Run.seq ?_
 refine Run.ops0 (idx := [0, 1, 2]) rfl ?_
 refine Run.go rfl rfl rfl (sem_move ((Value.pointer p6)) rfl ?_)
 refine Run.go rfl rfl rfl (sem_callL [(Value.pointer p6), (Value.int .i64 (1))] (TF.goes_131) rfl rfl (Spec.mono hS fun v h7 hv => ?_))
 obtain ⟨i8, rfl, hS⟩ := hv
 refine Run.go rfl rfl rfl (sem_assign ((Value.int .i64 (i8))) rfl ?_)
 refine Run.region_end ?_
 refine Run.seq ?_
 refine Run.ops0 (idx := [0, 1, 2, 3, 4, 5, 6, 7]) rfl ?_
 refine Run.go rfl rfl rfl (sem_move ((Value.pointer p6)) rfl ?_)
 refine Run.go rfl rfl rfl (sem_callL [(Value.pointer p6), (Value.int .i64 (1099511627776))] (TF.goes_131) rfl rfl (Spec.mono hS fun v h9 hv => ?_))
 obtain ⟨i10, rfl, hS⟩ := hv
 refine Run.go rfl rfl rfl (sem_move ((Value.pointer p6)) rfl ?_)
 refine Run.go rfl rfl rfl (sem_move ((Value.pointer p6)) rfl ?_)
 refine Run.go rfl rfl rfl (sem_callL [(Value.pointer p6)] (TF.goes_133) rfl rfl (Spec.mono hS fun v h11 hv => ?_))
 obtain ⟨i12, rfl, hS⟩ := hv
 refine Run.go rfl rfl rfl (sem_callL [(Value.pointer p6), (Value.int .i64 (i12))] (TF.goes_132) rfl rfl (Spec.mono hS fun v h13 hv => ?_))
 obtain ⟨s14, rfl, hS⟩ := hv
 refine Run.go rfl rfl rfl (sem_assign ((Value.int .i64 (i10))) rfl ?_)
 refine Run.go rfl rfl rfl (sem_assign ((Value.string s14)) rfl ?_)
 refine Run.region_end ?_
 refine Run.seq ?_
 refine Run.ops0 (idx := [0, 1, 2, 3, 4, 5, 6, 7, 8, 9, 10, 11, 12, 13, 14, 15]) rfl ?_
 refine Run.go rfl rfl rfl (sem_move ((Value.int .i64 (i10))) rfl ?_)
 refine Run.go rfl rfl rfl (sem_move ((Value.string s14)) rfl ?_)
 refine Run.go rfl rfl rfl (sem_move ((Value.pointer p6)) rfl ?_)
 refine Run.go rfl rfl rfl (sem_callL [(Value.pointer p6)] (TF.goes_134) rfl rfl (Spec.mono hS fun v h15 hv => ?_))
 obtain ⟨b16, rfl, hS⟩ := hv
 obtain ⟨hT, hF⟩ := hS
 cases b16
 ·have hS := hF rfl; clear hT hF
  refine Run.go rfl rfl rfl (sem_not false rfl ?_)
  refine Run.go rfl rfl rfl (sem_move ((Value.bool true)) rfl ?_)
  refine Run.go rfl rfl rfl (sem_move ((Value.int .i64 (i8))) rfl ?_)
  obtain ⟨hT, hF⟩ := hS
  by_cases hb17 : (i8 : Int) = 0
  ·have hS := hT hb17; clear hT hF
   refine Run.go rfl rfl rfl (sem_binI .i64 (i8) (0) (.bool true) rfl rfl (binI_eql_t hb17) ?_)
   refine Run.go rfl rfl rfl (sem_pick true ((Value.bool true)) rfl rfl ?_)
   refine Run.go rfl rfl rfl (sem_move ((Value.bool true)) rfl ?_)
   refine Run.go rfl rfl rfl (sem_move ((Value.int .i64 (i10))) rfl ?_)
   refine Run.go rfl rfl rfl (sem_binI .i64 (i10) (0) ((Value.bool (decide ((i10 : Int) > (0))))) rfl rfl rfl ?_)
   refine Run.go rfl rfl rfl (sem_pick true ((Value.bool (decide ((i10 : Int) > (0))))) rfl rfl ?_)
   refine Run.go rfl rfl rfl (sem_assign ((Value.int .i64 (i10))) rfl ?_)
   refine Run.go rfl rfl rfl (sem_assign ((Value.string s14)) rfl ?_)
   refine Run.go rfl rfl rfl (sem_assign ((Value.bool (decide ((i10 : Int) > (0))))) rfl ?_)
   refine Run.region_end ?_
   refine Run.ret ⟨.inr rfl, ?_⟩
   exact hS.imp fun h' hq => ⟨(i10), s14, ((decide ((i10 : Int) > (0)))), rfl, hq⟩
  ·have hS := hF hb17; clear hT hF
   refine Run.go rfl rfl rfl (sem_binI .i64 (i8) (0) (.bool false) rfl rfl (binI_eql_f hb17) ?_)
   refine Run.go rfl rfl rfl (sem_pick true ((Value.bool false)) rfl rfl ?_)
   refine Run.go rfl rfl rfl (sem_move ((Value.bool false)) rfl ?_)
   refine Run.no rfl rfl rfl ?_
   refine Run.no rfl rfl rfl ?_
   refine Run.go rfl rfl rfl (sem_pick false ((Value.bool false)) rfl rfl ?_)
   refine Run.go rfl rfl rfl (sem_assign ((Value.int .i64 (i10))) rfl ?_)
   refine Run.go rfl rfl rfl (sem_assign ((Value.string s14)) rfl ?_)
   refine Run.go rfl rfl rfl (sem_assign ((Value.bool false)) rfl ?_)
   refine Run.region_end ?_
   refine Run.ret ⟨.inr rfl, ?_⟩
   exact hS.imp fun h' hq => ⟨(i10), s14, (false), rfl, hq⟩
 ·have hS := hT rfl; clear hT hF
  refine Run.go rfl rfl rfl (sem_not true rfl ?_)
  refine Run.go rfl rfl rfl (sem_move ((Value.bool false)) rfl ?_)
  refine Run.no rfl rfl rfl ?_
  refine Run.no rfl rfl rfl ?_
  refine Run.go rfl rfl rfl (sem_pick false ((Value.bool false)) rfl rfl ?_)
  refine Run.go rfl rfl rfl (sem_move ((Value.bool false)) rfl ?_)
  refine Run.no rfl rfl rfl ?_
  refine Run.no rfl rfl rfl ?_
  refine Run.go rfl rfl rfl (sem_pick false ((Value.bool false)) rfl rfl ?_)
  refine Run.go rfl rfl rfl (sem_assign ((Value.int .i64 (i10))) rfl ?_)
  refine Run.go rfl rfl rfl (sem_assign ((Value.string s14)) rfl ?_)
  refine Run.go rfl rfl rfl (sem_assign ((Value.bool false)) rfl ?_)
  refine Run.region_end ?_
  refine Run.ret ⟨.inr rfl, ?_⟩
  exact hS.imp fun h' hq => ⟨(i10), s14, (false), rfl, hq⟩
set_option maxHeartbeats 4000000 in
theorem C_wafer_Close.of {B : RO} {s1 : ByteArray} {h : Heap} {Q : ByteArray → Heap → Prop} (hS : S_wafer_Close B s1 h Q) : C_wafer_Close B s1 h Q := by
 unfold S_wafer_Close at hS
 unfold C_wafer_Close
 refine Spec.of_run Try.func109 (N := 23) (rs := [ResultVar.tmp 2]) rfl rfl rfl (Nat.le_of_ble_eq_true rfl) ?_
 refine Run.seq ?_
 refine Run.ops0 (idx := [0]) rfl ?_
 refine Run.go rfl rfl rfl (sem_assign ((Value.string (ByteArray.mk #[]))) rfl ?_)
 refine Run.region_end ?_
 refine Run.seq ?_
 refine Run.ops0 (idx := [0, 1, 2]) rfl ?_
 refine Run.go rfl rfl rfl (sem_move ((Value.string s1)) rfl ?_)
 refine Run.go rfl rfl rfl (sem_lenStr s1 rfl TF.isStr_9 ?_)
 refine Run.go rfl rfl rfl (sem_assign ((Value.int .i64 ((ByteArray.size s1 : Nat)))) rfl ?_)
 refine Run.region_end ?_
 refine Run.seq ?_
 refine Run.seq ?_
 refine Run.ops0 (idx := [0, 1]) rfl ?_
 refine Run.go rfl rfl rfl (sem_move ((Value.int .i64 ((ByteArray.size s1 : Nat)))) rfl ?_)
 obtain ⟨hT, hF⟩ := hS
 by_cases hb3 : ((ByteArray.size s1 : Nat) : Int) > (1024)
 ·have hS := hT hb3; clear hT hF
  refine Run.go rfl rfl rfl (sem_binI .i64 ((ByteArray.size s1 : Nat)) (1024) (.bool true) rfl rfl (binI_gtr_t hb3) ?_)
  refine Run.region_end ?_
  refine Run.condT rfl ?_
  refine Run.seq ?_
  refine Run.ops0 (idx := [0]) rfl ?_
  refine Run.go rfl rfl rfl (sem_assign ((Value.string (ByteArray.mk #[]))) rfl ?_)
  refine Run.region_end ?_
  refine Run.ret ⟨.inr rfl, ?_⟩
  exact hS.imp fun h' hq => ⟨(ByteArray.mk #[]), rfl, hq⟩
 ·have hS := hF hb3; clear hT hF
  refine Run.go rfl rfl rfl (sem_binI .i64 ((ByteArray.size s1 : Nat)) (1024) (.bool false) rfl rfl (binI_gtr_f hb3) ?_)
  refine Run.region_end ?_
  refine Run.condF rfl ?_
  refine Run.skip ?_
  refine Run.seq ?_
  refine Run.ops0 (idx := [0, 1, 2, 3, 4, 5, 6, 7, 8, 9]) rfl ?_
  refine Run.go rfl rfl rfl (sem_move ((Value.int .i64 ((ByteArray.size s1 : Nat)))) rfl ?_)
  obtain ⟨hi0, hS⟩ := hS
  refine Run.go rfl rfl rfl (sem_shr .i64 .u64 ((ByteArray.size s1 : Nat)) (8) rfl rfl hi0 ?_)
  refine Run.go rfl rfl rfl (sem_convI .i64 .u8 (Int.fdiv ((ByteArray.size s1 : Nat)) (2 ^ (min (Int.toNat (8)) (IntKind.bits .i64)))) rfl TF.int_3 TF.int_5 ?_)
  refine Run.go rfl rfl rfl (sem_move ((Value.int .i64 ((ByteArray.size s1 : Nat)))) rfl ?_)
  refine Run.go rfl rfl rfl (sem_convI .i64 .u8 ((ByteArray.size s1 : Nat)) rfl TF.int_3 TF.int_5 ?_)
  refine Run.go rfl rfl rfl (sem_buildSliceL [(0, (Value.int .u8 (IntKind.wrap .u8 (Int.fdiv ((ByteArray.size s1 : Nat)) (2 ^ (min (Int.toNat (8)) (IntKind.bits .i64))))))), (1, (Value.int .u8 (IntKind.wrap .u8 ((ByteArray.size s1 : Nat)))))] [(Value.int .u8 (IntKind.wrap .u8 (Int.fdiv ((ByteArray.size s1 : Nat)) (2 ^ (min (Int.toNat (8)) (IntKind.bits .i64)))))), (Value.int .u8 (IntKind.wrap .u8 ((ByteArray.size s1 : Nat))))] TF.slc_144 TF.zero_5 rfl (by decide) (by decide) rfl rfl (fun k4 hb1 hb2 h5 hb3 => ?_))
  have hS := hS k4 hb1 hb2 h5 hb3
  refine Run.go rfl rfl rfl (sem_convW ((Value.slice (some ⟨k4, 0, none⟩) 2 2)) rfl (semH_mono (fun v h7 hv => ?_) hS))
  obtain ⟨s6, rfl, hS⟩ := hv
  refine Run.go rfl rfl rfl (sem_move ((Value.string s1)) rfl ?_)
  obtain ⟨hi0, hS⟩ := hS
  refine Run.go rfl rfl rfl (sem_strAdd s6 s1 rfl rfl hi0 ?_)
  refine Run.go rfl rfl rfl (sem_assign ((Value.string (s6 ++ s1))) rfl ?_)
  refine Run.region_end ?_
  refine Run.seq ?_
  refine Run.ops0 (idx := [0, 1, 2, 3, 4, 5]) rfl ?_
  refine Run.go rfl rfl rfl (sem_move ((Value.string (s6 ++ s1))) rfl ?_)
  refine Run.go rfl rfl rfl (sem_move ((Value.string (s6 ++ s1))) rfl ?_)
  refine Run.go rfl rfl rfl (sem_callL [(Value.string (s6 ++ s1))] (TF.goes_136) rfl rfl (Spec.mono hS fun v h8 hv => ?_))
  obtain ⟨i9, rfl, hS⟩ := hv
  refine Run.go rfl rfl rfl (sem_callL [(Value.int .u32 (i9))] (TF.goes_135) rfl rfl (Spec.mono hS fun v h10 hv => ?_))
  obtain ⟨s11, rfl, hS⟩ := hv
  obtain ⟨hi0, hS⟩ := hS
  refine Run.go rfl rfl rfl (sem_strAdd (s6 ++ s1) s11 rfl rfl hi0 ?_)
  refine Run.go rfl rfl rfl (sem_assign ((Value.string ((s6 ++ s1) ++ s11))) rfl ?_)
  refine Run.region_end ?_
  refine Run.ret ⟨.inr rfl, ?_⟩
  exact hS.imp fun h' hq => ⟨((s6 ++ s1) ++ s11), rfl, hq⟩
set_option maxHeartbeats 4000000 in
theorem C_countermandref02_Sum.of {B : RO} {s1 : ByteArray} {h : Heap} {Q : Int → Heap → Prop} (hS : S_countermandref02_Sum B s1 h Q) : C_countermandref02_Sum B s1 h Q := by
 unfold S_countermandref02_Sum at hS
 unfold C_countermandref02_Sum
 refine Spec.of_run Try.func110 (N := 37) (rs := [ResultVar.tmp 2]) rfl rfl rfl (Nat.le_of_ble_eq_true rfl) ?_
 refine Run.seq ?_
 refine Run.ops0 (idx := [0]) rfl ?_
 refine Run.go rfl rfl rfl (sem_assign ((Value.int .u32 (0))) rfl ?_)
 refine Run.region_end ?_
 refine Run.seq ?_
 refine Run.ops0 (idx := [0]) rfl ?_
 refine Run.go rfl rfl rfl (sem_assign ((Value.int .u32 (4294967295))) rfl ?_)
 refine Run.region_end ?_
 refine Run.seq ?_
 refine Run.seq ?_
 refine Run.ops0 (idx := [0]) rfl ?_
 refine Run.go rfl rfl rfl (sem_assign ((Value.int .i64 (0))) rfl ?_)
 refine Run.region_end ?_
 refine Run.block ?_
 obtain ⟨J9, m7, h0, hS⟩ := hS
 refine Run.of_fin (h0.imp fun h' h0 => ?_)
 refine Run.loop (σ := Int × Int × Nat) (fun x e h => J9 x.1 x.2.1 x.2.2 h ∧ Agree [(0, (Value.string s1)), (3, (Value.int .u32 (x.1))), (4, (Value.int .i64 (x.2.1)))] e) (fun x => x.2.2) ((4294967295), (0), m7) ⟨h0, ⟨rfl, rfl, rfl, trivial⟩⟩ ?_; clear h0
 rintro ⟨i3, i4, m6⟩ e h5 ⟨hJ, hag⟩ ih8
 have hS := hS i3 i4 m6 h5 hJ; clear hJ
 refine Run.env hag ?_; clear hag
 refine Run.seq ?_
 refine Run.seq ?_
 refine Run.ops0 (idx := [0, 1, 2, 3]) rfl ?_
 refine Run.go rfl rfl rfl (sem_move ((Value.int .i64 (i4))) rfl ?_)
 refine Run.go rfl rfl rfl (sem_move ((Value.string s1)) rfl ?_)
 refine Run.go rfl rfl rfl (sem_lenStr s1 rfl TF.isStr_9 ?_)
 obtain ⟨hT, hF⟩ := hS
 by_cases hb10 : (i4 : Int) < ((ByteArray.size s1 : Nat))
 ·have hS := hT hb10; clear hT hF
  refine Run.go rfl rfl rfl (sem_binI .i64 (i4) ((ByteArray.size s1 : Nat)) (.bool true) rfl rfl (binI_lss_t hb10) ?_)
  refine Run.region_end ?_
  refine Run.condT rfl ?_
  refine Run.skip ?_
  refine Run.seq ?_
  refine Run.block ?_
  refine Run.seq ?_
  refine Run.ops0 (idx := [0, 1, 2, 3]) rfl ?_
  refine Run.go rfl rfl rfl (sem_move ((Value.string s1)) rfl ?_)
  refine Run.go rfl rfl rfl (sem_move ((Value.int .i64 (i4))) rfl ?_)
  obtain ⟨hi0, hi1, hS⟩ := hS
  refine Run.go rfl rfl rfl (sem_indexStr' s1 .i64 (i4) rfl rfl TF.isStr_9 hi0 hi1 ?_)
  refine Run.go rfl rfl rfl (sem_assign ((Value.int .u8 (byteAt s1 (Int.toNat (i4))))) rfl ?_)
  refine Run.region_end ?_
  refine Run.seq ?_
  refine Run.ops0 (idx := [0]) rfl ?_
  refine Run.go rfl rfl rfl (sem_assign ((Value.int .i64 (0))) rfl ?_)
  refine Run.region_end ?_
  refine Run.block ?_
  obtain ⟨J18, m16, h0, hS⟩ := hS
  refine Run.of_fin (h0.imp fun h' h0 => ?_)
  refine Run.loop (σ := Int × Int × Int × Nat) (fun x e h => J18 x.1 x.2.1 x.2.2.1 x.2.2.2 h ∧ Agree [(0, (Value.string s1)), (3, (Value.int .u32 (x.1))), (4, (Value.int .i64 (i4))), (5, (Value.int .u8 (x.2.1))), (6, (Value.int .i64 (x.2.2.1)))] e) (fun x => x.2.2.2) ((i3), (byteAt s1 (Int.toNat (i4))), (0), m16) ⟨h0, ⟨rfl, rfl, rfl, rfl, rfl, trivial⟩⟩ ?_; clear h0
  rintro ⟨i11, i12, i13, m15⟩ e h14 ⟨hJ, hag⟩ ih17
  have hS := hS i11 i12 i13 m15 h14 hJ; clear hJ
  refine Run.env hag ?_; clear hag
  refine Run.seq ?_
  refine Run.seq ?_
  refine Run.ops0 (idx := [0, 1]) rfl ?_
  refine Run.go rfl rfl rfl (sem_move ((Value.int .i64 (i13))) rfl ?_)
  obtain ⟨hT, hF⟩ := hS
  by_cases hb19 : (i13 : Int) < (8)
  ·have hS := hT hb19; clear hT hF
   refine Run.go rfl rfl rfl (sem_binI .i64 (i13) (8) (.bool true) rfl rfl (binI_lss_t hb19) ?_)
   refine Run.region_end ?_
   refine Run.condT rfl ?_
   refine Run.skip ?_
   refine Run.seq ?_
   refine Run.block ?_
   refine Run.seq ?_
   refine Run.ops0 (idx := [0, 1, 2, 3, 4, 5, 6, 7]) rfl ?_
   refine Run.go rfl rfl rfl (sem_move ((Value.int .u32 (i11))) rfl ?_)
   obtain ⟨hi0, hS⟩ := hS
   refine Run.go rfl rfl rfl (sem_binI .u32 (i11) (2) ((Value.int .u32 (Int.tmod (i11) (2)))) rfl rfl (binI_rem hi0) ?_)
   refine Run.go rfl rfl rfl (sem_binI .u32 (Int.tmod (i11) (2)) (1) ((Value.bool ((Int.tmod (i11) (2) : Int) == (1)))) rfl rfl rfl ?_)
   refine Run.go rfl rfl rfl (sem_move ((Value.int .u8 (i12))) rfl ?_)
   obtain ⟨hi0, hS⟩ := hS
   refine Run.go rfl rfl rfl (sem_binI .u8 (i12) (2) ((Value.int .u8 (Int.tmod (i12) (2)))) rfl rfl (binI_rem hi0) ?_)
   refine Run.go rfl rfl rfl (sem_binI .u8 (Int.tmod (i12) (2)) (1) ((Value.bool ((Int.tmod (i12) (2) : Int) == (1)))) rfl rfl rfl ?_)
   obtain ⟨hT, hF⟩ := hS
   by_cases hb20 : ((Int.tmod (i11) (2) : Int) == (1)) = ((Int.tmod (i12) (2) : Int) == (1))
   ·have hS := hT hb20; clear hT hF
    refine Run.go rfl rfl rfl (sem_boolEqT ((Int.tmod (i11) (2) : Int) == (1)) ((Int.tmod (i12) (2) : Int) == (1)) (.inr rfl) false rfl rfl TF.bool_4 hb20 rfl ?_)
    refine Run.go rfl rfl rfl (sem_assign ((Value.bool false)) rfl ?_)
    refine Run.region_end ?_
    refine Run.seq ?_
    refine Run.ops0 (idx := [0, 1, 2]) rfl ?_
    refine Run.go rfl rfl rfl (sem_move ((Value.int .u32 (i11))) rfl ?_)
    obtain ⟨hi0, hS⟩ := hS
    refine Run.go rfl rfl rfl (sem_binI .u32 (i11) (2) ((Value.int .u32 (IntKind.wrap .u32 (Int.tdiv (i11) (2))))) rfl rfl (binI_quo hi0) ?_)
    refine Run.go rfl rfl rfl (sem_assign ((Value.int .u32 (IntKind.wrap .u32 (Int.tdiv (i11) (2))))) rfl ?_)
    refine Run.region_end ?_
    refine Run.seq ?_
    refine Run.ops0 (idx := [0, 1, 2]) rfl ?_
    refine Run.go rfl rfl rfl (sem_move ((Value.int .u8 (i12))) rfl ?_)
    obtain ⟨hi0, hS⟩ := hS
    refine Run.go rfl rfl rfl (sem_binI .u8 (i12) (2) ((Value.int .u8 (IntKind.wrap .u8 (Int.tdiv (i12) (2))))) rfl rfl (binI_quo hi0) ?_)
    refine Run.go rfl rfl rfl (sem_assign ((Value.int .u8 (IntKind.wrap .u8 (Int.tdiv (i12) (2))))) rfl ?_)
    refine Run.region_end ?_
    refine Run.seq ?_
    refine Run.ops0 (idx := [0]) rfl ?_
    refine Run.go rfl rfl rfl (sem_move ((Value.bool false)) rfl ?_)
    refine Run.region_end ?_
    refine Run.condF rfl ?_
    refine Run.skip ?_
    refine Run.inBlock ?_
    refine Run.ops0 (idx := [0, 1, 2]) rfl ?_
    refine Run.go rfl rfl rfl (sem_move ((Value.int .i64 (i13))) rfl ?_)
    refine Run.go rfl rfl rfl (sem_binI .i64 (i13) (1) ((Value.int .i64 (IntKind.wrap .i64 ((i13) + (1))))) rfl rfl rfl ?_)
    refine Run.go rfl rfl rfl (sem_assign ((Value.int .i64 (IntKind.wrap .i64 ((i13) + (1))))) rfl ?_)
    refine Run.region_end ?_
    exact Run.of_fin (hS.imp fun h' ⟨m', hm, hS⟩ => ih17 ((IntKind.wrap .u32 (Int.tdiv (i11) (2))), (IntKind.wrap .u8 (Int.tdiv (i12) (2))), (IntKind.wrap .i64 ((i13) + (1))), m') _ _ ⟨hS, ⟨rfl, rfl, rfl, rfl, rfl, trivial⟩⟩ hm)
   ·have hS := hF hb20; clear hT hF
    refine Run.go rfl rfl rfl (sem_boolEqF ((Int.tmod (i11) (2) : Int) == (1)) ((Int.tmod (i12) (2) : Int) == (1)) (.inr rfl) true rfl rfl TF.bool_4 hb20 rfl ?_)
    refine Run.go rfl rfl rfl (sem_assign ((Value.bool true)) rfl ?_)
    refine Run.region_end ?_
    refine Run.seq ?_
    refine Run.ops0 (idx := [0, 1, 2]) rfl ?_
    refine Run.go rfl rfl rfl (sem_move ((Value.int .u32 (i11))) rfl ?_)
    obtain ⟨hi0, hS⟩ := hS
    refine Run.go rfl rfl rfl (sem_binI .u32 (i11) (2) ((Value.int .u32 (IntKind.wrap .u32 (Int.tdiv (i11) (2))))) rfl rfl (binI_quo hi0) ?_)
    refine Run.go rfl rfl rfl (sem_assign ((Value.int .u32 (IntKind.wrap .u32 (Int.tdiv (i11) (2))))) rfl ?_)
    refine Run.region_end ?_
    refine Run.seq ?_
    refine Run.ops0 (idx := [0, 1, 2]) rfl ?_
    refine Run.go rfl rfl rfl (sem_move ((Value.int .u8 (i12))) rfl ?_)
    obtain ⟨hi0, hS⟩ := hS
    refine Run.go rfl rfl rfl (sem_binI .u8 (i12) (2) ((Value.int .u8 (IntKind.wrap .u8 (Int.tdiv (i12) (2))))) rfl rfl (binI_quo hi0) ?_)
    refine Run.go rfl rfl rfl (sem_assign ((Value.int .u8 (IntKind.wrap .u8 (Int.tdiv (i12) (2))))) rfl ?_)
    refine Run.region_end ?_
    refine Run.seq ?_
    refine Run.ops0 (idx := [0]) rfl ?_
    refine Run.go rfl rfl rfl (sem_move ((Value.bool true)) rfl ?_)
    refine Run.region_end ?_
    refine Run.condT rfl ?_
    refine Run.ops0 (idx := [0, 1, 2]) rfl ?_
    refine Run.go rfl rfl rfl (sem_move ((Value.int .u32 (IntKind.wrap .u32 (Int.tdiv (i11) (2))))) rfl ?_)
    refine Run.go rfl rfl rfl (sem_binI .u32 (IntKind.wrap .u32 (Int.tdiv (i11) (2))) (2197175160) ((Value.int .u32 (IntKind.wrap .u32 ((BitVec.ofInt (IntKind.bits .u32) (IntKind.wrap .u32 (Int.tdiv (i11) (2))) ^^^ BitVec.ofInt (IntKind.bits .u32) (2197175160)).toNat : Int)))) rfl rfl rfl ?_)
    refine Run.go rfl rfl rfl (sem_assign ((Value.int .u32 (IntKind.wrap .u32 ((BitVec.ofInt (IntKind.bits .u32) (IntKind.wrap .u32 (Int.tdiv (i11) (2))) ^^^ BitVec.ofInt (IntKind.bits .u32) (2197175160)).toNat : Int)))) rfl ?_)
    refine Run.region_end ?_
    refine Run.inBlock ?_
    refine Run.ops0 (idx := [0, 1, 2]) rfl ?_
    refine Run.go rfl rfl rfl (sem_move ((Value.int .i64 (i13))) rfl ?_)
    refine Run.go rfl rfl rfl (sem_binI .i64 (i13) (1) ((Value.int .i64 (IntKind.wrap .i64 ((i13) + (1))))) rfl rfl rfl ?_)
    refine Run.go rfl rfl rfl (sem_assign ((Value.int .i64 (IntKind.wrap .i64 ((i13) + (1))))) rfl ?_)
    refine Run.region_end ?_
    exact Run.of_fin (hS.imp fun h' ⟨m', hm, hS⟩ => ih17 ((IntKind.wrap .u32 ((BitVec.ofInt (IntKind.bits .u32) (IntKind.wrap .u32 (Int.tdiv (i11) (2))) ^^^ BitVec.ofInt (IntKind.bits .u32) (2197175160)).toNat : Int)), (IntKind.wrap .u8 (Int.tdiv (i12) (2))), (IntKind.wrap .i64 ((i13) + (1))), m') _ _ ⟨hS, ⟨rfl, rfl, rfl, rfl, rfl, trivial⟩⟩ hm)
  ·have hS := hF hb19; clear hT hF
   refine Run.go rfl rfl rfl (sem_binI .i64 (i13) (8) (.bool false) rfl rfl (binI_lss_f hb19) ?_)
   refine Run.region_end ?_
   refine Run.condF rfl ?_
   refine Run.exit rfl ?_
   refine Run.inBlock ?_
   refine Run.ops0 (idx := [0, 1, 2]) rfl ?_
   refine Run.go rfl rfl rfl (sem_move ((Value.int .i64 (i4))) rfl ?_)
   refine Run.go rfl rfl rfl (sem_binI .i64 (i4) (1) ((Value.int .i64 (IntKind.wrap .i64 ((i4) + (1))))) rfl rfl rfl ?_)
   refine Run.go rfl rfl rfl (sem_assign ((Value.int .i64 (IntKind.wrap .i64 ((i4) + (1))))) rfl ?_)
   refine Run.region_end ?_
   exact Run.of_fin (hS.imp fun h' ⟨m', hm, hS⟩ => ih8 ((i11), (IntKind.wrap .i64 ((i4) + (1))), m') _ _ ⟨hS, ⟨rfl, rfl, rfl, trivial⟩⟩ hm)
 ·have hS := hF hb10; clear hT hF
  refine Run.go rfl rfl rfl (sem_binI .i64 (i4) ((ByteArray.size s1 : Nat)) (.bool false) rfl rfl (binI_lss_f hb10) ?_)
  refine Run.region_end ?_
  refine Run.condF rfl ?_
  refine Run.exit rfl ?_
  refine Run.seq ?_
  refine Run.ops0 (idx := [0, 1, 2]) rfl ?_
  refine Run.go rfl rfl rfl (sem_move ((Value.int .u32 (i3))) rfl ?_)
  refine Run.go rfl rfl rfl (sem_binI .u32 (4294967295) (i3) ((Value.int .u32 (IntKind.wrap .u32 ((4294967295) - (i3))))) rfl rfl rfl ?_)
  refine Run.go rfl rfl rfl (sem_assign ((Value.int .u32 (IntKind.wrap .u32 ((4294967295) - (i3))))) rfl ?_)
  refine Run.region_end ?_
  refine Run.ret ⟨.inr rfl, ?_⟩
  exact hS.imp fun h' hq => ⟨(IntKind.wrap .u32 ((4294967295) - (i3))), rfl, hq⟩
set_option maxHeartbeats 4000000 in
theorem C_countermandref01_Wide.of {B : RO} {i1 : Int} {h : Heap} {Q : ByteArray → Heap → Prop} (hS : S_countermandref01_Wide B i1 h Q) : C_countermandref01_Wide B i1 h Q := by
 unfold S_countermandref01_Wide at hS
 unfold C_countermandref01_Wide
 refine Spec.of_run Try.func111 (N := 22) (rs := [ResultVar.tmp 2]) rfl rfl rfl (Nat.le_of_ble_eq_true rfl) ?_
 refine Run.seq ?_
 refine Run.ops0 (idx := [0]) rfl ?_
 refine Run.go rfl rfl rfl (sem_assign ((Value.string (ByteArray.mk #[]))) rfl ?_)
 refine Run.region_end ?_
 refine Run.seq ?_
 refine Run.ops0 (idx := [0]) rfl ?_
 refine Run.go rfl rfl rfl (sem_assign ((Value.string (ByteArray.mk #[]))) rfl ?_)
 refine Run.region_end ?_
 refine Run.seqJ (fun e h6 => ∃ i4 : Int, ∃ s5 : ByteArray, Agree [(0, (Value.int .u64 (i4))), (3, (Value.string s5))] e ∧ S_countermandref01_Wide_J1 B i4 s5 h6 Q) ?_ fun j3 => ?_
 ·rintro e h6 ⟨i4, s5, hag, hS⟩
  refine Run.env hag ?_; clear hag
  refine Run.seq ?_
  refine Run.ops0 (idx := [0, 1, 2, 3, 4, 5, 6]) rfl ?_
  refine Run.go rfl rfl rfl (sem_move ((Value.string s5)) rfl ?_)
  refine Run.go rfl rfl rfl (sem_move ((Value.int .u64 (i4))) rfl ?_)
  refine Run.go rfl rfl rfl (sem_convI .u64 .u8 (i4) rfl TF.int_188 TF.int_5 ?_)
  refine Run.go rfl rfl rfl (sem_buildSliceL [(0, (Value.int .u8 (IntKind.wrap .u8 (i4))))] [(Value.int .u8 (IntKind.wrap .u8 (i4)))] TF.slc_144 TF.zero_5 rfl (by decide) (by decide) rfl rfl (fun k7 hb1 hb2 h8 hb3 => ?_))
  have hS := hS k7 hb1 hb2 h8 hb3
  refine Run.go rfl rfl rfl (sem_convW ((Value.slice (some ⟨k7, 0, none⟩) 1 1)) rfl (semH_mono (fun v h10 hv => ?_) hS))
  obtain ⟨s9, rfl, hS⟩ := hv
  obtain ⟨hi0, hS⟩ := hS
  refine Run.go rfl rfl rfl (sem_strAdd s5 s9 rfl rfl hi0 ?_)
  refine Run.go rfl rfl rfl (sem_assign ((Value.string (s5 ++ s9))) rfl ?_)
  refine Run.region_end ?_
  refine Run.ret ⟨.inr rfl, ?_⟩
  exact hS.imp fun h' hq => ⟨(s5 ++ s9), rfl, hq⟩
 refine Run.block ?_
 obtain ⟨J17, m15, h0, hS⟩ := hS
 refine Run.of_fin (h0.imp fun h' h0 => ?_)
 refine Run.loop (σ := Int × ByteArray × Nat) (fun x e h => J17 x.1 x.2.1 x.2.2 h ∧ Agree [(0, (Value.int .u64 (x.1))), (3, (Value.string x.2.1))] e) (fun x => x.2.2) ((i1), (ByteArray.mk #[]), m15) ⟨h0, ⟨rfl, rfl, trivial⟩⟩ ?_; clear h0
 rintro ⟨i11, s12, m14⟩ e h13 ⟨hJ, hag⟩ ih16
 have hS := hS i11 s12 m14 h13 hJ; clear hJ
 refine Run.env hag ?_; clear hag
 refine Run.seq ?_
 refine Run.seq ?_
 refine Run.ops0 (idx := [0, 1]) rfl ?_
 refine Run.go rfl rfl rfl (sem_move ((Value.int .u64 (i11))) rfl ?_)
 obtain ⟨hT, hF⟩ := hS
 by_cases hb18 : (i11 : Int) > (127)
 ·have hS := hT hb18; clear hT hF
  refine Run.go rfl rfl rfl (sem_binI .u64 (i11) (127) (.bool true) rfl rfl (binI_gtr_t hb18) ?_)
  refine Run.region_end ?_
  refine Run.condT rfl ?_
  refine Run.skip ?_
  refine Run.block ?_
  refine Run.seq ?_
  refine Run.ops0 (idx := [0, 1, 2, 3, 4, 5, 6, 7, 8]) rfl ?_
  refine Run.go rfl rfl rfl (sem_move ((Value.string s12)) rfl ?_)
  refine Run.go rfl rfl rfl (sem_move ((Value.int .u64 (i11))) rfl ?_)
  obtain ⟨hi0, hS⟩ := hS
  refine Run.go rfl rfl rfl (sem_binI .u64 (i11) (128) ((Value.int .u64 (Int.tmod (i11) (128)))) rfl rfl (binI_rem hi0) ?_)
  refine Run.go rfl rfl rfl (sem_binI .u64 (128) (Int.tmod (i11) (128)) ((Value.int .u64 (IntKind.wrap .u64 ((128) + (Int.tmod (i11) (128)))))) rfl rfl rfl ?_)
  refine Run.go rfl rfl rfl (sem_convI .u64 .u8 (IntKind.wrap .u64 ((128) + (Int.tmod (i11) (128)))) rfl TF.int_188 TF.int_5 ?_)
  refine Run.go rfl rfl rfl (sem_buildSliceL [(0, (Value.int .u8 (IntKind.wrap .u8 (IntKind.wrap .u64 ((128) + (Int.tmod (i11) (128)))))))] [(Value.int .u8 (IntKind.wrap .u8 (IntKind.wrap .u64 ((128) + (Int.tmod (i11) (128))))))] TF.slc_144 TF.zero_5 rfl (by decide) (by decide) rfl rfl (fun k19 hb1 hb2 h20 hb3 => ?_))
  have hS := hS k19 hb1 hb2 h20 hb3
  refine Run.go rfl rfl rfl (sem_convW ((Value.slice (some ⟨k19, 0, none⟩) 1 1)) rfl (semH_mono (fun v h22 hv => ?_) hS))
  obtain ⟨s21, rfl, hS⟩ := hv
  obtain ⟨hi0, hS⟩ := hS
  refine Run.go rfl rfl rfl (sem_strAdd s12 s21 rfl rfl hi0 ?_)
  refine Run.go rfl rfl rfl (sem_assign ((Value.string (s12 ++ s21))) rfl ?_)
  refine Run.region_end ?_
  refine Run.ops0 (idx := [0, 1, 2]) rfl ?_
  refine Run.go rfl rfl rfl (sem_move ((Value.int .u64 (i11))) rfl ?_)
  obtain ⟨hi0, hS⟩ := hS
  refine Run.go rfl rfl rfl (sem_binI .u64 (i11) (128) ((Value.int .u64 (IntKind.wrap .u64 (Int.tdiv (i11) (128))))) rfl rfl (binI_quo hi0) ?_)
  refine Run.go rfl rfl rfl (sem_assign ((Value.int .u64 (IntKind.wrap .u64 (Int.tdiv (i11) (128))))) rfl ?_)
  refine Run.region_end ?_
  refine Run.inBlock ?_
  exact Run.of_fin (hS.imp fun h' ⟨m', hm, hS⟩ => ih16 ((IntKind.wrap .u64 (Int.tdiv (i11) (128))), (s12 ++ s21), m') _ _ ⟨hS, ⟨rfl, rfl, trivial⟩⟩ hm)
 ·have hS := hF hb18; clear hT hF
  refine Run.go rfl rfl rfl (sem_binI .u64 (i11) (127) (.bool false) rfl rfl (binI_gtr_f hb18) ?_)
  refine Run.region_end ?_
  refine Run.condF rfl ?_
  refine Run.exit rfl ?_
  exact Run.of_fin (hS.imp fun h' hS => j3 _ _ ⟨(i11), s12, ⟨rfl, rfl, trivial⟩, hS⟩)
set_option maxHeartbeats 4000000 in
theorem C_countermandref02_All.of {B : RO} {s1 : ByteArray} {h : Heap} {Q : Option Addr → Nat → Nat → Heap → Prop} (hS : S_countermandref02_All B s1 h Q) : C_countermandref02_All B s1 h Q := by
 unfold S_countermandref02_All at hS
 unfold C_countermandref02_All
 refine Spec.of_run Try.func112 (N := 26) (rs := [ResultVar.tmp 2]) rfl rfl rfl (Nat.le_of_ble_eq_true rfl) ?_
 refine Run.seq ?_
 refine Run.ops0 (idx := [0]) rfl ?_
 refine Run.go rfl rfl rfl (sem_assign ((Value.slice none 0 0)) rfl ?_)
 refine Run.region_end ?_
 refine Run.seq ?_
 refine Run.ops0 (idx := [0]) rfl ?_
 refine Run.go rfl rfl rfl (sem_assign ((Value.slice none 0 0)) rfl ?_)
 refine Run.region_end ?_
 refine Run.seq ?_
 refine Run.ops0 (idx := [0, 1, 2, 3, 4, 5, 6]) rfl ?_
 refine Run.go rfl rfl rfl (sem_move ((Value.string s1)) rfl ?_)
 refine Run.go rfl rfl rfl (sem_callL [(Value.string s1)] (TF.goes_137) rfl rfl (Spec.mono hS fun v h5 hv => ?_))
 obtain ⟨s6, i7, rfl, hS⟩ := hv
 refine Run.go rfl rfl rfl (sem_move ((Value.tuple #[(Value.string s6), (Value.int .i64 (i7))])) rfl ?_)
 refine Run.go rfl rfl rfl (sem_extract #[(Value.string s6), (Value.int .i64 (i7))] ((Value.string s6)) rfl rfl ?_)
 refine Run.go rfl rfl rfl (sem_extract #[(Value.string s6), (Value.int .i64 (i7))] ((Value.int .i64 (i7))) rfl rfl ?_)
 refine Run.go rfl rfl rfl (sem_assign ((Value.string s6)) rfl ?_)
 refine Run.go rfl rfl rfl (sem_assign ((Value.int .i64 (i7))) rfl ?_)
 refine Run.region_end ?_
 refine Run.seq ?_
 refine Run.block ?_
 obtain ⟨J18, m16, h0, hS⟩ := hS
 refine Run.of_fin (h0.imp fun h' h0 => ?_)
 refine Run.loop (σ := ByteArray × (Option Addr) × Nat × Nat × ByteArray × Int × Nat) (fun x e h => J18 x.1 x.2.1 x.2.2.1 x.2.2.2.1 x.2.2.2.2.1 x.2.2.2.2.2.1 x.2.2.2.2.2.2 h ∧ Agree [(0, (Value.string x.1)), (3, (Value.slice x.2.1 x.2.2.1 x.2.2.2.1)), (4, (Value.string x.2.2.2.2.1)), (5, (Value.int .i64 (x.2.2.2.2.2.1)))] e) (fun x => x.2.2.2.2.2.2) (s1, none, 0, 0, s6, (i7), m16) ⟨h0, ⟨rfl, rfl, rfl, rfl, trivial⟩⟩ ?_; clear h0
 rintro ⟨s8, a9, n10, c11, s12, i13, m15⟩ e h14 ⟨hJ, hag⟩ ih17
 have hS := hS s8 a9 n10 c11 s12 i13 m15 h14 hJ; clear hJ
 refine Run.env hag ?_; clear hag
 refine Run.seq ?_
 refine Run.seq ?_
 refine Run.ops0 (idx := [0, 1]) rfl ?_
 refine Run.go rfl rfl rfl (sem_move ((Value.int .i64 (i13))) rfl ?_)
 obtain ⟨hT, hF⟩ := hS
 by_cases hb19 : (i13 : Int) > (0)
 ·have hS := hT hb19; clear hT hF
  refine Run.go rfl rfl rfl (sem_binI .i64 (i13) (0) (.bool true) rfl rfl (binI_gtr_t hb19) ?_)
  refine Run.region_end ?_
  refine Run.condT rfl ?_
  refine Run.skip ?_
  refine Run.block ?_
  refine Run.seq ?_
  refine Run.ops0 (idx := [0, 1, 2, 3, 4]) rfl ?_
  refine Run.go rfl rfl rfl (sem_move ((Value.slice a9 n10 c11)) rfl ?_)
  refine Run.go rfl rfl rfl (sem_move ((Value.string s12)) rfl ?_)
  refine Run.go rfl rfl rfl (sem_buildSliceL [(0, (Value.string s12))] [(Value.string s12)] TF.slc_45 TF.zero_9 rfl (by decide) (by decide) rfl rfl (fun k20 hb1 hb2 h21 hb3 => ?_))
  have hS := hS k20 hb1 hb2 h21 hb3
  refine Run.go rfl rfl rfl (sem_appendL [(Value.slice a9 n10 c11), (Value.slice (some ⟨k20, 0, none⟩) 1 1)] rfl (semH_mono (fun v h22 hv => ?_) hS))
  obtain ⟨a23, n24, c25, rfl, hS⟩ := hv
  refine Run.go rfl rfl rfl (sem_assign ((Value.slice a23 n24 c25)) rfl ?_)
  refine Run.region_end ?_
  refine Run.seq ?_
  refine Run.ops0 (idx := [0, 1, 2, 3]) rfl ?_
  refine Run.go rfl rfl rfl (sem_move ((Value.string s8)) rfl ?_)
  refine Run.go rfl rfl rfl (sem_move ((Value.int .i64 (i13))) rfl ?_)
  obtain ⟨hi0, hi1, hi2, hS⟩ := hS
  refine Run.go rfl rfl rfl (sem_sliceStrI s8 (i13) ((ByteArray.size s8 : Nat)) rfl TF.isStr_9 ⟨_, rfl⟩ rfl hi0 hi1 hi2 ?_)
  refine Run.go rfl rfl rfl (sem_assign ((Value.string (ByteArray.extract s8 (Int.toNat (i13)) (Int.toNat ((ByteArray.size s8 : Nat)))))) rfl ?_)
  refine Run.region_end ?_
  refine Run.ops0 (idx := [0, 1, 2, 3, 4, 5, 6]) rfl ?_
  refine Run.go rfl rfl rfl (sem_move ((Value.string (ByteArray.extract s8 (Int.toNat (i13)) (Int.toNat ((ByteArray.size s8 : Nat)))))) rfl ?_)
  refine Run.go rfl rfl rfl (sem_callL [(Value.string (ByteArray.extract s8 (Int.toNat (i13)) (Int.toNat ((ByteArray.size s8 : Nat)))))] (TF.goes_137) rfl rfl (Spec.mono hS fun v h26 hv => ?_))
  obtain ⟨s27, i28, rfl, hS⟩ := hv
  refine Run.go rfl rfl rfl (sem_move ((Value.tuple #[(Value.string s27), (Value.int .i64 (i28))])) rfl ?_)
  refine Run.go rfl rfl rfl (sem_extract #[(Value.string s27), (Value.int .i64 (i28))] ((Value.string s27)) rfl rfl ?_)
  refine Run.go rfl rfl rfl (sem_extract #[(Value.string s27), (Value.int .i64 (i28))] ((Value.int .i64 (i28))) rfl rfl ?_)
  refine Run.go rfl rfl rfl (sem_assign ((Value.string s27)) rfl ?_)
  refine Run.go rfl rfl rfl (sem_assign ((Value.int .i64 (i28))) rfl ?_)
  refine Run.region_end ?_
  refine Run.inBlock ?_
  exact Run.of_fin (hS.imp fun h' ⟨m', hm, hS⟩ => ih17 ((ByteArray.extract s8 (Int.toNat (i13)) (Int.toNat ((ByteArray.size s8 : Nat)))), a23, n24, c25, s27, (i28), m') _ _ ⟨hS, ⟨rfl, rfl, rfl, rfl, trivial⟩⟩ hm)
 ·have hS := hF hb19; clear hT hF
  refine Run.go rfl rfl rfl (sem_binI .i64 (i13) (0) (.bool false) rfl rfl (binI_gtr_f hb19) ?_)
  refine Run.region_end ?_
  refine Run.condF rfl ?_
  refine Run.exit rfl ?_
  refine Run.seq ?_
  refine Run.ops0 (idx := [0, 1]) rfl ?_
  refine Run.go rfl rfl rfl (sem_move ((Value.slice a9 n10 c11)) rfl ?_)
  refine Run.go rfl rfl rfl (sem_assign ((Value.slice a9 n10 c11)) rfl ?_)
  refine Run.region_end ?_
  refine Run.ret ⟨.inr rfl, ?_⟩
  exact hS.imp fun h' hq => ⟨a9, n10, c11, rfl, hq⟩
set_option maxHeartbeats 4000000 in
theorem C_countermandref01_Taken.of {B : RO} {s1 : ByteArray} {h : Heap} {Q : Int → Int → Heap → Prop} (hS : S_countermandref01_Taken B s1 h Q) : C_countermandref01_Taken B s1 h Q := by
 unfold S_countermandref01_Taken at hS
 unfold C_countermandref01_Taken
 refine Spec.of_run Try.func113 (N := 44) (rs := [ResultVar.tmp 2, ResultVar.tmp 3]) rfl rfl rfl (Nat.le_of_ble_eq_true rfl) ?_
 refine Run.seq ?_
 refine Run.ops0 (idx := [0, 1]) rfl ?_
 refine Run.go rfl rfl rfl (sem_assign ((Value.int .u64 (0))) rfl ?_)
 refine Run.go rfl rfl rfl (sem_assign ((Value.int .i64 (0))) rfl ?_)
 refine Run.region_end ?_
 refine Run.seq ?_
 refine Run.seq ?_
 refine Run.ops0 (idx := [0]) rfl ?_
 refine Run.go rfl rfl rfl (sem_assign ((Value.int .i64 (1))) rfl ?_)
 refine Run.region_end ?_
 refine Run.block ?_
 obtain ⟨J9, m7, h0, hS⟩ := hS
 refine Run.of_fin (h0.imp fun h' h0 => ?_)
 refine Run.loop (σ := Int × Nat) (fun x e h => J9 x.1 x.2 h ∧ Agree [(0, (Value.string s1)), (4, (Value.int .i64 (x.1)))] e) (fun x => x.2) ((1), m7) ⟨h0, ⟨rfl, rfl, trivial⟩⟩ ?_; clear h0
 rintro ⟨i4, m6⟩ e h5 ⟨hJ, hag⟩ ih8
 have hS := hS i4 m6 h5 hJ; clear hJ
 refine Run.env hag ?_; clear hag
 refine Run.seqJ (fun e h11 => Agree [(0, (Value.string s1)), (4, (Value.int .i64 (i4)))] e ∧ S_countermandref01_Taken_J1 B s1 i4 m6 J9 h11 Q) ?_ fun j10 => ?_
 ·rintro e h11 ⟨hag, hS⟩
  refine Run.env hag ?_; clear hag
  refine Run.seq ?_
  refine Run.block ?_
  refine Run.seq ?_
  refine Run.seq ?_
  refine Run.ops0 (idx := [0, 1, 2, 3, 4]) rfl ?_
  refine Run.go rfl rfl rfl (sem_move ((Value.string s1)) rfl ?_)
  refine Run.go rfl rfl rfl (sem_move ((Value.int .i64 (i4))) rfl ?_)
  refine Run.go rfl rfl rfl (sem_binI .i64 (i4) (1) ((Value.int .i64 (IntKind.wrap .i64 ((i4) - (1))))) rfl rfl rfl ?_)
  obtain ⟨hi0, hi1, hS⟩ := hS
  refine Run.go rfl rfl rfl (sem_indexStr' s1 .i64 (IntKind.wrap .i64 ((i4) - (1))) rfl rfl TF.isStr_9 hi0 hi1 ?_)
  obtain ⟨hT, hF⟩ := hS
  by_cases hb12 : (byteAt s1 (Int.toNat (IntKind.wrap .i64 ((i4) - (1)))) : Int) > (127)
  ·have hS := hT hb12; clear hT hF
   refine Run.go rfl rfl rfl (sem_binI .u8 (byteAt s1 (Int.toNat (IntKind.wrap .i64 ((i4) - (1))))) (127) (.bool true) rfl rfl (binI_gtr_t hb12) ?_)
   refine Run.region_end ?_
   refine Run.condT rfl ?_
   refine Run.exit rfl ?_
   refine Run.ops0 (idx := [0, 1, 2]) rfl ?_
   refine Run.go rfl rfl rfl (sem_move ((Value.int .i64 (i4))) rfl ?_)
   refine Run.go rfl rfl rfl (sem_binI .i64 (i4) (1) ((Value.int .i64 (IntKind.wrap .i64 ((i4) + (1))))) rfl rfl rfl ?_)
   refine Run.go rfl rfl rfl (sem_assign ((Value.int .i64 (IntKind.wrap .i64 ((i4) + (1))))) rfl ?_)
   refine Run.region_end ?_
   exact Run.of_fin (hS.imp fun h' ⟨m', hm, hS⟩ => ih8 ((IntKind.wrap .i64 ((i4) + (1))), m') _ _ ⟨hS, ⟨rfl, rfl, trivial⟩⟩ hm)
  ·have hS := hF hb12; clear hT hF
   refine Run.go rfl rfl rfl (sem_binI .u8 (byteAt s1 (Int.toNat (IntKind.wrap .i64 ((i4) - (1))))) (127) (.bool false) rfl rfl (binI_gtr_f hb12) ?_)
   refine Run.region_end ?_
   refine Run.condF rfl ?_
   refine Run.skip ?_
   refine Run.seq ?_
   refine Run.ops0 (idx := [0]) rfl ?_
   refine Run.go rfl rfl rfl (sem_assign ((Value.int .u64 (0))) rfl ?_)
   refine Run.region_end ?_
   refine Run.seqJ (fun e h15 => ∃ i14 : Int, Agree [(0, (Value.string s1)), (4, (Value.int .i64 (i4))), (5, (Value.int .u64 (i14)))] e ∧ S_countermandref01_Taken_J2 B s1 i4 i14 h15 Q) ?_ fun j13 => ?_
   ·rintro e h15 ⟨i14, hag, hS⟩
    refine Run.env hag ?_; clear hag
    refine Run.seq ?_
    refine Run.seq ?_
    skip
    skip
    skip
    obtain ⟨hi0, hi1, hi2, hS⟩ := hS
    have f20 := hi0; have f21 := hi1; have f22 := hi2
    refine Run.drawM (fun h' => True) [] ⟨[0, 1, 0, 0, 12, 18], [63, 62, 63, 63, 51, 45], [0, 0, 0, 0, 0, 0], 0⟩ (.q 0 (.q 2 (.q 3 (.q 4 (.x 1 (.q 5 .nil) .no))))) TF.mixed (by kernel_rfl) trivial ?_
    refine RunT.quiet rfl rfl rfl (fun h' hC => sem_move ((Value.int .u64 (i14))) rfl ⟨rfl, rfl⟩) ?_
    refine RunT.quiet rfl rfl rfl (fun h' hC => sem_move ((Value.string s1)) rfl ⟨rfl, rfl⟩) ?_
    refine RunT.quiet rfl rfl rfl (fun h' hC => sem_move ((Value.int .i64 (i4))) rfl ⟨rfl, rfl⟩) ?_
    refine RunT.quiet rfl rfl rfl (fun h' hC => sem_sliceStrI s1 (0) (i4) rfl TF.isStr_9 rfl ⟨_, rfl⟩ f20 f21 f22 ⟨rfl, rfl⟩) ?_
    refine ⟨?_, trivial⟩
    refine OpH.go rfl rfl rfl (sem_callL [(Value.int .u64 (i14))] (TF.goes_111) rfl rfl (Spec.mono hS fun v h23 hv => ?_))
    obtain ⟨s24, rfl, hS⟩ := hv
    refine ⟨fun _ => trivial, ?_⟩
    obtain ⟨hT, hF⟩ := hS
    by_cases hb25 : s24 = (ByteArray.extract s1 (Int.toNat (0)) (Int.toNat (i4)))
    ·have hS := hT hb25; clear hT hF
     refine RunT.quiet rfl rfl rfl (fun h' hC => sem_strNeT s24 (ByteArray.extract s1 (Int.toNat (0)) (Int.toNat (i4))) rfl rfl hb25 ⟨rfl, rfl⟩) ?_
     refine Run.condF rfl ?_
     refine Run.skip ?_
     refine Run.seq ?_
     refine Run.ops0 (idx := [0, 1, 2, 3]) rfl ?_
     refine Run.go rfl rfl rfl (sem_move ((Value.int .u64 (i14))) rfl ?_)
     refine Run.go rfl rfl rfl (sem_move ((Value.int .i64 (i4))) rfl ?_)
     refine Run.go rfl rfl rfl (sem_assign ((Value.int .u64 (i14))) rfl ?_)
     refine Run.go rfl rfl rfl (sem_assign ((Value.int .i64 (i4))) rfl ?_)
     refine Run.region_end ?_
     refine Run.ret ⟨.inr rfl, ?_⟩
     exact hS.imp fun h' hq => ⟨(i14), (i4), rfl, hq⟩
    ·have hS := hF hb25; clear hT hF
     refine RunT.quiet rfl rfl rfl (fun h' hC => sem_strNeF s24 (ByteArray.extract s1 (Int.toNat (0)) (Int.toNat (i4))) rfl rfl hb25 ⟨rfl, rfl⟩) ?_
     refine Run.condT rfl ?_
     refine Run.seq ?_
     refine Run.ops0 (idx := [0, 1]) rfl ?_
     refine Run.go rfl rfl rfl (sem_assign ((Value.int .u64 (0))) rfl ?_)
     refine Run.go rfl rfl rfl (sem_assign ((Value.int .i64 (0))) rfl ?_)
     refine Run.region_end ?_
     refine Run.ret ⟨.inr rfl, ?_⟩
     exact hS.imp fun h' hq => ⟨(0), (0), rfl, hq⟩
   refine Run.seq ?_
   refine Run.ops0 (idx := [0, 1, 2]) rfl ?_
   refine Run.go rfl rfl rfl (sem_move ((Value.int .i64 (i4))) rfl ?_)
   refine Run.go rfl rfl rfl (sem_binI .i64 (i4) (1) ((Value.int .i64 (IntKind.wrap .i64 ((i4) - (1))))) rfl rfl rfl ?_)
   refine Run.go rfl rfl rfl (sem_assign ((Value.int .i64 (IntKind.wrap .i64 ((i4) - (1))))) rfl ?_)
   refine Run.region_end ?_
   refine Run.block ?_
   obtain ⟨J32, m30, h0, hS⟩ := hS
   refine Run.of_fin (h0.imp fun h' h0 => ?_)
   refine Run.loop (σ := Int × Int × Nat) (fun x e h => J32 x.1 x.2.1 x.2.2 h ∧ Agree [(0, (Value.string s1)), (4, (Value.int .i64 (i4))), (5, (Value.int .u64 (x.1))), (6, (Value.int .i64 (x.2.1)))] e) (fun x => x.2.2) ((0), (IntKind.wrap .i64 ((i4) - (1))), m30) ⟨h0, ⟨rfl, rfl, rfl, rfl, trivial⟩⟩ ?_; clear h0
   rintro ⟨i26, i27, m29⟩ e h28 ⟨hJ, hag⟩ ih31
   have hS := hS i26 i27 m29 h28 hJ; clear hJ
   refine Run.env hag ?_; clear hag
   refine Run.seq ?_
   refine Run.seq ?_
   refine Run.ops0 (idx := [0, 1]) rfl ?_
   refine Run.go rfl rfl rfl (sem_move ((Value.int .i64 (i27))) rfl ?_)
   obtain ⟨hT, hF⟩ := hS
   by_cases hb33 : (i27 : Int) ≥ (0)
   ·have hS := hT hb33; clear hT hF
    refine Run.go rfl rfl rfl (sem_binI .i64 (i27) (0) (.bool true) rfl rfl (binI_geq_t hb33) ?_)
    refine Run.region_end ?_
    refine Run.condT rfl ?_
    refine Run.skip ?_
    refine Run.seq ?_
    refine Run.block ?_
    refine Run.ops0 (idx := [0, 1, 2, 3, 4, 5, 6, 7, 8]) rfl ?_
    refine Run.go rfl rfl rfl (sem_move ((Value.int .u64 (i26))) rfl ?_)
    refine Run.go rfl rfl rfl (sem_binI .u64 (i26) (128) ((Value.int .u64 (IntKind.wrap .u64 ((i26) * (128))))) rfl rfl rfl ?_)
    refine Run.go rfl rfl rfl (sem_move ((Value.string s1)) rfl ?_)
    refine Run.go rfl rfl rfl (sem_move ((Value.int .i64 (i27))) rfl ?_)
    obtain ⟨hi0, hi1, hS⟩ := hS
    refine Run.go rfl rfl rfl (sem_indexStr' s1 .i64 (i27) rfl rfl TF.isStr_9 hi0 hi1 ?_)
    refine Run.go rfl rfl rfl (sem_convI .u8 .u64 (byteAt s1 (Int.toNat (i27))) rfl TF.int_5 TF.int_188 ?_)
    obtain ⟨hi0, hS⟩ := hS
    refine Run.go rfl rfl rfl (sem_binI .u64 (IntKind.wrap .u64 (byteAt s1 (Int.toNat (i27)))) (128) ((Value.int .u64 (Int.tmod (IntKind.wrap .u64 (byteAt s1 (Int.toNat (i27)))) (128)))) rfl rfl (binI_rem hi0) ?_)
    refine Run.go rfl rfl rfl (sem_binI .u64 (IntKind.wrap .u64 ((i26) * (128))) (Int.tmod (IntKind.wrap .u64 (byteAt s1 (Int.toNat (i27)))) (128)) ((Value.int .u64 (IntKind.wrap .u64 ((IntKind.wrap .u64 ((i26) * (128))) + (Int.tmod (IntKind.wrap .u64 (byteAt s1 (Int.toNat (i27)))) (128)))))) rfl rfl rfl ?_)
    refine Run.go rfl rfl rfl (sem_assign ((Value.int .u64 (IntKind.wrap .u64 ((IntKind.wrap .u64 ((i26) * (128))) + (Int.tmod (IntKind.wrap .u64 (byteAt s1 (Int.toNat (i27)))) (128)))))) rfl ?_)
    refine Run.region_end ?_
    refine Run.inBlock ?_
    refine Run.ops0 (idx := [0, 1, 2]) rfl ?_
    refine Run.go rfl rfl rfl (sem_move ((Value.int .i64 (i27))) rfl ?_)
    refine Run.go rfl rfl rfl (sem_binI .i64 (i27) (1) ((Value.int .i64 (IntKind.wrap .i64 ((i27) - (1))))) rfl rfl rfl ?_)
    refine Run.go rfl rfl rfl (sem_assign ((Value.int .i64 (IntKind.wrap .i64 ((i27) - (1))))) rfl ?_)
    refine Run.region_end ?_
    exact Run.of_fin (hS.imp fun h' ⟨m', hm, hS⟩ => ih31 ((IntKind.wrap .u64 ((IntKind.wrap .u64 ((i26) * (128))) + (Int.tmod (IntKind.wrap .u64 (byteAt s1 (Int.toNat (i27)))) (128)))), (IntKind.wrap .i64 ((i27) - (1))), m') _ _ ⟨hS, ⟨rfl, rfl, rfl, rfl, trivial⟩⟩ hm)
   ·have hS := hF hb33; clear hT hF
    refine Run.go rfl rfl rfl (sem_binI .i64 (i27) (0) (.bool false) rfl rfl (binI_geq_f hb33) ?_)
    refine Run.region_end ?_
    refine Run.condF rfl ?_
    refine Run.exit rfl ?_
    exact Run.of_fin (hS.imp fun h' hS => j13 _ _ ⟨(i26), ⟨rfl, rfl, rfl, trivial⟩, hS⟩)
 refine Run.seq ?_
 refine Run.ops0 (idx := [0, 1, 2, 3, 4, 5, 6, 7]) rfl ?_
 refine Run.go rfl rfl rfl (sem_move ((Value.int .i64 (i4))) rfl ?_)
 obtain ⟨hT, hF⟩ := hS
 by_cases hb34 : (i4 : Int) ≤ (10)
 ·have hS := hT hb34; clear hT hF
  refine Run.go rfl rfl rfl (sem_binI .i64 (i4) (10) (.bool true) rfl rfl (binI_leq_t hb34) ?_)
  refine Run.go rfl rfl rfl (sem_move ((Value.bool true)) rfl ?_)
  refine Run.go rfl rfl rfl (sem_move ((Value.int .i64 (i4))) rfl ?_)
  refine Run.go rfl rfl rfl (sem_move ((Value.string s1)) rfl ?_)
  refine Run.go rfl rfl rfl (sem_lenStr s1 rfl TF.isStr_9 ?_)
  obtain ⟨hT, hF⟩ := hS
  by_cases hb35 : (i4 : Int) ≤ ((ByteArray.size s1 : Nat))
  ·have hS := hT hb35; clear hT hF
   refine Run.go rfl rfl rfl (sem_binI .i64 (i4) ((ByteArray.size s1 : Nat)) (.bool true) rfl rfl (binI_leq_t hb35) ?_)
   refine Run.go rfl rfl rfl (sem_pick true ((Value.bool true)) rfl rfl ?_)
   refine Run.region_end ?_
   refine Run.condT rfl ?_
   refine Run.skip ?_
   exact Run.of_fin (hS.imp fun h' hS => j10 _ _ ⟨⟨rfl, rfl, trivial⟩, hS⟩)
  ·have hS := hF hb35; clear hT hF
   refine Run.go rfl rfl rfl (sem_binI .i64 (i4) ((ByteArray.size s1 : Nat)) (.bool false) rfl rfl (binI_leq_f hb35) ?_)
   refine Run.go rfl rfl rfl (sem_pick true ((Value.bool false)) rfl rfl ?_)
   refine Run.region_end ?_
   refine Run.condF rfl ?_
   refine Run.exit rfl ?_
   refine Run.seq ?_
   refine Run.ops0 (idx := [0, 1]) rfl ?_
   refine Run.go rfl rfl rfl (sem_assign ((Value.int .u64 (0))) rfl ?_)
   refine Run.go rfl rfl rfl (sem_assign ((Value.int .i64 (0))) rfl ?_)
   refine Run.region_end ?_
   refine Run.ret ⟨.inr rfl, ?_⟩
   exact hS.imp fun h' hq => ⟨(0), (0), rfl, hq⟩
 ·have hS := hF hb34; clear hT hF
  refine Run.go rfl rfl rfl (sem_binI .i64 (i4) (10) (.bool false) rfl rfl (binI_leq_f hb34) ?_)
  refine Run.go rfl rfl rfl (sem_move ((Value.bool false)) rfl ?_)
  refine Run.no rfl rfl rfl ?_
  refine Run.no rfl rfl rfl ?_
  refine Run.no rfl rfl rfl ?_
  refine Run.no rfl rfl rfl ?_
  refine Run.go rfl rfl rfl (sem_pick false ((Value.bool false)) rfl rfl ?_)
  refine Run.region_end ?_
  refine Run.condF rfl ?_
  refine Run.exit rfl ?_
  refine Run.seq ?_
  refine Run.ops0 (idx := [0, 1]) rfl ?_
  refine Run.go rfl rfl rfl (sem_assign ((Value.int .u64 (0))) rfl ?_)
  refine Run.go rfl rfl rfl (sem_assign ((Value.int .i64 (0))) rfl ?_)
  refine Run.region_end ?_
  refine Run.ret ⟨.inr rfl, ?_⟩
  exact hS.imp fun h' hq => ⟨(0), (0), rfl, hq⟩
set_option maxHeartbeats 4000000 in
theorem C_wafer_All.of {B : RO} {s1 : ByteArray} {h : Heap} {Q : Value → Heap → Prop} (hS : S_wafer_All B s1 h Q) : C_wafer_All B s1 h Q := by
 unfold S_wafer_All at hS
 unfold C_wafer_All
 refine Spec.of_run Try.func128 (N := 4) (rs := [ResultVar.tmp 2]) rfl rfl rfl (Nat.le_of_ble_eq_true rfl) ?_
 refine Run.seq ?_
 refine Run.ops0 (idx := [0, 1]) rfl ?_
 refine Run.go rfl rfl rfl (sem_box1N ((Value.string s1)) rfl rfl (fun k3 hb1 hb2 h4 hb3 => ?_))
 have hS := hS k3 hb1 hb2 h4 hb3
 refine Run.go rfl rfl rfl (sem_assign (Value.nilFunc) rfl ?_)
 refine Run.region_end ?_
 refine Run.seq ?_
 refine Run.ops0 (idx := [0, 1]) rfl ?_
 refine Run.go rfl rfl rfl (sem_makeFuncL [] [(Value.pointer (some ⟨k3, 0, none⟩))] rfl rfl ?_)
 refine Run.go rfl rfl rfl (sem_assign ((Value.func (.func 149) #[] #[(Value.pointer (some ⟨k3, 0, none⟩))])) rfl ?_)
 refine Run.region_end ?_
 refine Run.ret ⟨.inr rfl, ?_⟩
 exact hS.imp fun h' hq => ⟨(Value.func (.func 149) #[] #[(Value.pointer (some ⟨k3, 0, none⟩))]), rfl, hq⟩
set_option maxHeartbeats 4000000 in
theorem C_wal_Log_All_1.of {B : RO} {v1 : Value} {A2 : Addr} {h : Heap} {Q : Heap → Prop} (hS : S_wal_Log_All_1 B v1 A2 h Q) : C_wal_Log_All_1 B v1 A2 h Q := by
 unfold S_wal_Log_All_1 at hS
 unfold C_wal_Log_All_1
 refine Spec.of_run Try.func129 (N := 21) (rs := []) rfl rfl rfl (Nat.le_of_ble_eq_true rfl) ?_
 refine Run.seq ?_
 refine Run.ops0 (idx := [0]) rfl ?_
 obtain ⟨hone, hS⟩ := hS
 refine Run.go rfl rfl rfl (sem_box1N (v1) rfl hone (fun k3 hb1 hb2 h4 hb3 => ?_))
 have hS := hS k3 hb1 hb2 h4 hb3
 refine Run.region_end ?_
 refine Run.seq ?_
 refine Run.seq ?_
 refine Run.ops0 (idx := [0, 1]) rfl ?_
 obtain ⟨p5, hl, hS⟩ := hS
 refine Run.go rfl rfl rfl (sem_load1 A2 ((Value.pointer p5)) rfl TF.agg_136 hl ?_)
 obtain ⟨hT, hF⟩ := hS
 by_cases hb6 : p5 = none
 ·have hS := hT hb6; clear hT hF
  refine Run.go rfl rfl rfl (sem_ptrNilT p5 (.inl rfl) true rfl rfl TF.ptr_136 hb6 rfl ?_)
  refine Run.region_end ?_
  refine Run.condT rfl ?_
  refine Run.ret ⟨.inr rfl, ?_⟩
  exact hS.imp fun h' hq => ⟨rfl, hq⟩
 ·have hS := hF hb6; clear hT hF
  refine Run.go rfl rfl rfl (sem_ptrNilF p5 (.inl rfl) false rfl rfl TF.ptr_136 hb6 rfl ?_)
  refine Run.region_end ?_
  refine Run.condF rfl ?_
  refine Run.skip ?_
  refine Run.seq ?_
  refine Run.drawM (fun h' => h' = h4) [8, 9] ⟨[0, 1, 2, 4, 0, 16, 32, 64, 136, 256], [1023, 1022, 1021, 1019, 1023, 1007, 991, 959, 887, 767], [0, 1, 3, 7, 0, 16, 48, 112, 255, 511], 768⟩ (.q 0 (.q 1 (.q 2 (.q 3 (.q 4 (.q 5 (.q 6 (.q 7 (.x 8 (.x 9 .nil .no) .no))))))))) TF.mixed (by kernel_rfl) rfl ?_
  obtain ⟨p7, hl, hS⟩ := hS
  refine RunT.quiet rfl rfl rfl (quiet_eq (sem_load1 A2 ((Value.pointer p7)) rfl TF.agg_136 hl ⟨rfl, rfl⟩)) ?_
  obtain ⟨A8, e9, hS⟩ := hS
  refine RunT.quiet rfl rfl rfl (quiet_eq (sem_nilCheck A8 (congrArg Value.pointer e9) ⟨rfl, rfl⟩)) ?_
  refine RunT.quiet rfl rfl rfl (quiet_eq (sem_fieldAddr A8 0 rfl TF.fld_178_0 ⟨rfl, rfl⟩)) ?_
  obtain ⟨p10, hl, hS⟩ := hS
  refine RunT.quiet rfl rfl rfl (quiet_eq (sem_load1 A8 ((Value.pointer p10)) rfl TF.agg_47 hl ⟨rfl, rfl⟩)) ?_
  obtain ⟨p11, hl, hS⟩ := hS
  refine RunT.quiet rfl rfl rfl (quiet_eq (sem_load1 A2 ((Value.pointer p11)) rfl TF.agg_136 hl ⟨rfl, rfl⟩)) ?_
  obtain ⟨A12, e13, hS⟩ := hS
  refine RunT.quiet rfl rfl rfl (quiet_eq (sem_nilCheck A12 (congrArg Value.pointer e13) ⟨rfl, rfl⟩)) ?_
  refine RunT.quiet rfl rfl rfl (quiet_eq (sem_fieldAddr A12 1 rfl TF.fld_178_1 ⟨rfl, rfl⟩)) ?_
  obtain ⟨i14, hl, hS⟩ := hS
  refine RunT.quiet rfl rfl rfl (quiet_eq (sem_load1 (Addr.add A12 1) ((Value.int .i64 (i14))) rfl TF.agg_3 hl ⟨rfl, rfl⟩)) ?_
  refine ⟨?_, trivial⟩
  refine OpH.go rfl rfl rfl (sem_callL [(Value.pointer p10), (Value.int .i64 (i14))] (TF.goes_39) rfl rfl (Spec.mono hS fun v h15 hv => ?_))
  obtain ⟨s16, rfl, hS⟩ := hv
  refine ⟨fun hz => Bool.noConfusion hz, ?_⟩
  refine ⟨?_, trivial⟩
  refine OpH.go rfl rfl rfl (sem_callL [(Value.string s16)] (TF.goes_128) rfl rfl (Spec.mono hS fun v18 h17 hv => ?_))
  obtain ⟨_, rfl, hS⟩ := hv
  refine ⟨fun hz => Bool.noConfusion hz, ?_⟩
  refine Run.block ?_
  obtain ⟨xs24, G20, J23, hit, hins, hG, h0, hS, hR⟩ := hS
  refine Run.of_fin (h0.imp fun h' h0 => ?_)
  refine Run.range (v18) (xs24.map (fun x : ByteArray => [(Value.string x)])) G20 J23 rfl hit hins hG h0 rfl (fun a ha => by obtain ⟨x, _, rfl⟩ := List.mem_map.1 ha; rfl) ?_ ?_
  ·rintro q22 args h21 ha hJ
   obtain ⟨s19, hx, rfl⟩ := Option.map_eq_some_iff.1 ((List.getElem?_map ..).symm.trans ha)
   have hS := hS q22 h21 s19 hx hJ; clear hJ hx ha
   refine Run.ops0 (idx := [0]) rfl ?_
   refine Run.go rfl rfl rfl (sem_assign ((Value.string s19)) rfl ?_)
   refine Run.region_end ?_
   refine Run.begin ⟨rfl, ?_⟩
   refine Run.block ?_
   refine Run.seq ?_
   refine Run.ops0 (idx := [0, 1, 2, 3]) rfl ?_
   obtain ⟨v25, hl, hS⟩ := hS
   refine Run.go rfl rfl rfl (sem_load1 ⟨k3, 0, none⟩ (v25) rfl TF.agg_70 hl ?_)
   refine Run.go rfl rfl rfl (sem_move ((Value.string s19)) rfl ?_)
   refine Run.go rfl rfl rfl (sem_callV (v25) [(Value.string s19)] rfl rfl hS (fun nx h' ha => ha.mono fun v h26 hv => ?_))
   obtain ⟨b27, rfl, hS⟩ := hv
   obtain ⟨hT, hF⟩ := hS
   cases b27
   ·have hS := hF rfl; clear hT hF
    refine Run.go rfl rfl rfl (sem_not false rfl ?_)
    refine Run.region_end ?_
    refine Run.condT rfl ?_
    refine Run.ret (.inr ⟨_, rfl, ?_⟩)
    refine Run.ret ⟨.inr rfl, ?_⟩
    exact hS.imp fun h' hq => ⟨rfl, hq⟩
   ·have hS := hT rfl; clear hT hF
    refine Run.go rfl rfl rfl (sem_not true rfl ?_)
    refine Run.region_end ?_
    refine Run.condF rfl ?_
    refine Run.skip ?_
    refine Run.inBlock ?_
    refine Run.of_fin (hS.imp fun h' hS => ?_)
    exact Run.fall (.inl ⟨rfl, hS⟩)
  ·intro h21 hJ
   have hS := hR h21 (by simpa using hJ); clear hJ hR
   refine Run.inBlock ?_
   refine Run.fall ⟨.inl rfl, ?_⟩
   exact hS.imp fun h' hq => ⟨rfl, hq⟩
set_option maxHeartbeats 4000000 in
theorem C_stylus_Of.of {B : RO} {s1 : ByteArray} {h : Heap} {Q : Option Addr → Heap → Prop} (hS : S_stylus_Of B s1 h Q) : C_stylus_Of B s1 h Q := by
 unfold S_stylus_Of at hS
 unfold C_stylus_Of
 refine Spec.of_run Try.func130 (N := 6) (rs := [ResultVar.tmp 2]) rfl rfl rfl (Nat.le_of_ble_eq_true rfl) ?_
 refine Run.seq ?_
 refine Run.ops0 (idx := [0]) rfl ?_
 refine Run.go rfl rfl rfl (sem_assign ((Value.pointer none)) rfl ?_)
 refine Run.region_end ?_
 refine Run.seq ?_
 refine Run.ops0 (idx := [0, 1, 2, 3]) rfl ?_
 refine Run.go rfl rfl rfl (sem_move ((Value.string s1)) rfl ?_)
 refine Run.go rfl rfl rfl (sem_buildSL [(0, (Value.string s1))] [(Value.string s1), (Value.bool false)] TF.zero_222 TF.places_222 rfl rfl ?_)
 refine Run.go rfl rfl rfl (sem_boxNN [(Value.string s1), (Value.bool false)] rfl (fun k3 hb1 hb2 h4 hb3 => ?_))
 have hS := hS k3 hb1 hb2 h4 hb3
 refine Run.go rfl rfl rfl (sem_assign ((Value.pointer (some ⟨k3, 0, none⟩))) rfl ?_)
 refine Run.region_end ?_
 refine Run.ret ⟨.inr rfl, ?_⟩
 exact hS.imp fun h' hq => ⟨(some ⟨k3, 0, none⟩), rfl, hq⟩
set_option maxHeartbeats 4000000 in
theorem C_stylus_Reader_Nat.of {B : RO} {p1 : Option Addr} {i2 : Int} {h : Heap} {Q : Int → Heap → Prop} (hS : S_stylus_Reader_Nat B p1 i2 h Q) : C_stylus_Reader_Nat B p1 i2 h Q := by
 unfold S_stylus_Reader_Nat at hS
 unfold C_stylus_Reader_Nat
 refine Spec.of_run Try.func131 (N := 20) (rs := [ResultVar.tmp 4]) rfl rfl rfl (Nat.le_of_ble_eq_true rfl) ?_
 refine Run.seq ?_
 refine Run.ops0 (idx := [0]) rfl ?_
 refine Run.go rfl rfl rfl (sem_assign ((Value.int .i64 (0))) rfl ?_)
 refine Run.region_end ?_
 refine Run.seq ?_
 refine Run.ops0 (idx := [0, 1, 2]) rfl ?_
 refine Run.go rfl rfl rfl (sem_move ((Value.pointer p1)) rfl ?_)
 refine Run.go rfl rfl rfl (sem_callL [(Value.pointer p1)] (TF.goes_151) rfl rfl (Spec.mono hS fun v h4 hv => ?_))
 obtain ⟨i5, rfl, hS⟩ := hv
 refine Run.go rfl rfl rfl (sem_assign ((Value.int .u64 (i5))) rfl ?_)
 refine Run.region_end ?_
 refine Run.seq ?_
 refine Run.seq ?_
 refine Run.ops0 (idx := [0, 1, 2, 3, 4, 5, 6, 7]) rfl ?_
 refine Run.go rfl rfl rfl (sem_move ((Value.int .i64 (i2))) rfl ?_)
 obtain ⟨hT, hF⟩ := hS
 by_cases hb6 : (i2 : Int) < (0)
 ·have hS := hT hb6; clear hT hF
  refine Run.go rfl rfl rfl (sem_binI .i64 (i2) (0) (.bool true) rfl rfl (binI_lss_t hb6) ?_)
  refine Run.go rfl rfl rfl (sem_move ((Value.bool true)) rfl ?_)
  refine Run.no rfl rfl rfl ?_
  refine Run.no rfl rfl rfl ?_
  refine Run.no rfl rfl rfl ?_
  refine Run.no rfl rfl rfl ?_
  refine Run.go rfl rfl rfl (sem_pick true ((Value.bool true)) rfl rfl ?_)
  refine Run.region_end ?_
  refine Run.condT rfl ?_
  refine Run.seq ?_
  refine Run.ops0 (idx := [0, 1]) rfl ?_
  refine Run.go rfl rfl rfl (sem_move ((Value.pointer p1)) rfl ?_)
  refine Run.go rfl rfl rfl (sem_callL [(Value.pointer p1)] (TF.goes_152) rfl rfl (Spec.mono hS fun v h7 hv => ?_))
  obtain ⟨rfl, hS⟩ := hv
  refine Run.region_end ?_
  refine Run.seq ?_
  refine Run.ops0 (idx := [0]) rfl ?_
  refine Run.go rfl rfl rfl (sem_assign ((Value.int .i64 (0))) rfl ?_)
  refine Run.region_end ?_
  refine Run.ret ⟨.inr rfl, ?_⟩
  exact hS.imp fun h' hq => ⟨(0), rfl, hq⟩
 ·have hS := hF hb6; clear hT hF
  refine Run.go rfl rfl rfl (sem_binI .i64 (i2) (0) (.bool false) rfl rfl (binI_lss_f hb6) ?_)
  refine Run.go rfl rfl rfl (sem_move ((Value.bool false)) rfl ?_)
  refine Run.go rfl rfl rfl (sem_move ((Value.int .u64 (i5))) rfl ?_)
  refine Run.go rfl rfl rfl (sem_move ((Value.int .i64 (i2))) rfl ?_)
  refine Run.go rfl rfl rfl (sem_convI .i64 .u64 (i2) rfl TF.int_3 TF.int_188 ?_)
  obtain ⟨hT, hF⟩ := hS
  by_cases hb8 : (i5 : Int) > (IntKind.wrap .u64 (i2))
  ·have hS := hT hb8; clear hT hF
   refine Run.go rfl rfl rfl (sem_binI .u64 (i5) (IntKind.wrap .u64 (i2)) (.bool true) rfl rfl (binI_gtr_t hb8) ?_)
   refine Run.go rfl rfl rfl (sem_pick false ((Value.bool true)) rfl rfl ?_)
   refine Run.region_end ?_
   refine Run.condT rfl ?_
   refine Run.seq ?_
   refine Run.ops0 (idx := [0, 1]) rfl ?_
   refine Run.go rfl rfl rfl (sem_move ((Value.pointer p1)) rfl ?_)
   refine Run.go rfl rfl rfl (sem_callL [(Value.pointer p1)] (TF.goes_152) rfl rfl (Spec.mono hS fun v h9 hv => ?_))
   obtain ⟨rfl, hS⟩ := hv
   refine Run.region_end ?_
   refine Run.seq ?_
   refine Run.ops0 (idx := [0]) rfl ?_
   refine Run.go rfl rfl rfl (sem_assign ((Value.int .i64 (0))) rfl ?_)
   refine Run.region_end ?_
   refine Run.ret ⟨.inr rfl, ?_⟩
   exact hS.imp fun h' hq => ⟨(0), rfl, hq⟩
  ·have hS := hF hb8; clear hT hF
   refine Run.go rfl rfl rfl (sem_binI .u64 (i5) (IntKind.wrap .u64 (i2)) (.bool false) rfl rfl (binI_gtr_f hb8) ?_)
   refine Run.go rfl rfl rfl (sem_pick false ((Value.bool false)) rfl rfl ?_)
   refine Run.region_end ?_
   refine Run.condF rfl ?_
   refine Run.skip ?_
   refine Run.seq ?_
   refine Run.ops0 (idx := [0, 1, 2]) rfl ?_
   refine Run.go rfl rfl rfl (sem_move ((Value.int .u64 (i5))) rfl ?_)
   refine Run.go rfl rfl rfl (sem_convI .u64 .i64 (i5) rfl TF.int_188 TF.int_3 ?_)
   refine Run.go rfl rfl rfl (sem_assign ((Value.int .i64 (IntKind.wrap .i64 (i5)))) rfl ?_)
   refine Run.region_end ?_
   refine Run.ret ⟨.inr rfl, ?_⟩
   exact hS.imp fun h' hq => ⟨(IntKind.wrap .i64 (i5)), rfl, hq⟩
set_option maxHeartbeats 4000000 in
theorem C_stylus_Reader_Raw.of {B : RO} {p1 : Option Addr} {i2 : Int} {h : Heap} {Q : ByteArray → Heap → Prop} (hS : S_stylus_Reader_Raw B p1 i2 h Q) : C_stylus_Reader_Raw B p1 i2 h Q := by
 unfold S_stylus_Reader_Raw at hS
 unfold C_stylus_Reader_Raw
 refine Spec.of_run Try.func132 (N := 45) (rs := [ResultVar.tmp 4]) rfl rfl rfl (Nat.le_of_ble_eq_true rfl) ?_
 refine Run.seq ?_
 refine Run.ops0 (idx := [0]) rfl ?_
 refine Run.go rfl rfl rfl (sem_assign ((Value.string (ByteArray.mk #[]))) rfl ?_)
 refine Run.region_end ?_
 refine Run.seqJ (fun e h5 => Agree [(0, (Value.pointer p1)), (1, (Value.int .i64 (i2)))] e ∧ S_stylus_Reader_Raw_J1 B p1 i2 h5 Q) ?_ fun j4 => ?_
 ·rintro e h5 ⟨hag, hS⟩
  refine Run.env hag ?_; clear hag
  refine Run.seq ?_
  refine Run.ops0 (idx := [0, 1, 2, 3, 4, 5, 6]) rfl ?_
  refine Run.go rfl rfl rfl (sem_move ((Value.pointer p1)) rfl ?_)
  obtain ⟨A6, e7, hS⟩ := hS
  refine Run.go rfl rfl rfl (sem_nilCheck A6 (congrArg Value.pointer e7) ?_)
  refine Run.go rfl rfl rfl (sem_fieldAddr A6 0 rfl TF.fld_222_0 ?_)
  obtain ⟨s8, hl, hS⟩ := hS
  refine Run.go rfl rfl rfl (sem_load1 A6 ((Value.string s8)) rfl TF.agg_9 hl ?_)
  refine Run.go rfl rfl rfl (sem_move ((Value.int .i64 (i2))) rfl ?_)
  obtain ⟨hi0, hi1, hi2, hS⟩ := hS
  refine Run.go rfl rfl rfl (sem_sliceStrI s8 (0) (i2) rfl TF.isStr_9 rfl ⟨_, rfl⟩ hi0 hi1 hi2 ?_)
  refine Run.go rfl rfl rfl (sem_assign ((Value.string (ByteArray.extract s8 (Int.toNat (0)) (Int.toNat (i2))))) rfl ?_)
  refine Run.region_end ?_
  refine Run.seq ?_
  refine Run.ops0 (idx := [0, 1, 2, 3, 4, 5, 6, 7, 8, 9]) rfl ?_
  refine Run.go rfl rfl rfl (sem_move ((Value.pointer p1)) rfl ?_)
  refine Run.go rfl rfl rfl (sem_move ((Value.pointer p1)) rfl ?_)
  obtain ⟨A9, e10, hS⟩ := hS
  refine Run.go rfl rfl rfl (sem_nilCheck A9 (congrArg Value.pointer e10) ?_)
  refine Run.go rfl rfl rfl (sem_fieldAddr A9 0 rfl TF.fld_222_0 ?_)
  obtain ⟨s11, hl, hS⟩ := hS
  refine Run.go rfl rfl rfl (sem_load1 A9 ((Value.string s11)) rfl TF.agg_9 hl ?_)
  refine Run.go rfl rfl rfl (sem_move ((Value.int .i64 (i2))) rfl ?_)
  obtain ⟨hi0, hi1, hi2, hS⟩ := hS
  refine Run.go rfl rfl rfl (sem_sliceStrI s11 (i2) ((ByteArray.size s11 : Nat)) rfl TF.isStr_9 ⟨_, rfl⟩ rfl hi0 hi1 hi2 ?_)
  obtain ⟨A12, e13, hS⟩ := hS
  refine Run.go rfl rfl rfl (sem_nilCheck A12 (congrArg Value.pointer e13) ?_)
  refine Run.go rfl rfl rfl (sem_fieldAddr A12 0 rfl TF.fld_222_0 ?_)
  obtain ⟨h14, hst, hS⟩ := hS
  refine Run.go rfl rfl rfl (sem_store1 A12 ((Value.string (ByteArray.extract s11 (Int.toNat (i2)) (Int.toNat ((ByteArray.size s11 : Nat)))))) h14 rfl rfl rfl TF.sz_9 hst ?_)
  refine Run.region_end ?_
  refine Run.seq ?_
  refine Run.ops0 (idx := [0, 1]) rfl ?_
  refine Run.go rfl rfl rfl (sem_move ((Value.string (ByteArray.extract s8 (Int.toNat (0)) (Int.toNat (i2))))) rfl ?_)
  refine Run.go rfl rfl rfl (sem_assign ((Value.string (ByteArray.extract s8 (Int.toNat (0)) (Int.toNat (i2))))) rfl ?_)
  refine Run.region_end ?_
  refine Run.ret ⟨.inr rfl, ?_⟩
  exact hS.imp fun h' hq => ⟨(ByteArray.extract s8 (Int.toNat (0)) (Int.toNat (i2))), rfl, hq⟩
 refine Run.seq ?_
 refine Run.ops0 (idx := [0, 1, 2, 3, 4, 5, 6, 7, 8, 9, 10, 11, 12, 13, 14, 15, 16, 17, 18, 19, 20]) rfl ?_
 refine Run.go rfl rfl rfl (sem_move ((Value.pointer p1)) rfl ?_)
 obtain ⟨hT, hF⟩ := hS
 by_cases hb15 : p1 = none
 ·have hS := hT hb15; clear hT hF
  refine Run.go rfl rfl rfl (sem_ptrNilT p1 (.inl rfl) true rfl rfl TF.ptr_202 hb15 rfl ?_)
  refine Run.go rfl rfl rfl (sem_move ((Value.bool true)) rfl ?_)
  refine Run.no rfl rfl rfl ?_
  refine Run.no rfl rfl rfl ?_
  refine Run.no rfl rfl rfl ?_
  refine Run.no rfl rfl rfl ?_
  refine Run.go rfl rfl rfl (sem_pick true ((Value.bool true)) rfl rfl ?_)
  refine Run.go rfl rfl rfl (sem_move ((Value.bool true)) rfl ?_)
  refine Run.no rfl rfl rfl ?_
  refine Run.no rfl rfl rfl ?_
  refine Run.go rfl rfl rfl (sem_pick true ((Value.bool true)) rfl rfl ?_)
  refine Run.go rfl rfl rfl (sem_move ((Value.bool true)) rfl ?_)
  refine Run.no rfl rfl rfl ?_
  refine Run.no rfl rfl rfl ?_
  refine Run.no rfl rfl rfl ?_
  refine Run.no rfl rfl rfl ?_
  refine Run.no rfl rfl rfl ?_
  refine Run.no rfl rfl rfl ?_
  refine Run.no rfl rfl rfl ?_
  refine Run.go rfl rfl rfl (sem_pick true ((Value.bool true)) rfl rfl ?_)
  refine Run.region_end ?_
  refine Run.condT rfl ?_
  refine Run.seq ?_
  refine Run.ops0 (idx := [0, 1]) rfl ?_
  refine Run.go rfl rfl rfl (sem_move ((Value.pointer p1)) rfl ?_)
  refine Run.go rfl rfl rfl (sem_callL [(Value.pointer p1)] (TF.goes_152) rfl rfl (Spec.mono hS fun v h16 hv => ?_))
  obtain ⟨rfl, hS⟩ := hv
  refine Run.region_end ?_
  refine Run.seq ?_
  refine Run.ops0 (idx := [0]) rfl ?_
  refine Run.go rfl rfl rfl (sem_assign ((Value.string (ByteArray.mk #[]))) rfl ?_)
  refine Run.region_end ?_
  refine Run.ret ⟨.inr rfl, ?_⟩
  exact hS.imp fun h' hq => ⟨(ByteArray.mk #[]), rfl, hq⟩
 ·have hS := hF hb15; clear hT hF
  refine Run.go rfl rfl rfl (sem_ptrNilF p1 (.inl rfl) false rfl rfl TF.ptr_202 hb15 rfl ?_)
  refine Run.go rfl rfl rfl (sem_move ((Value.bool false)) rfl ?_)
  refine Run.go rfl rfl rfl (sem_move ((Value.pointer p1)) rfl ?_)
  obtain ⟨A17, e18, hS⟩ := hS
  refine Run.go rfl rfl rfl (sem_nilCheck A17 (congrArg Value.pointer e18) ?_)
  refine Run.go rfl rfl rfl (sem_fieldAddr A17 1 rfl TF.fld_222_1 ?_)
  obtain ⟨b19, hl, hS⟩ := hS
  obtain ⟨hT, hF⟩ := hS
  cases b19
  ·have hS := hF rfl; clear hT hF
   refine Run.go rfl rfl rfl (sem_load1 (Addr.add A17 1) (.bool false) rfl TF.agg_4 hl ?_)
   refine Run.go rfl rfl rfl (sem_pick false ((Value.bool false)) rfl rfl ?_)
   refine Run.go rfl rfl rfl (sem_move ((Value.bool false)) rfl ?_)
   refine Run.go rfl rfl rfl (sem_move ((Value.int .i64 (i2))) rfl ?_)
   obtain ⟨hT, hF⟩ := hS
   by_cases hb20 : (i2 : Int) < (0)
   ·have hS := hT hb20; clear hT hF
    refine Run.go rfl rfl rfl (sem_binI .i64 (i2) (0) (.bool true) rfl rfl (binI_lss_t hb20) ?_)
    refine Run.go rfl rfl rfl (sem_pick false ((Value.bool true)) rfl rfl ?_)
    refine Run.go rfl rfl rfl (sem_move ((Value.bool true)) rfl ?_)
    refine Run.no rfl rfl rfl ?_
    refine Run.no rfl rfl rfl ?_
    refine Run.no rfl rfl rfl ?_
    refine Run.no rfl rfl rfl ?_
    refine Run.no rfl rfl rfl ?_
    refine Run.no rfl rfl rfl ?_
    refine Run.no rfl rfl rfl ?_
    refine Run.go rfl rfl rfl (sem_pick true ((Value.bool true)) rfl rfl ?_)
    refine Run.region_end ?_
    refine Run.condT rfl ?_
    refine Run.seq ?_
    refine Run.ops0 (idx := [0, 1]) rfl ?_
    refine Run.go rfl rfl rfl (sem_move ((Value.pointer p1)) rfl ?_)
    refine Run.go rfl rfl rfl (sem_callL [(Value.pointer p1)] (TF.goes_152) rfl rfl (Spec.mono hS fun v h21 hv => ?_))
    obtain ⟨rfl, hS⟩ := hv
    refine Run.region_end ?_
    refine Run.seq ?_
    refine Run.ops0 (idx := [0]) rfl ?_
    refine Run.go rfl rfl rfl (sem_assign ((Value.string (ByteArray.mk #[]))) rfl ?_)
    refine Run.region_end ?_
    refine Run.ret ⟨.inr rfl, ?_⟩
    exact hS.imp fun h' hq => ⟨(ByteArray.mk #[]), rfl, hq⟩
   ·have hS := hF hb20; clear hT hF
    refine Run.go rfl rfl rfl (sem_binI .i64 (i2) (0) (.bool false) rfl rfl (binI_lss_f hb20) ?_)
    refine Run.go rfl rfl rfl (sem_pick false ((Value.bool false)) rfl rfl ?_)
    refine Run.go rfl rfl rfl (sem_move ((Value.bool false)) rfl ?_)
    refine Run.go rfl rfl rfl (sem_move ((Value.int .i64 (i2))) rfl ?_)
    refine Run.go rfl rfl rfl (sem_move ((Value.pointer p1)) rfl ?_)
    obtain ⟨A22, e23, hS⟩ := hS
    refine Run.go rfl rfl rfl (sem_nilCheck A22 (congrArg Value.pointer e23) ?_)
    refine Run.go rfl rfl rfl (sem_fieldAddr A22 0 rfl TF.fld_222_0 ?_)
    obtain ⟨s24, hl, hS⟩ := hS
    refine Run.go rfl rfl rfl (sem_load1 A22 ((Value.string s24)) rfl TF.agg_9 hl ?_)
    refine Run.go rfl rfl rfl (sem_lenStr s24 rfl TF.isStr_9 ?_)
    obtain ⟨hT, hF⟩ := hS
    by_cases hb25 : (i2 : Int) > ((ByteArray.size s24 : Nat))
    ·have hS := hT hb25; clear hT hF
     refine Run.go rfl rfl rfl (sem_binI .i64 (i2) ((ByteArray.size s24 : Nat)) (.bool true) rfl rfl (binI_gtr_t hb25) ?_)
     refine Run.go rfl rfl rfl (sem_pick false ((Value.bool true)) rfl rfl ?_)
     refine Run.region_end ?_
     refine Run.condT rfl ?_
     refine Run.seq ?_
     refine Run.ops0 (idx := [0, 1]) rfl ?_
     refine Run.go rfl rfl rfl (sem_move ((Value.pointer p1)) rfl ?_)
     refine Run.go rfl rfl rfl (sem_callL [(Value.pointer p1)] (TF.goes_152) rfl rfl (Spec.mono hS fun v h26 hv => ?_))
     obtain ⟨rfl, hS⟩ := hv
     refine Run.region_end ?_
     refine Run.seq ?_
     refine Run.ops0 (idx := [0]) rfl ?_
     refine Run.go rfl rfl rfl (sem_assign ((Value.string (ByteArray.mk #[]))) rfl ?_)
     refine Run.region_end ?_
     refine Run.ret ⟨.inr rfl, ?_⟩
     exact hS.imp fun h' hq => ⟨(ByteArray.mk #[]), rfl, hq⟩
    ·have hS := hF hb25; clear hT hF
     refine Run.go rfl rfl rfl (sem_binI .i64 (i2) ((ByteArray.size s24 : Nat)) (.bool false) rfl rfl (binI_gtr_f hb25) ?_)
     refine Run.go rfl rfl rfl (sem_pick false ((Value.bool false)) rfl rfl ?_)
     refine Run.region_end ?_
     refine Run.condF rfl ?_
     refine Run.skip ?_
     exact Run.of_fin (hS.imp fun h' hS => j4 _ _ ⟨⟨rfl, rfl, trivial⟩, hS⟩)
  ·have hS := hT rfl; clear hT hF
   refine Run.go rfl rfl rfl (sem_load1 (Addr.add A17 1) (.bool true) rfl TF.agg_4 hl ?_)
   refine Run.go rfl rfl rfl (sem_pick false ((Value.bool true)) rfl rfl ?_)
   refine Run.go rfl rfl rfl (sem_move ((Value.bool true)) rfl ?_)
   refine Run.no rfl rfl rfl ?_
   refine Run.no rfl rfl rfl ?_
   refine Run.go rfl rfl rfl (sem_pick true ((Value.bool true)) rfl rfl ?_)
   refine Run.go rfl rfl rfl (sem_move ((Value.bool true)) rfl ?_)
   refine Run.no rfl rfl rfl ?_
   refine Run.no rfl rfl rfl ?_
   refine Run.no rfl rfl rfl ?_
   refine Run.no rfl rfl rfl ?_
   refine Run.no rfl rfl rfl ?_
   refine Run.no rfl rfl rfl ?_
   refine Run.no rfl rfl rfl ?_
   refine Run.go rfl rfl rfl (sem_pick true ((Value.bool true)) rfl rfl ?_)
   refine Run.region_end ?_
   refine Run.condT rfl ?_
   refine Run.seq ?_
   refine Run.ops0 (idx := [0, 1]) rfl ?_
   refine Run.go rfl rfl rfl (sem_move ((Value.pointer p1)) rfl ?_)
   refine Run.go rfl rfl rfl (sem_callL [(Value.pointer p1)] (TF.goes_152) rfl rfl (Spec.mono hS fun v h27 hv => ?_))
   obtain ⟨rfl, hS⟩ := hv
   refine Run.region_end ?_
   refine Run.seq ?_
   refine Run.ops0 (idx := [0]) rfl ?_
   refine Run.go rfl rfl rfl (sem_assign ((Value.string (ByteArray.mk #[]))) rfl ?_)
   refine Run.region_end ?_
   refine Run.ret ⟨.inr rfl, ?_⟩
   exact hS.imp fun h' hq => ⟨(ByteArray.mk #[]), rfl, hq⟩
set_option maxHeartbeats 4000000 in
theorem C_stylus_Reader_Left.of {B : RO} {p1 : Option Addr} {h : Heap} {Q : Int → Heap → Prop} (hS : S_stylus_Reader_Left B p1 h Q) : C_stylus_Reader_Left B p1 h Q := by
 unfold S_stylus_Reader_Left at hS
 unfold C_stylus_Reader_Left
 refine Spec.of_run Try.func133 (N := 10) (rs := [ResultVar.tmp 2]) rfl rfl rfl (Nat.le_of_ble_eq_true rfl) ?_
 refine Run.seq ?_
 refine Run.ops0 (idx := [0]) rfl ?_
 refine Run.go rfl rfl rfl (sem_assign ((Value.int .i64 (0))) rfl ?_)
 refine Run.region_end ?_
 refine Run.seq ?_
 refine Run.seq ?_
 refine Run.ops0 (idx := [0, 1]) rfl ?_
 refine Run.go rfl rfl rfl (sem_move ((Value.pointer p1)) rfl ?_)
 obtain ⟨hT, hF⟩ := hS
 by_cases hb3 : p1 = none
 ·have hS := hT hb3; clear hT hF
  refine Run.go rfl rfl rfl (sem_ptrNilT p1 (.inl rfl) true rfl rfl TF.ptr_202 hb3 rfl ?_)
  refine Run.region_end ?_
  refine Run.condT rfl ?_
  refine Run.seq ?_
  refine Run.ops0 (idx := [0]) rfl ?_
  refine Run.go rfl rfl rfl (sem_assign ((Value.int .i64 (0))) rfl ?_)
  refine Run.region_end ?_
  refine Run.ret ⟨.inr rfl, ?_⟩
  exact hS.imp fun h' hq => ⟨(0), rfl, hq⟩
 ·have hS := hF hb3; clear hT hF
  refine Run.go rfl rfl rfl (sem_ptrNilF p1 (.inl rfl) false rfl rfl TF.ptr_202 hb3 rfl ?_)
  refine Run.region_end ?_
  refine Run.condF rfl ?_
  refine Run.skip ?_
  refine Run.seq ?_
  refine Run.ops0 (idx := [0, 1, 2, 3, 4, 5]) rfl ?_
  refine Run.go rfl rfl rfl (sem_move ((Value.pointer p1)) rfl ?_)
  obtain ⟨A4, e5, hS⟩ := hS
  refine Run.go rfl rfl rfl (sem_nilCheck A4 (congrArg Value.pointer e5) ?_)
  refine Run.go rfl rfl rfl (sem_fieldAddr A4 0 rfl TF.fld_222_0 ?_)
  obtain ⟨s6, hl, hS⟩ := hS
  refine Run.go rfl rfl rfl (sem_load1 A4 ((Value.string s6)) rfl TF.agg_9 hl ?_)
  refine Run.go rfl rfl rfl (sem_lenStr s6 rfl TF.isStr_9 ?_)
  refine Run.go rfl rfl rfl (sem_assign ((Value.int .i64 ((ByteArray.size s6 : Nat)))) rfl ?_)
  refine Run.region_end ?_
  refine Run.ret ⟨.inr rfl, ?_⟩
  exact hS.imp fun h' hq => ⟨((ByteArray.size s6 : Nat)), rfl, hq⟩
set_option maxHeartbeats 4000000 in
theorem C_stylus_Reader_Bad.of {B : RO} {p1 : Option Addr} {h : Heap} {Q : Bool → Heap → Prop} (hS : S_stylus_Reader_Bad B p1 h Q) : C_stylus_Reader_Bad B p1 h Q := by
 unfold S_stylus_Reader_Bad at hS
 unfold C_stylus_Reader_Bad
 refine Spec.of_run Try.func134 (N := 11) (rs := [ResultVar.tmp 2]) rfl rfl rfl (Nat.le_of_ble_eq_true rfl) ?_
 refine Run.seq ?_
 refine Run.ops0 (idx := [0]) rfl ?_
 refine Run.go rfl rfl rfl (sem_assign ((Value.bool false)) rfl ?_)
 refine Run.region_end ?_
 refine Run.seq ?_
 refine Run.ops0 (idx := [0, 1, 2, 3, 4, 5, 6, 7, 8]) rfl ?_
 refine Run.go rfl rfl rfl (sem_move ((Value.pointer p1)) rfl ?_)
 obtain ⟨hT, hF⟩ := hS
 by_cases hb3 : p1 = none
 ·have hS := hT hb3; clear hT hF
  refine Run.go rfl rfl rfl (sem_ptrNilT p1 (.inl rfl) true rfl rfl TF.ptr_202 hb3 rfl ?_)
  refine Run.go rfl rfl rfl (sem_move ((Value.bool true)) rfl ?_)
  refine Run.no rfl rfl rfl ?_
  refine Run.no rfl rfl rfl ?_
  refine Run.no rfl rfl rfl ?_
  refine Run.no rfl rfl rfl ?_
  refine Run.go rfl rfl rfl (sem_pick true ((Value.bool true)) rfl rfl ?_)
  refine Run.go rfl rfl rfl (sem_assign ((Value.bool true)) rfl ?_)
  refine Run.region_end ?_
  refine Run.ret ⟨.inr rfl, ?_⟩
  exact hS.imp fun h' hq => ⟨(true), rfl, hq⟩
 ·have hS := hF hb3; clear hT hF
  refine Run.go rfl rfl rfl (sem_ptrNilF p1 (.inl rfl) false rfl rfl TF.ptr_202 hb3 rfl ?_)
  refine Run.go rfl rfl rfl (sem_move ((Value.bool false)) rfl ?_)
  refine Run.go rfl rfl rfl (sem_move ((Value.pointer p1)) rfl ?_)
  obtain ⟨A4, e5, hS⟩ := hS
  refine Run.go rfl rfl rfl (sem_nilCheck A4 (congrArg Value.pointer e5) ?_)
  refine Run.go rfl rfl rfl (sem_fieldAddr A4 1 rfl TF.fld_222_1 ?_)
  obtain ⟨b6, hl, hS⟩ := hS
  refine Run.go rfl rfl rfl (sem_load1 (Addr.add A4 1) ((Value.bool b6)) rfl TF.agg_4 hl ?_)
  refine Run.go rfl rfl rfl (sem_pick false ((Value.bool b6)) rfl rfl ?_)
  refine Run.go rfl rfl rfl (sem_assign ((Value.bool b6)) rfl ?_)
  refine Run.region_end ?_
  refine Run.ret ⟨.inr rfl, ?_⟩
  exact hS.imp fun h' hq => ⟨(b6), rfl, hq⟩
set_option maxHeartbeats 4000000 in
theorem C_wafer_foots.of {B : RO} {i1 : Int} {h : Heap} {Q : ByteArray → Heap → Prop} (hS : S_wafer_foots B i1 h Q) : C_wafer_foots B i1 h Q := by
 unfold S_wafer_foots at hS
 unfold C_wafer_foots
 refine Spec.of_run Try.func135 (N := 16) (rs := [ResultVar.tmp 2]) rfl rfl rfl (Nat.le_of_ble_eq_true rfl) ?_
 refine Run.seq ?_
 refine Run.ops0 (idx := [0]) rfl ?_
 refine Run.go rfl rfl rfl (sem_assign ((Value.string (ByteArray.mk #[]))) rfl ?_)
 refine Run.region_end ?_
 refine Run.seq ?_
 refine Run.ops0 (idx := [0, 1, 2, 3, 4, 5, 6, 7, 8, 9, 10, 11, 12, 13]) rfl ?_
 refine Run.go rfl rfl rfl (sem_move ((Value.int .u32 (i1))) rfl ?_)
 refine Run.go rfl rfl rfl (sem_convI .u32 .u8 (i1) rfl TF.int_185 TF.int_5 ?_)
 refine Run.go rfl rfl rfl (sem_move ((Value.int .u32 (i1))) rfl ?_)
 obtain ⟨hi0, hS⟩ := hS
 refine Run.go rfl rfl rfl (sem_shr .u32 .u64 (i1) (8) rfl rfl hi0 ?_)
 refine Run.go rfl rfl rfl (sem_convI .u32 .u8 (Int.fdiv (i1) (2 ^ (min (Int.toNat (8)) (IntKind.bits .u32)))) rfl TF.int_185 TF.int_5 ?_)
 refine Run.go rfl rfl rfl (sem_move ((Value.int .u32 (i1))) rfl ?_)
 obtain ⟨hi0, hS⟩ := hS
 refine Run.go rfl rfl rfl (sem_shr .u32 .u64 (i1) (16) rfl rfl hi0 ?_)
 refine Run.go rfl rfl rfl (sem_convI .u32 .u8 (Int.fdiv (i1) (2 ^ (min (Int.toNat (16)) (IntKind.bits .u32)))) rfl TF.int_185 TF.int_5 ?_)
 refine Run.go rfl rfl rfl (sem_move ((Value.int .u32 (i1))) rfl ?_)
 obtain ⟨hi0, hS⟩ := hS
 refine Run.go rfl rfl rfl (sem_shr .u32 .u64 (i1) (24) rfl rfl hi0 ?_)
 refine Run.go rfl rfl rfl (sem_convI .u32 .u8 (Int.fdiv (i1) (2 ^ (min (Int.toNat (24)) (IntKind.bits .u32)))) rfl TF.int_185 TF.int_5 ?_)
 refine Run.go rfl rfl rfl (sem_buildSliceL [(0, (Value.int .u8 (IntKind.wrap .u8 (i1)))), (1, (Value.int .u8 (IntKind.wrap .u8 (Int.fdiv (i1) (2 ^ (min (Int.toNat (8)) (IntKind.bits .u32))))))), (2, (Value.int .u8 (IntKind.wrap .u8 (Int.fdiv (i1) (2 ^ (min (Int.toNat (16)) (IntKind.bits .u32))))))), (3, (Value.int .u8 (IntKind.wrap .u8 (Int.fdiv (i1) (2 ^ (min (Int.toNat (24)) (IntKind.bits .u32)))))))] [(Value.int .u8 (IntKind.wrap .u8 (i1))), (Value.int .u8 (IntKind.wrap .u8 (Int.fdiv (i1) (2 ^ (min (Int.toNat (8)) (IntKind.bits .u32)))))), (Value.int .u8 (IntKind.wrap .u8 (Int.fdiv (i1) (2 ^ (min (Int.toNat (16)) (IntKind.bits .u32)))))), (Value.int .u8 (IntKind.wrap .u8 (Int.fdiv (i1) (2 ^ (min (Int.toNat (24)) (IntKind.bits .u32))))))] TF.slc_144 TF.zero_5 rfl (by decide) (by decide) rfl rfl (fun k3 hb1 hb2 h4 hb3 => ?_))
 have hS := hS k3 hb1 hb2 h4 hb3
 refine Run.go rfl rfl rfl (sem_convW ((Value.slice (some ⟨k3, 0, none⟩) 4 4)) rfl (semH_mono (fun v h6 hv => ?_) hS))
 obtain ⟨s5, rfl, hS⟩ := hv
 refine Run.go rfl rfl rfl (sem_assign ((Value.string s5)) rfl ?_)
 refine Run.region_end ?_
 refine Run.ret ⟨.inr rfl, ?_⟩
 exact hS.imp fun h' hq => ⟨s5, rfl, hq⟩
set_option maxHeartbeats 4000000 in
theorem C_wafer_Sum.of {B : RO} {s1 : ByteArray} {h : Heap} {Q : Int → Heap → Prop} (hS : S_wafer_Sum B s1 h Q) : C_wafer_Sum B s1 h Q := by
 unfold S_wafer_Sum at hS
 unfold C_wafer_Sum
 refine Spec.of_run Try.func136 (N := 29) (rs := [ResultVar.tmp 2]) rfl rfl rfl (Nat.le_of_ble_eq_true rfl) ?_
 refine Run.seq ?_
 refine Run.ops0 (idx := [0]) rfl ?_
 refine Run.go rfl rfl rfl (sem_assign ((Value.int .u32 (0))) rfl ?_)
 refine Run.region_end ?_
 refine Run.seq ?_
 refine Run.ops0 (idx := [0]) rfl ?_
 refine Run.go rfl rfl rfl (sem_assign ((Value.int .u32 (4294967295))) rfl ?_)
 refine Run.region_end ?_
 refine Run.seq ?_
 refine Run.seq ?_
 refine Run.ops0 (idx := [0, 1, 2]) rfl ?_
 refine Run.go rfl rfl rfl (sem_move ((Value.string s1)) rfl ?_)
 refine Run.go rfl rfl rfl (sem_lenStr s1 rfl TF.isStr_9 ?_)
 refine Run.go rfl rfl rfl (sem_move ((Value.int .i64 (0))) rfl ?_)
 refine Run.region_end ?_
 refine Run.block ?_
 obtain ⟨J9, m7, h0, hS⟩ := hS
 refine Run.of_fin (h0.imp fun h' h0 => ?_)
 refine Run.loop (σ := Int × Int × Nat) (fun x e h => J9 x.1 x.2.1 x.2.2 h ∧ Agree [(0, (Value.string s1)), (3, (Value.int .u32 (x.1))), (6, (Value.int .i64 ((ByteArray.size s1 : Nat)))), (7, (Value.int .i64 (x.2.1)))] e) (fun x => x.2.2) ((4294967295), (0), m7) ⟨h0, ⟨rfl, rfl, rfl, rfl, trivial⟩⟩ ?_; clear h0
 rintro ⟨i3, i4, m6⟩ e h5 ⟨hJ, hag⟩ ih8
 have hS := hS i3 i4 m6 h5 hJ; clear hJ
 refine Run.env hag ?_; clear hag
 refine Run.seq ?_
 refine Run.ops0 (idx := [0]) rfl ?_
 obtain ⟨hT, hF⟩ := hS
 by_cases hb10 : (i4 : Int) < ((ByteArray.size s1 : Nat))
 ·have hS := hT hb10; clear hT hF
  refine Run.go rfl rfl rfl (sem_binI .i64 (i4) ((ByteArray.size s1 : Nat)) (.bool true) rfl rfl (binI_lss_t hb10) ?_)
  refine Run.region_end ?_
  refine Run.seq ?_
  refine Run.condT rfl ?_
  refine Run.skip ?_
  refine Run.seq ?_
  refine Run.block ?_
  refine Run.seq ?_
  refine Run.ops0 (idx := [0, 1]) rfl ?_
  refine Run.go rfl rfl rfl (sem_move ((Value.int .i64 (i4))) rfl ?_)
  refine Run.go rfl rfl rfl (sem_assign ((Value.int .i64 (i4))) rfl ?_)
  refine Run.region_end ?_
  refine Run.seq ?_
  refine Run.ops0 (idx := [0, 1, 2, 3, 4, 5, 6]) rfl ?_
  refine Run.go rfl rfl rfl (sem_move ((Value.int .u32 (i3))) rfl ?_)
  refine Run.go rfl rfl rfl (sem_move ((Value.string s1)) rfl ?_)
  refine Run.go rfl rfl rfl (sem_move ((Value.int .i64 (i4))) rfl ?_)
  obtain ⟨hi0, hi1, hS⟩ := hS
  refine Run.go rfl rfl rfl (sem_indexStr' s1 .i64 (i4) rfl rfl TF.isStr_9 hi0 hi1 ?_)
  refine Run.go rfl rfl rfl (sem_convI .u8 .u32 (byteAt s1 (Int.toNat (i4))) rfl TF.int_5 TF.int_185 ?_)
  refine Run.go rfl rfl rfl (sem_binI .u32 (i3) (IntKind.wrap .u32 (byteAt s1 (Int.toNat (i4)))) ((Value.int .u32 (IntKind.wrap .u32 ((BitVec.ofInt (IntKind.bits .u32) (i3) ^^^ BitVec.ofInt (IntKind.bits .u32) (IntKind.wrap .u32 (byteAt s1 (Int.toNat (i4))))).toNat : Int)))) rfl rfl rfl ?_)
  refine Run.go rfl rfl rfl (sem_assign ((Value.int .u32 (IntKind.wrap .u32 ((BitVec.ofInt (IntKind.bits .u32) (i3) ^^^ BitVec.ofInt (IntKind.bits .u32) (IntKind.wrap .u32 (byteAt s1 (Int.toNat (i4))))).toNat : Int)))) rfl ?_)
  refine Run.region_end ?_
  refine Run.seq ?_
  refine Run.ops0 (idx := [0]) rfl ?_
  refine Run.go rfl rfl rfl (sem_move ((Value.int .i64 (0))) rfl ?_)
  refine Run.region_end ?_
  refine Run.block ?_
  obtain ⟨J17, m15, h0, hS⟩ := hS
  refine Run.of_fin (h0.imp fun h' h0 => ?_)
  refine Run.loop (σ := Int × Int × Nat) (fun x e h => J17 x.1 x.2.1 x.2.2 h ∧ Agree [(0, (Value.string s1)), (3, (Value.int .u32 (x.1))), (6, (Value.int .i64 ((ByteArray.size s1 : Nat)))), (7, (Value.int .i64 (i4))), (16, (Value.int .i64 (x.2.1)))] e) (fun x => x.2.2) ((IntKind.wrap .u32 ((BitVec.ofInt (IntKind.bits .u32) (i3) ^^^ BitVec.ofInt (IntKind.bits .u32) (IntKind.wrap .u32 (byteAt s1 (Int.toNat (i4))))).toNat : Int)), (0), m15) ⟨h0, ⟨rfl, rfl, rfl, rfl, rfl, trivial⟩⟩ ?_; clear h0
  rintro ⟨i11, i12, m14⟩ e h13 ⟨hJ, hag⟩ ih16
  have hS := hS i11 i12 m14 h13 hJ; clear hJ
  refine Run.env hag ?_; clear hag
  refine Run.seq ?_
  refine Run.ops0 (idx := [0]) rfl ?_
  obtain ⟨hT, hF⟩ := hS
  by_cases hb18 : (i12 : Int) < (8)
  ·have hS := hT hb18; clear hT hF
   refine Run.go rfl rfl rfl (sem_binI .i64 (i12) (8) (.bool true) rfl rfl (binI_lss_t hb18) ?_)
   refine Run.region_end ?_
   refine Run.seq ?_
   refine Run.condT rfl ?_
   refine Run.skip ?_
   refine Run.seq ?_
   refine Run.block ?_
   refine Run.ops0 (idx := [0, 1, 2, 3, 4, 5, 6, 7]) rfl ?_
   refine Run.go rfl rfl rfl (sem_move ((Value.int .u32 (i11))) rfl ?_)
   obtain ⟨hi0, hS⟩ := hS
   refine Run.go rfl rfl rfl (sem_shr .u32 .u64 (i11) (1) rfl rfl hi0 ?_)
   refine Run.go rfl rfl rfl (sem_move ((Value.int .u32 (i11))) rfl ?_)
   refine Run.go rfl rfl rfl (sem_binI .u32 (i11) (1) ((Value.int .u32 (IntKind.wrap .u32 ((BitVec.ofInt (IntKind.bits .u32) (i11) &&& BitVec.ofInt (IntKind.bits .u32) (1)).toNat : Int)))) rfl rfl rfl ?_)
   refine Run.go rfl rfl rfl (sem_neg .u32 (IntKind.wrap .u32 ((BitVec.ofInt (IntKind.bits .u32) (i11) &&& BitVec.ofInt (IntKind.bits .u32) (1)).toNat : Int)) rfl ?_)
   refine Run.go rfl rfl rfl (sem_binI .u32 (2197175160) (IntKind.wrap .u32 (0 - (IntKind.wrap .u32 ((BitVec.ofInt (IntKind.bits .u32) (i11) &&& BitVec.ofInt (IntKind.bits .u32) (1)).toNat : Int)))) ((Value.int .u32 (IntKind.wrap .u32 ((BitVec.ofInt (IntKind.bits .u32) (2197175160) &&& BitVec.ofInt (IntKind.bits .u32) (IntKind.wrap .u32 (0 - (IntKind.wrap .u32 ((BitVec.ofInt (IntKind.bits .u32) (i11) &&& BitVec.ofInt (IntKind.bits .u32) (1)).toNat : Int))))).toNat : Int)))) rfl rfl rfl ?_)
   refine Run.go rfl rfl rfl (sem_binI .u32 (Int.fdiv (i11) (2 ^ (min (Int.toNat (1)) (IntKind.bits .u32)))) (IntKind.wrap .u32 ((BitVec.ofInt (IntKind.bits .u32) (2197175160) &&& BitVec.ofInt (IntKind.bits .u32) (IntKind.wrap .u32 (0 - (IntKind.wrap .u32 ((BitVec.ofInt (IntKind.bits .u32) (i11) &&& BitVec.ofInt (IntKind.bits .u32) (1)).toNat : Int))))).toNat : Int)) ((Value.int .u32 (IntKind.wrap .u32 ((BitVec.ofInt (IntKind.bits .u32) (Int.fdiv (i11) (2 ^ (min (Int.toNat (1)) (IntKind.bits .u32)))) ^^^ BitVec.ofInt (IntKind.bits .u32) (IntKind.wrap .u32 ((BitVec.ofInt (IntKind.bits .u32) (2197175160) &&& BitVec.ofInt (IntKind.bits .u32) (IntKind.wrap .u32 (0 - (IntKind.wrap .u32 ((BitVec.ofInt (IntKind.bits .u32) (i11) &&& BitVec.ofInt (IntKind.bits .u32) (1)).toNat : Int))))).toNat : Int))).toNat : Int)))) rfl rfl rfl ?_)
   refine Run.go rfl rfl rfl (sem_assign ((Value.int .u32 (IntKind.wrap .u32 ((BitVec.ofInt (IntKind.bits .u32) (Int.fdiv (i11) (2 ^ (min (Int.toNat (1)) (IntKind.bits .u32)))) ^^^ BitVec.ofInt (IntKind.bits .u32) (IntKind.wrap .u32 ((BitVec.ofInt (IntKind.bits .u32) (2197175160) &&& BitVec.ofInt (IntKind.bits .u32) (IntKind.wrap .u32 (0 - (IntKind.wrap .u32 ((BitVec.ofInt (IntKind.bits .u32) (i11) &&& BitVec.ofInt (IntKind.bits .u32) (1)).toNat : Int))))).toNat : Int))).toNat : Int)))) rfl ?_)
   refine Run.region_end ?_
   refine Run.inBlock ?_
   refine Run.ops0 (idx := [0, 1]) rfl ?_
   refine Run.go rfl rfl rfl (sem_binI .i64 (i12) (1) ((Value.int .i64 (IntKind.wrap .i64 ((i12) + (1))))) rfl rfl rfl ?_)
   refine Run.go rfl rfl rfl (sem_move ((Value.int .i64 (IntKind.wrap .i64 ((i12) + (1))))) rfl ?_)
   refine Run.region_end ?_
   exact Run.of_fin (hS.imp fun h' ⟨m', hm, hS⟩ => ih16 ((IntKind.wrap .u32 ((BitVec.ofInt (IntKind.bits .u32) (Int.fdiv (i11) (2 ^ (min (Int.toNat (1)) (IntKind.bits .u32)))) ^^^ BitVec.ofInt (IntKind.bits .u32) (IntKind.wrap .u32 ((BitVec.ofInt (IntKind.bits .u32) (2197175160) &&& BitVec.ofInt (IntKind.bits .u32) (IntKind.wrap .u32 (0 - (IntKind.wrap .u32 ((BitVec.ofInt (IntKind.bits .u32) (i11) &&& BitVec.ofInt (IntKind.bits .u32) (1)).toNat : Int))))).toNat : Int))).toNat : Int)), (IntKind.wrap .i64 ((i12) + (1))), m') _ _ ⟨hS, ⟨rfl, rfl, rfl, rfl, rfl, trivial⟩⟩ hm)
  ·have hS := hF hb18; clear hT hF
   refine Run.go rfl rfl rfl (sem_binI .i64 (i12) (8) (.bool false) rfl rfl (binI_lss_f hb18) ?_)
   refine Run.region_end ?_
   refine Run.seq ?_
   refine Run.condF rfl ?_
   refine Run.exit rfl ?_
   refine Run.inBlock ?_
   refine Run.ops0 (idx := [0, 1]) rfl ?_
   refine Run.go rfl rfl rfl (sem_binI .i64 (i4) (1) ((Value.int .i64 (IntKind.wrap .i64 ((i4) + (1))))) rfl rfl rfl ?_)
   refine Run.go rfl rfl rfl (sem_move ((Value.int .i64 (IntKind.wrap .i64 ((i4) + (1))))) rfl ?_)
   refine Run.region_end ?_
   exact Run.of_fin (hS.imp fun h' ⟨m', hm, hS⟩ => ih8 ((i11), (IntKind.wrap .i64 ((i4) + (1))), m') _ _ ⟨hS, ⟨rfl, rfl, rfl, rfl, trivial⟩⟩ hm)
 ·have hS := hF hb10; clear hT hF
  refine Run.go rfl rfl rfl (sem_binI .i64 (i4) ((ByteArray.size s1 : Nat)) (.bool false) rfl rfl (binI_lss_f hb10) ?_)
  refine Run.region_end ?_
  refine Run.seq ?_
  refine Run.condF rfl ?_
  refine Run.exit rfl ?_
  refine Run.seq ?_
  refine Run.ops0 (idx := [0, 1, 2]) rfl ?_
  refine Run.go rfl rfl rfl (sem_move ((Value.int .u32 (i3))) rfl ?_)
  refine Run.go rfl rfl rfl (sem_xorU .u32 (i3) rfl (.int .u32 (IntKind.wrap .u32 (((BitVec.ofInt (IntKind.bits .u32) (if IntKind.signed .u32 then (-1 : Int) else IntKind.max .u32) ^^^ BitVec.ofInt (IntKind.bits .u32) (i3)).toNat : Int)))) ⟨rfl, rfl⟩ ?_)
  refine Run.go rfl rfl rfl (sem_assign ((Value.int .u32 (IntKind.wrap .u32 (((BitVec.ofInt (IntKind.bits .u32) (if IntKind.signed .u32 then (-1 : Int) else IntKind.max .u32) ^^^ BitVec.ofInt (IntKind.bits .u32) (i3)).toNat : Int))))) rfl ?_)
  refine Run.region_end ?_
  refine Run.ret ⟨.inr rfl, ?_⟩
  exact hS.imp fun h' hq => ⟨(IntKind.wrap .u32 (((BitVec.ofInt (IntKind.bits .u32) (if IntKind.signed .u32 then (-1 : Int) else IntKind.max .u32) ^^^ BitVec.ofInt (IntKind.bits .u32) (i3)).toNat : Int))), rfl, hq⟩
set_option maxHeartbeats 4000000 in
theorem C_countermandref02_Open.of {B : RO} {s1 : ByteArray} {h : Heap} {Q : ByteArray → Int → Heap → Prop} (hS : S_countermandref02_Open B s1 h Q) : C_countermandref02_Open B s1 h Q := by
 unfold S_countermandref02_Open at hS
 unfold C_countermandref02_Open
 refine Spec.of_run Try.func137 (N := 40) (rs := [ResultVar.tmp 2, ResultVar.tmp 3]) rfl rfl rfl (Nat.le_of_ble_eq_true rfl) ?_
 refine Run.seq ?_
 refine Run.ops0 (idx := [0, 1]) rfl ?_
 refine Run.go rfl rfl rfl (sem_assign ((Value.string (ByteArray.mk #[]))) rfl ?_)
 refine Run.go rfl rfl rfl (sem_assign ((Value.int .i64 (0))) rfl ?_)
 refine Run.region_end ?_
 refine Run.seq ?_
 refine Run.seq ?_
 refine Run.ops0 (idx := [0, 1, 2]) rfl ?_
 refine Run.go rfl rfl rfl (sem_move ((Value.string s1)) rfl ?_)
 refine Run.go rfl rfl rfl (sem_lenStr s1 rfl TF.isStr_9 ?_)
 obtain ⟨hT, hF⟩ := hS
 by_cases hb4 : ((ByteArray.size s1 : Nat) : Int) < (6)
 ·have hS := hT hb4; clear hT hF
  refine Run.go rfl rfl rfl (sem_binI .i64 ((ByteArray.size s1 : Nat)) (6) (.bool true) rfl rfl (binI_lss_t hb4) ?_)
  refine Run.region_end ?_
  refine Run.condT rfl ?_
  refine Run.seq ?_
  refine Run.ops0 (idx := [0, 1]) rfl ?_
  refine Run.go rfl rfl rfl (sem_assign ((Value.string (ByteArray.mk #[]))) rfl ?_)
  refine Run.go rfl rfl rfl (sem_assign ((Value.int .i64 (0))) rfl ?_)
  refine Run.region_end ?_
  refine Run.ret ⟨.inr rfl, ?_⟩
  exact hS.imp fun h' hq => ⟨(ByteArray.mk #[]), (0), rfl, hq⟩
 ·have hS := hF hb4; clear hT hF
  refine Run.go rfl rfl rfl (sem_binI .i64 ((ByteArray.size s1 : Nat)) (6) (.bool false) rfl rfl (binI_lss_f hb4) ?_)
  refine Run.region_end ?_
  refine Run.condF rfl ?_
  refine Run.skip ?_
  refine Run.seq ?_
  refine Run.drawM (fun h' => h' = h) [] ⟨[0, 1, 2, 4, 0, 16, 32, 72, 255], [511, 510, 509, 507, 511, 495, 479, 439, 383], [0, 0, 0, 0, 0, 0, 0, 0, 0], 0⟩ (.q 0 (.q 1 (.q 2 (.q 3 (.q 4 (.q 5 (.q 6 (.q 7 (.q 8 .nil))))))))) TF.mixed (by kernel_rfl) rfl ?_
  refine RunT.quiet rfl rfl rfl (quiet_eq (sem_move ((Value.string s1)) rfl ⟨rfl, rfl⟩)) ?_
  obtain ⟨hi0, hi1, hS⟩ := hS
  refine RunT.quiet rfl rfl rfl (quiet_eq (sem_indexStr' s1 .i64 (0) rfl rfl TF.isStr_9 hi0 hi1 ⟨rfl, rfl⟩)) ?_
  refine RunT.quiet rfl rfl rfl (quiet_eq (sem_convI .u8 .i64 (byteAt s1 (Int.toNat (0))) rfl TF.int_5 TF.int_3 ⟨rfl, rfl⟩)) ?_
  refine RunT.quiet rfl rfl rfl (quiet_eq (sem_binI .i64 (256) (IntKind.wrap .i64 (byteAt s1 (Int.toNat (0)))) ((Value.int .i64 (IntKind.wrap .i64 ((256) * (IntKind.wrap .i64 (byteAt s1 (Int.toNat (0)))))))) rfl rfl rfl ⟨rfl, rfl⟩)) ?_
  refine RunT.quiet rfl rfl rfl (quiet_eq (sem_move ((Value.string s1)) rfl ⟨rfl, rfl⟩)) ?_
  obtain ⟨hi0, hi1, hS⟩ := hS
  refine RunT.quiet rfl rfl rfl (quiet_eq (sem_indexStr' s1 .i64 (1) rfl rfl TF.isStr_9 hi0 hi1 ⟨rfl, rfl⟩)) ?_
  refine RunT.quiet rfl rfl rfl (quiet_eq (sem_convI .u8 .i64 (byteAt s1 (Int.toNat (1))) rfl TF.int_5 TF.int_3 ⟨rfl, rfl⟩)) ?_
  refine RunT.quiet rfl rfl rfl (quiet_eq (sem_binI .i64 (IntKind.wrap .i64 ((256) * (IntKind.wrap .i64 (byteAt s1 (Int.toNat (0)))))) (IntKind.wrap .i64 (byteAt s1 (Int.toNat (1)))) ((Value.int .i64 (IntKind.wrap .i64 ((IntKind.wrap .i64 ((256) * (IntKind.wrap .i64 (byteAt s1 (Int.toNat (0)))))) + (IntKind.wrap .i64 (byteAt s1 (Int.toNat (1)))))))) rfl rfl rfl ⟨rfl, rfl⟩)) ?_
  refine RunT.quiet rfl rfl rfl (quiet_eq (sem_assign ((Value.int .i64 (IntKind.wrap .i64 ((IntKind.wrap .i64 ((256) * (IntKind.wrap .i64 (byteAt s1 (Int.toNat (0)))))) + (IntKind.wrap .i64 (byteAt s1 (Int.toNat (1)))))))) rfl ⟨rfl, rfl⟩)) ?_
  refine Run.seqJ (fun e h6 => Agree [(0, (Value.string s1)), (4, (Value.int .i64 (IntKind.wrap .i64 ((IntKind.wrap .i64 ((256) * (IntKind.wrap .i64 (byteAt s1 (Int.toNat (0)))))) + (IntKind.wrap .i64 (byteAt s1 (Int.toNat (1))))))))] e ∧ S_countermandref02_Open_J1 B s1 h6 Q) ?_ fun j5 => ?_
  ·rintro e h6 ⟨hag, hS⟩
   refine Run.env hag ?_; clear hag
   refine Run.seq ?_
   refine Run.ops0 (idx := [0, 1, 2, 3, 4]) rfl ?_
   refine Run.go rfl rfl rfl (sem_move ((Value.string s1)) rfl ?_)
   refine Run.go rfl rfl rfl (sem_move ((Value.int .i64 (IntKind.wrap .i64 ((IntKind.wrap .i64 ((256) * (IntKind.wrap .i64 (byteAt s1 (Int.toNat (0)))))) + (IntKind.wrap .i64 (byteAt s1 (Int.toNat (1)))))))) rfl ?_)
   refine Run.go rfl rfl rfl (sem_binI .i64 (2) (IntKind.wrap .i64 ((IntKind.wrap .i64 ((256) * (IntKind.wrap .i64 (byteAt s1 (Int.toNat (0)))))) + (IntKind.wrap .i64 (byteAt s1 (Int.toNat (1)))))) ((Value.int .i64 (IntKind.wrap .i64 ((2) + (IntKind.wrap .i64 ((IntKind.wrap .i64 ((256) * (IntKind.wrap .i64 (byteAt s1 (Int.toNat (0)))))) + (IntKind.wrap .i64 (byteAt s1 (Int.toNat (1)))))))))) rfl rfl rfl ?_)
   obtain ⟨hi0, hi1, hi2, hS⟩ := hS
   refine Run.go rfl rfl rfl (sem_sliceStrI s1 (2) (IntKind.wrap .i64 ((2) + (IntKind.wrap .i64 ((IntKind.wrap .i64 ((256) * (IntKind.wrap .i64 (byteAt s1 (Int.toNat (0)))))) + (IntKind.wrap .i64 (byteAt s1 (Int.toNat (1)))))))) rfl TF.isStr_9 ⟨_, rfl⟩ ⟨_, rfl⟩ hi0 hi1 hi2 ?_)
   refine Run.go rfl rfl rfl (sem_assign ((Value.string (ByteArray.extract s1 (Int.toNat (2)) (Int.toNat (IntKind.wrap .i64 ((2) + (IntKind.wrap .i64 ((IntKind.wrap .i64 ((256) * (IntKind.wrap .i64 (byteAt s1 (Int.toNat (0)))))) + (IntKind.wrap .i64 (byteAt s1 (Int.toNat (1)))))))))))) rfl ?_)
   refine Run.region_end ?_
   refine Run.seq ?_
   refine Run.seq ?_
   skip
   skip
   skip
   skip
   obtain ⟨hi0, hi1, hi2, hS⟩ := hS
   have f12 := hi0; have f13 := hi1; have f14 := hi2
   refine Run.drawM (fun h' => True) [] ⟨[0, 1, 0, 0, 8, 20, 34], [127, 126, 127, 127, 119, 107, 93], [0, 0, 0, 0, 0, 0, 0], 0⟩ (.q 0 (.q 2 (.q 3 (.q 4 (.q 5 (.x 1 (.q 6 .nil) .no)))))) TF.mixed (by kernel_rfl) trivial ?_
   refine RunT.quiet rfl rfl rfl (fun h' hC => sem_move ((Value.string (ByteArray.extract s1 (Int.toNat (2)) (Int.toNat (IntKind.wrap .i64 ((2) + (IntKind.wrap .i64 ((IntKind.wrap .i64 ((256) * (IntKind.wrap .i64 (byteAt s1 (Int.toNat (0)))))) + (IntKind.wrap .i64 (byteAt s1 (Int.toNat (1)))))))))))) rfl ⟨rfl, rfl⟩) ?_
   refine RunT.quiet rfl rfl rfl (fun h' hC => sem_move ((Value.string s1)) rfl ⟨rfl, rfl⟩) ?_
   refine RunT.quiet rfl rfl rfl (fun h' hC => sem_move ((Value.int .i64 (IntKind.wrap .i64 ((IntKind.wrap .i64 ((256) * (IntKind.wrap .i64 (byteAt s1 (Int.toNat (0)))))) + (IntKind.wrap .i64 (byteAt s1 (Int.toNat (1)))))))) rfl ⟨rfl, rfl⟩) ?_
   refine RunT.quiet rfl rfl rfl (fun h' hC => sem_binI .i64 (6) (IntKind.wrap .i64 ((IntKind.wrap .i64 ((256) * (IntKind.wrap .i64 (byteAt s1 (Int.toNat (0)))))) + (IntKind.wrap .i64 (byteAt s1 (Int.toNat (1)))))) ((Value.int .i64 (IntKind.wrap .i64 ((6) + (IntKind.wrap .i64 ((IntKind.wrap .i64 ((256) * (IntKind.wrap .i64 (byteAt s1 (Int.toNat (0)))))) + (IntKind.wrap .i64 (byteAt s1 (Int.toNat (1)))))))))) rfl rfl rfl ⟨rfl, rfl⟩) ?_
   refine RunT.quiet rfl rfl rfl (fun h' hC => sem_sliceStrI s1 (0) (IntKind.wrap .i64 ((6) + (IntKind.wrap .i64 ((IntKind.wrap .i64 ((256) * (IntKind.wrap .i64 (byteAt s1 (Int.toNat (0)))))) + (IntKind.wrap .i64 (byteAt s1 (Int.toNat (1)))))))) rfl TF.isStr_9 rfl ⟨_, rfl⟩ f12 f13 f14 ⟨rfl, rfl⟩) ?_
   refine ⟨?_, trivial⟩
   refine OpH.go rfl rfl rfl (sem_callL [(Value.string (ByteArray.extract s1 (Int.toNat (2)) (Int.toNat (IntKind.wrap .i64 ((2) + (IntKind.wrap .i64 ((IntKind.wrap .i64 ((256) * (IntKind.wrap .i64 (byteAt s1 (Int.toNat (0)))))) + (IntKind.wrap .i64 (byteAt s1 (Int.toNat (1)))))))))))] (TF.goes_79) rfl rfl (Spec.mono hS fun v h15 hv => ?_))
   obtain ⟨s16, rfl, hS⟩ := hv
   refine ⟨fun _ => trivial, ?_⟩
   obtain ⟨hT, hF⟩ := hS
   by_cases hb17 : s16 = (ByteArray.extract s1 (Int.toNat (0)) (Int.toNat (IntKind.wrap .i64 ((6) + (IntKind.wrap .i64 ((IntKind.wrap .i64 ((256) * (IntKind.wrap .i64 (byteAt s1 (Int.toNat (0)))))) + (IntKind.wrap .i64 (byteAt s1 (Int.toNat (1))))))))))
   ·have hS := hT hb17; clear hT hF
    refine RunT.quiet rfl rfl rfl (fun h' hC => sem_strNeT s16 (ByteArray.extract s1 (Int.toNat (0)) (Int.toNat (IntKind.wrap .i64 ((6) + (IntKind.wrap .i64 ((IntKind.wrap .i64 ((256) * (IntKind.wrap .i64 (byteAt s1 (Int.toNat (0)))))) + (IntKind.wrap .i64 (byteAt s1 (Int.toNat (1)))))))))) rfl rfl hb17 ⟨rfl, rfl⟩) ?_
    refine Run.condF rfl ?_
    refine Run.skip ?_
    refine Run.seq ?_
    refine Run.ops0 (idx := [0, 1, 2, 3, 4]) rfl ?_
    refine Run.go rfl rfl rfl (sem_move ((Value.string (ByteArray.extract s1 (Int.toNat (2)) (Int.toNat (IntKind.wrap .i64 ((2) + (IntKind.wrap .i64 ((IntKind.wrap .i64 ((256) * (IntKind.wrap .i64 (byteAt s1 (Int.toNat (0)))))) + (IntKind.wrap .i64 (byteAt s1 (Int.toNat (1)))))))))))) rfl ?_)
    refine Run.go rfl rfl rfl (sem_move ((Value.int .i64 (IntKind.wrap .i64 ((IntKind.wrap .i64 ((256) * (IntKind.wrap .i64 (byteAt s1 (Int.toNat (0)))))) + (IntKind.wrap .i64 (byteAt s1 (Int.toNat (1)))))))) rfl ?_)
    refine Run.go rfl rfl rfl (sem_binI .i64 (6) (IntKind.wrap .i64 ((IntKind.wrap .i64 ((256) * (IntKind.wrap .i64 (byteAt s1 (Int.toNat (0)))))) + (IntKind.wrap .i64 (byteAt s1 (Int.toNat (1)))))) ((Value.int .i64 (IntKind.wrap .i64 ((6) + (IntKind.wrap .i64 ((IntKind.wrap .i64 ((256) * (IntKind.wrap .i64 (byteAt s1 (Int.toNat (0)))))) + (IntKind.wrap .i64 (byteAt s1 (Int.toNat (1)))))))))) rfl rfl rfl ?_)
    refine Run.go rfl rfl rfl (sem_assign ((Value.string (ByteArray.extract s1 (Int.toNat (2)) (Int.toNat (IntKind.wrap .i64 ((2) + (IntKind.wrap .i64 ((IntKind.wrap .i64 ((256) * (IntKind.wrap .i64 (byteAt s1 (Int.toNat (0)))))) + (IntKind.wrap .i64 (byteAt s1 (Int.toNat (1)))))))))))) rfl ?_)
    refine Run.go rfl rfl rfl (sem_assign ((Value.int .i64 (IntKind.wrap .i64 ((6) + (IntKind.wrap .i64 ((IntKind.wrap .i64 ((256) * (IntKind.wrap .i64 (byteAt s1 (Int.toNat (0)))))) + (IntKind.wrap .i64 (byteAt s1 (Int.toNat (1)))))))))) rfl ?_)
    refine Run.region_end ?_
    refine Run.ret ⟨.inr rfl, ?_⟩
    exact hS.imp fun h' hq => ⟨(ByteArray.extract s1 (Int.toNat (2)) (Int.toNat (IntKind.wrap .i64 ((2) + (IntKind.wrap .i64 ((IntKind.wrap .i64 ((256) * (IntKind.wrap .i64 (byteAt s1 (Int.toNat (0)))))) + (IntKind.wrap .i64 (byteAt s1 (Int.toNat (1)))))))))), (IntKind.wrap .i64 ((6) + (IntKind.wrap .i64 ((IntKind.wrap .i64 ((256) * (IntKind.wrap .i64 (byteAt s1 (Int.toNat (0)))))) + (IntKind.wrap .i64 (byteAt s1 (Int.toNat (1)))))))), rfl, hq⟩
   ·have hS := hF hb17; clear hT hF
    refine RunT.quiet rfl rfl rfl (fun h' hC => sem_strNeF s16 (ByteArray.extract s1 (Int.toNat (0)) (Int.toNat (IntKind.wrap .i64 ((6) + (IntKind.wrap .i64 ((IntKind.wrap .i64 ((256) * (IntKind.wrap .i64 (byteAt s1 (Int.toNat (0)))))) + (IntKind.wrap .i64 (byteAt s1 (Int.toNat (1)))))))))) rfl rfl hb17 ⟨rfl, rfl⟩) ?_
    refine Run.condT rfl ?_
    refine Run.seq ?_
    refine Run.ops0 (idx := [0, 1]) rfl ?_
    refine Run.go rfl rfl rfl (sem_assign ((Value.string (ByteArray.mk #[]))) rfl ?_)
    refine Run.go rfl rfl rfl (sem_assign ((Value.int .i64 (0))) rfl ?_)
    refine Run.region_end ?_
    refine Run.ret ⟨.inr rfl, ?_⟩
    exact hS.imp fun h' hq => ⟨(ByteArray.mk #[]), (0), rfl, hq⟩
  refine Run.seq ?_
  refine Run.ops0 (idx := [0, 1, 2, 3, 4, 5, 6, 7, 8]) rfl ?_
  refine Run.go rfl rfl rfl (sem_move ((Value.int .i64 (IntKind.wrap .i64 ((IntKind.wrap .i64 ((256) * (IntKind.wrap .i64 (byteAt s1 (Int.toNat (0)))))) + (IntKind.wrap .i64 (byteAt s1 (Int.toNat (1)))))))) rfl ?_)
  obtain ⟨hT, hF⟩ := hS
  by_cases hb18 : (IntKind.wrap .i64 ((IntKind.wrap .i64 ((256) * (IntKind.wrap .i64 (byteAt s1 (Int.toNat (0)))))) + (IntKind.wrap .i64 (byteAt s1 (Int.toNat (1))))) : Int) > (1024)
  ·have hS := hT hb18; clear hT hF
   refine Run.go rfl rfl rfl (sem_binI .i64 (IntKind.wrap .i64 ((IntKind.wrap .i64 ((256) * (IntKind.wrap .i64 (byteAt s1 (Int.toNat (0)))))) + (IntKind.wrap .i64 (byteAt s1 (Int.toNat (1)))))) (1024) (.bool true) rfl rfl (binI_gtr_t hb18) ?_)
   refine Run.go rfl rfl rfl (sem_move ((Value.bool true)) rfl ?_)
   refine Run.no rfl rfl rfl ?_
   refine Run.no rfl rfl rfl ?_
   refine Run.no rfl rfl rfl ?_
   refine Run.no rfl rfl rfl ?_
   refine Run.no rfl rfl rfl ?_
   refine Run.go rfl rfl rfl (sem_pick true ((Value.bool true)) rfl rfl ?_)
   refine Run.region_end ?_
   refine Run.condT rfl ?_
   refine Run.seq ?_
   refine Run.ops0 (idx := [0, 1]) rfl ?_
   refine Run.go rfl rfl rfl (sem_assign ((Value.string (ByteArray.mk #[]))) rfl ?_)
   refine Run.go rfl rfl rfl (sem_assign ((Value.int .i64 (0))) rfl ?_)
   refine Run.region_end ?_
   refine Run.ret ⟨.inr rfl, ?_⟩
   exact hS.imp fun h' hq => ⟨(ByteArray.mk #[]), (0), rfl, hq⟩
  ·have hS := hF hb18; clear hT hF
   refine Run.go rfl rfl rfl (sem_binI .i64 (IntKind.wrap .i64 ((IntKind.wrap .i64 ((256) * (IntKind.wrap .i64 (byteAt s1 (Int.toNat (0)))))) + (IntKind.wrap .i64 (byteAt s1 (Int.toNat (1)))))) (1024) (.bool false) rfl rfl (binI_gtr_f hb18) ?_)
   refine Run.go rfl rfl rfl (sem_move ((Value.bool false)) rfl ?_)
   refine Run.go rfl rfl rfl (sem_move ((Value.string s1)) rfl ?_)
   refine Run.go rfl rfl rfl (sem_lenStr s1 rfl TF.isStr_9 ?_)
   refine Run.go rfl rfl rfl (sem_move ((Value.int .i64 (IntKind.wrap .i64 ((IntKind.wrap .i64 ((256) * (IntKind.wrap .i64 (byteAt s1 (Int.toNat (0)))))) + (IntKind.wrap .i64 (byteAt s1 (Int.toNat (1)))))))) rfl ?_)
   refine Run.go rfl rfl rfl (sem_binI .i64 (6) (IntKind.wrap .i64 ((IntKind.wrap .i64 ((256) * (IntKind.wrap .i64 (byteAt s1 (Int.toNat (0)))))) + (IntKind.wrap .i64 (byteAt s1 (Int.toNat (1)))))) ((Value.int .i64 (IntKind.wrap .i64 ((6) + (IntKind.wrap .i64 ((IntKind.wrap .i64 ((256) * (IntKind.wrap .i64 (byteAt s1 (Int.toNat (0)))))) + (IntKind.wrap .i64 (byteAt s1 (Int.toNat (1)))))))))) rfl rfl rfl ?_)
   obtain ⟨hT, hF⟩ := hS
   by_cases hb19 : ((ByteArray.size s1 : Nat) : Int) < (IntKind.wrap .i64 ((6) + (IntKind.wrap .i64 ((IntKind.wrap .i64 ((256) * (IntKind.wrap .i64 (byteAt s1 (Int.toNat (0)))))) + (IntKind.wrap .i64 (byteAt s1 (Int.toNat (1))))))))
   ·have hS := hT hb19; clear hT hF
    refine Run.go rfl rfl rfl (sem_binI .i64 ((ByteArray.size s1 : Nat)) (IntKind.wrap .i64 ((6) + (IntKind.wrap .i64 ((IntKind.wrap .i64 ((256) * (IntKind.wrap .i64 (byteAt s1 (Int.toNat (0)))))) + (IntKind.wrap .i64 (byteAt s1 (Int.toNat (1)))))))) (.bool true) rfl rfl (binI_lss_t hb19) ?_)
    refine Run.go rfl rfl rfl (sem_pick false ((Value.bool true)) rfl rfl ?_)
    refine Run.region_end ?_
    refine Run.condT rfl ?_
    refine Run.seq ?_
    refine Run.ops0 (idx := [0, 1]) rfl ?_
    refine Run.go rfl rfl rfl (sem_assign ((Value.string (ByteArray.mk #[]))) rfl ?_)
    refine Run.go rfl rfl rfl (sem_assign ((Value.int .i64 (0))) rfl ?_)
    refine Run.region_end ?_
    refine Run.ret ⟨.inr rfl, ?_⟩
    exact hS.imp fun h' hq => ⟨(ByteArray.mk #[]), (0), rfl, hq⟩
   ·have hS := hF hb19; clear hT hF
    refine Run.go rfl rfl rfl (sem_binI .i64 ((ByteArray.size s1 : Nat)) (IntKind.wrap .i64 ((6) + (IntKind.wrap .i64 ((IntKind.wrap .i64 ((256) * (IntKind.wrap .i64 (byteAt s1 (Int.toNat (0)))))) + (IntKind.wrap .i64 (byteAt s1 (Int.toNat (1)))))))) (.bool false) rfl rfl (binI_lss_f hb19) ?_)
    refine Run.go rfl rfl rfl (sem_pick false ((Value.bool false)) rfl rfl ?_)
    refine Run.region_end ?_
    refine Run.condF rfl ?_
    refine Run.skip ?_
    exact Run.of_fin (hS.imp fun h' hS => j5 _ _ ⟨⟨rfl, rfl, trivial⟩, hS⟩)
set_option maxHeartbeats 4000000 in
theorem C_wafer_All_1.of {B : RO} {v1 : Value} {A2 : Addr} {h : Heap} {Q : Heap → Prop} (hS : S_wafer_All_1 B v1 A2 h Q) : C_wafer_All_1 B v1 A2 h Q := by
 unfold S_wafer_All_1 at hS
 unfold C_wafer_All_1
 refine Spec.of_run Try.func149 (N := 23) (rs := []) rfl rfl rfl (Nat.le_of_ble_eq_true rfl) ?_
 refine Run.seq ?_
 refine Run.ops0 (idx := [0, 1]) rfl ?_
 obtain ⟨s3, hl, hS⟩ := hS
 refine Run.go rfl rfl rfl (sem_load1 A2 ((Value.string s3)) rfl TF.agg_9 hl ?_)
 refine Run.go rfl rfl rfl (sem_assign ((Value.string s3)) rfl ?_)
 refine Run.region_end ?_
 refine Run.block ?_
 obtain ⟨J9, m7, h0, hS⟩ := hS
 refine Run.of_fin (h0.imp fun h' h0 => ?_)
 refine Run.loop (σ := ByteArray × Nat) (fun x e h => J9 x.1 x.2 h ∧ Agree [(0, v1), (3, (Value.string x.1))] e) (fun x => x.2) (s3, m7) ⟨h0, ⟨rfl, rfl, trivial⟩⟩ ?_; clear h0
 rintro ⟨s4, m6⟩ e h5 ⟨hJ, hag⟩ ih8
 have hS := hS s4 m6 h5 hJ; clear hJ
 refine Run.env hag ?_; clear hag
 refine Run.block ?_
 refine Run.seq ?_
 refine Run.ops0 (idx := [0, 1, 2, 3, 4, 5, 6]) rfl ?_
 refine Run.go rfl rfl rfl (sem_move ((Value.string s4)) rfl ?_)
 refine Run.go rfl rfl rfl (sem_callL [(Value.string s4)] (TF.goes_150) rfl rfl (Spec.mono hS fun v h10 hv => ?_))
 obtain ⟨s11, i12, rfl, hS⟩ := hv
 refine Run.go rfl rfl rfl (sem_move ((Value.tuple #[(Value.string s11), (Value.int .i64 (i12))])) rfl ?_)
 refine Run.go rfl rfl rfl (sem_extract #[(Value.string s11), (Value.int .i64 (i12))] ((Value.string s11)) rfl rfl ?_)
 refine Run.go rfl rfl rfl (sem_extract #[(Value.string s11), (Value.int .i64 (i12))] ((Value.int .i64 (i12))) rfl rfl ?_)
 refine Run.go rfl rfl rfl (sem_assign ((Value.string s11)) rfl ?_)
 refine Run.go rfl rfl rfl (sem_assign ((Value.int .i64 (i12))) rfl ?_)
 refine Run.region_end ?_
 refine Run.seq ?_
 refine Run.seq ?_
 refine Run.ops0 (idx := [0, 1, 2, 3, 4, 5, 6, 7]) rfl ?_
 refine Run.go rfl rfl rfl (sem_move ((Value.int .i64 (i12))) rfl ?_)
 obtain ⟨hT, hF⟩ := hS
 by_cases hb13 : (i12 : Int) = 0
 ·have hS := hT hb13; clear hT hF
  refine Run.go rfl rfl rfl (sem_binI .i64 (i12) (0) (.bool true) rfl rfl (binI_eql_t hb13) ?_)
  refine Run.go rfl rfl rfl (sem_move ((Value.bool true)) rfl ?_)
  refine Run.no rfl rfl rfl ?_
  refine Run.no rfl rfl rfl ?_
  refine Run.no rfl rfl rfl ?_
  refine Run.no rfl rfl rfl ?_
  refine Run.go rfl rfl rfl (sem_pick true ((Value.bool true)) rfl rfl ?_)
  refine Run.region_end ?_
  refine Run.condT rfl ?_
  refine Run.ret ⟨.inr rfl, ?_⟩
  exact hS.imp fun h' hq => ⟨rfl, hq⟩
 ·have hS := hF hb13; clear hT hF
  refine Run.go rfl rfl rfl (sem_binI .i64 (i12) (0) (.bool false) rfl rfl (binI_eql_f hb13) ?_)
  refine Run.go rfl rfl rfl (sem_move ((Value.bool false)) rfl ?_)
  refine Run.go rfl rfl rfl (sem_move (v1) rfl ?_)
  refine Run.go rfl rfl rfl (sem_move ((Value.string s11)) rfl ?_)
  refine Run.go rfl rfl rfl (sem_callV (v1) [(Value.string s11)] rfl rfl hS (fun nx h' ha => ha.mono fun v h14 hv => ?_))
  obtain ⟨b15, rfl, hS⟩ := hv
  obtain ⟨hT, hF⟩ := hS
  cases b15
  ·have hS := hF rfl; clear hT hF
   refine Run.go rfl rfl rfl (sem_not false rfl ?_)
   refine Run.go rfl rfl rfl (sem_pick false ((Value.bool true)) rfl rfl ?_)
   refine Run.region_end ?_
   refine Run.condT rfl ?_
   refine Run.ret ⟨.inr rfl, ?_⟩
   exact hS.imp fun h' hq => ⟨rfl, hq⟩
  ·have hS := hT rfl; clear hT hF
   refine Run.go rfl rfl rfl (sem_not true rfl ?_)
   refine Run.go rfl rfl rfl (sem_pick false ((Value.bool false)) rfl rfl ?_)
   refine Run.region_end ?_
   refine Run.condF rfl ?_
   refine Run.skip ?_
   refine Run.ops0 (idx := [0, 1, 2, 3]) rfl ?_
   refine Run.go rfl rfl rfl (sem_move ((Value.string s4)) rfl ?_)
   refine Run.go rfl rfl rfl (sem_move ((Value.int .i64 (i12))) rfl ?_)
   obtain ⟨hi0, hi1, hi2, hS⟩ := hS
   refine Run.go rfl rfl rfl (sem_sliceStrI s4 (i12) ((ByteArray.size s4 : Nat)) rfl TF.isStr_9 ⟨_, rfl⟩ rfl hi0 hi1 hi2 ?_)
   refine Run.go rfl rfl rfl (sem_assign ((Value.string (ByteArray.extract s4 (Int.toNat (i12)) (Int.toNat ((ByteArray.size s4 : Nat)))))) rfl ?_)
   refine Run.region_end ?_
   refine Run.inBlock ?_
   exact Run.of_fin (hS.imp fun h' ⟨m', hm, hS⟩ => ih8 ((ByteArray.extract s4 (Int.toNat (i12)) (Int.toNat ((ByteArray.size s4 : Nat)))), m') _ _ ⟨hS, ⟨rfl, rfl, trivial⟩⟩ hm)
set_option maxHeartbeats 4000000 in
theorem C_wafer_Open.of {B : RO} {s1 : ByteArray} {h : Heap} {Q : ByteArray → Int → Heap → Prop} (hS : S_wafer_Open B s1 h Q) : C_wafer_Open B s1 h Q := by
 unfold S_wafer_Open at hS
 unfold C_wafer_Open
 refine Spec.of_run Try.func150 (N := 45) (rs := [ResultVar.tmp 2, ResultVar.tmp 3]) rfl rfl rfl (Nat.le_of_ble_eq_true rfl) ?_
 refine Run.seq ?_
 refine Run.ops0 (idx := [0, 1]) rfl ?_
 refine Run.go rfl rfl rfl (sem_assign ((Value.string (ByteArray.mk #[]))) rfl ?_)
 refine Run.go rfl rfl rfl (sem_assign ((Value.int .i64 (0))) rfl ?_)
 refine Run.region_end ?_
 refine Run.seq ?_
 refine Run.seq ?_
 refine Run.ops0 (idx := [0, 1, 2]) rfl ?_
 refine Run.go rfl rfl rfl (sem_move ((Value.string s1)) rfl ?_)
 refine Run.go rfl rfl rfl (sem_lenStr s1 rfl TF.isStr_9 ?_)
 obtain ⟨hT, hF⟩ := hS
 by_cases hb4 : ((ByteArray.size s1 : Nat) : Int) < (2)
 ·have hS := hT hb4; clear hT hF
  refine Run.go rfl rfl rfl (sem_binI .i64 ((ByteArray.size s1 : Nat)) (2) (.bool true) rfl rfl (binI_lss_t hb4) ?_)
  refine Run.region_end ?_
  refine Run.condT rfl ?_
  refine Run.seq ?_
  refine Run.ops0 (idx := [0, 1]) rfl ?_
  refine Run.go rfl rfl rfl (sem_assign ((Value.string (ByteArray.mk #[]))) rfl ?_)
  refine Run.go rfl rfl rfl (sem_assign ((Value.int .i64 (0))) rfl ?_)
  refine Run.region_end ?_
  refine Run.ret ⟨.inr rfl, ?_⟩
  exact hS.imp fun h' hq => ⟨(ByteArray.mk #[]), (0), rfl, hq⟩
 ·have hS := hF hb4; clear hT hF
  refine Run.go rfl rfl rfl (sem_binI .i64 ((ByteArray.size s1 : Nat)) (2) (.bool false) rfl rfl (binI_lss_f hb4) ?_)
  refine Run.region_end ?_
  refine Run.condF rfl ?_
  refine Run.skip ?_
  refine Run.seq ?_
  refine Run.drawM (fun h' => h' = h) [] ⟨[0, 1, 2, 4, 0, 16, 32, 72, 255], [511, 510, 509, 507, 511, 495, 479, 439, 383], [0, 0, 0, 0, 0, 0, 0, 0, 0], 0⟩ (.q 0 (.q 1 (.q 2 (.q 3 (.q 4 (.q 5 (.q 6 (.q 7 (.q 8 .nil))))))))) TF.mixed (by kernel_rfl) rfl ?_
  refine RunT.quiet rfl rfl rfl (quiet_eq (sem_move ((Value.string s1)) rfl ⟨rfl, rfl⟩)) ?_
  obtain ⟨hi0, hi1, hS⟩ := hS
  refine RunT.quiet rfl rfl rfl (quiet_eq (sem_indexStr' s1 .i64 (0) rfl rfl TF.isStr_9 hi0 hi1 ⟨rfl, rfl⟩)) ?_
  refine RunT.quiet rfl rfl rfl (quiet_eq (sem_convI .u8 .i64 (byteAt s1 (Int.toNat (0))) rfl TF.int_5 TF.int_3 ⟨rfl, rfl⟩)) ?_
  obtain ⟨hi0, hS⟩ := hS
  refine RunT.quiet rfl rfl rfl (quiet_eq (sem_shl .i64 .u64 (IntKind.wrap .i64 (byteAt s1 (Int.toNat (0)))) (8) rfl rfl hi0 ⟨rfl, rfl⟩)) ?_
  refine RunT.quiet rfl rfl rfl (quiet_eq (sem_move ((Value.string s1)) rfl ⟨rfl, rfl⟩)) ?_
  obtain ⟨hi0, hi1, hS⟩ := hS
  refine RunT.quiet rfl rfl rfl (quiet_eq (sem_indexStr' s1 .i64 (1) rfl rfl TF.isStr_9 hi0 hi1 ⟨rfl, rfl⟩)) ?_
  refine RunT.quiet rfl rfl rfl (quiet_eq (sem_convI .u8 .i64 (byteAt s1 (Int.toNat (1))) rfl TF.int_5 TF.int_3 ⟨rfl, rfl⟩)) ?_
  refine RunT.quiet rfl rfl rfl (quiet_eq (sem_binI .i64 (IntKind.wrap .i64 ((IntKind.wrap .i64 (byteAt s1 (Int.toNat (0)))) * 2 ^ (min (Int.toNat (8)) (IntKind.bits .i64)))) (IntKind.wrap .i64 (byteAt s1 (Int.toNat (1)))) ((Value.int .i64 (IntKind.wrap .i64 ((BitVec.ofInt (IntKind.bits .i64) (IntKind.wrap .i64 ((IntKind.wrap .i64 (byteAt s1 (Int.toNat (0)))) * 2 ^ (min (Int.toNat (8)) (IntKind.bits .i64)))) ||| BitVec.ofInt (IntKind.bits .i64) (IntKind.wrap .i64 (byteAt s1 (Int.toNat (1))))).toNat : Int)))) rfl rfl rfl ⟨rfl, rfl⟩)) ?_
  refine RunT.quiet rfl rfl rfl (quiet_eq (sem_assign ((Value.int .i64 (IntKind.wrap .i64 ((BitVec.ofInt (IntKind.bits .i64) (IntKind.wrap .i64 ((IntKind.wrap .i64 (byteAt s1 (Int.toNat (0)))) * 2 ^ (min (Int.toNat (8)) (IntKind.bits .i64)))) ||| BitVec.ofInt (IntKind.bits .i64) (IntKind.wrap .i64 (byteAt s1 (Int.toNat (1))))).toNat : Int)))) rfl ⟨rfl, rfl⟩)) ?_
  refine Run.seq ?_
  refine Run.ops0 (idx := [0, 1, 2, 3]) rfl ?_
  refine Run.go rfl rfl rfl (sem_move ((Value.int .i64 (IntKind.wrap .i64 ((BitVec.ofInt (IntKind.bits .i64) (IntKind.wrap .i64 ((IntKind.wrap .i64 (byteAt s1 (Int.toNat (0)))) * 2 ^ (min (Int.toNat (8)) (IntKind.bits .i64)))) ||| BitVec.ofInt (IntKind.bits .i64) (IntKind.wrap .i64 (byteAt s1 (Int.toNat (1))))).toNat : Int)))) rfl ?_)
  refine Run.go rfl rfl rfl (sem_binI .i64 (2) (IntKind.wrap .i64 ((BitVec.ofInt (IntKind.bits .i64) (IntKind.wrap .i64 ((IntKind.wrap .i64 (byteAt s1 (Int.toNat (0)))) * 2 ^ (min (Int.toNat (8)) (IntKind.bits .i64)))) ||| BitVec.ofInt (IntKind.bits .i64) (IntKind.wrap .i64 (byteAt s1 (Int.toNat (1))))).toNat : Int)) ((Value.int .i64 (IntKind.wrap .i64 ((2) + (IntKind.wrap .i64 ((BitVec.ofInt (IntKind.bits .i64) (IntKind.wrap .i64 ((IntKind.wrap .i64 (byteAt s1 (Int.toNat (0)))) * 2 ^ (min (Int.toNat (8)) (IntKind.bits .i64)))) ||| BitVec.ofInt (IntKind.bits .i64) (IntKind.wrap .i64 (byteAt s1 (Int.toNat (1))))).toNat : Int)))))) rfl rfl rfl ?_)
  refine Run.go rfl rfl rfl (sem_binI .i64 (IntKind.wrap .i64 ((2) + (IntKind.wrap .i64 ((BitVec.ofInt (IntKind.bits .i64) (IntKind.wrap .i64 ((IntKind.wrap .i64 (byteAt s1 (Int.toNat (0)))) * 2 ^ (min (Int.toNat (8)) (IntKind.bits .i64)))) ||| BitVec.ofInt (IntKind.bits .i64) (IntKind.wrap .i64 (byteAt s1 (Int.toNat (1))))).toNat : Int)))) (4) ((Value.int .i64 (IntKind.wrap .i64 ((IntKind.wrap .i64 ((2) + (IntKind.wrap .i64 ((BitVec.ofInt (IntKind.bits .i64) (IntKind.wrap .i64 ((IntKind.wrap .i64 (byteAt s1 (Int.toNat (0)))) * 2 ^ (min (Int.toNat (8)) (IntKind.bits .i64)))) ||| BitVec.ofInt (IntKind.bits .i64) (IntKind.wrap .i64 (byteAt s1 (Int.toNat (1))))).toNat : Int)))) + (4))))) rfl rfl rfl ?_)
  refine Run.go rfl rfl rfl (sem_assign ((Value.int .i64 (IntKind.wrap .i64 ((IntKind.wrap .i64 ((2) + (IntKind.wrap .i64 ((BitVec.ofInt (IntKind.bits .i64) (IntKind.wrap .i64 ((IntKind.wrap .i64 (byteAt s1 (Int.toNat (0)))) * 2 ^ (min (Int.toNat (8)) (IntKind.bits .i64)))) ||| BitVec.ofInt (IntKind.bits .i64) (IntKind.wrap .i64 (byteAt s1 (Int.toNat (1))))).toNat : Int)))) + (4))))) rfl ?_)
  refine Run.region_end ?_
  refine Run.seqJ (fun e h6 => Agree [(0, (Value.string s1)), (4, (Value.int .i64 (IntKind.wrap .i64 ((BitVec.ofInt (IntKind.bits .i64) (IntKind.wrap .i64 ((IntKind.wrap .i64 (byteAt s1 (Int.toNat (0)))) * 2 ^ (min (Int.toNat (8)) (IntKind.bits .i64)))) ||| BitVec.ofInt (IntKind.bits .i64) (IntKind.wrap .i64 (byteAt s1 (Int.toNat (1))))).toNat : Int)))), (5, (Value.int .i64 (IntKind.wrap .i64 ((IntKind.wrap .i64 ((2) + (IntKind.wrap .i64 ((BitVec.ofInt (IntKind.bits .i64) (IntKind.wrap .i64 ((IntKind.wrap .i64 (byteAt s1 (Int.toNat (0)))) * 2 ^ (min (Int.toNat (8)) (IntKind.bits .i64)))) ||| BitVec.ofInt (IntKind.bits .i64) (IntKind.wrap .i64 (byteAt s1 (Int.toNat (1))))).toNat : Int)))) + (4)))))] e ∧ S_wafer_Open_J1 B s1 h6 Q) ?_ fun j5 => ?_
  ·rintro e h6 ⟨hag, hS⟩
   refine Run.env hag ?_; clear hag
   refine Run.seq ?_
   refine Run.seq ?_
   skip
   skip
   skip
   obtain ⟨hi0, hi1, hi2, hS⟩ := hS
   have f11 := hi0; have f12 := hi1; have f13 := hi2
   skip
   skip
   skip
   skip
   obtain ⟨hi0, hi1, hi2, hS⟩ := hS
   have f19 := hi0; have f20 := hi1; have f21 := hi2
   refine Run.drawM (fun h' => True) [] ⟨[0, 0, 2, 5, 8, 16, 0, 0, 128, 0, 832, 1056], [4095, 4095, 4093, 4090, 4087, 4079, 4095, 4095, 3967, 4095, 3263, 3039], [0, 0, 0, 0, 0, 0, 0, 0, 0, 0, 0, 0], 0⟩ (.q 0 (.q 1 (.q 2 (.q 3 (.q 6 (.q 7 (.q 8 (.q 9 (.q 10 (.x 4 (.x 5 (.q 11 .nil) .no) .no)))))))))) TF.mixed (by kernel_rfl) trivial ?_
   refine RunT.quiet rfl rfl rfl (fun h' hC => sem_move ((Value.string s1)) rfl ⟨rfl, rfl⟩) ?_
   refine RunT.quiet rfl rfl rfl (fun h' hC => sem_move ((Value.int .i64 (IntKind.wrap .i64 ((BitVec.ofInt (IntKind.bits .i64) (IntKind.wrap .i64 ((IntKind.wrap .i64 (byteAt s1 (Int.toNat (0)))) * 2 ^ (min (Int.toNat (8)) (IntKind.bits .i64)))) ||| BitVec.ofInt (IntKind.bits .i64) (IntKind.wrap .i64 (byteAt s1 (Int.toNat (1))))).toNat : Int)))) rfl ⟨rfl, rfl⟩) ?_
   refine RunT.quiet rfl rfl rfl (fun h' hC => sem_binI .i64 (2) (IntKind.wrap .i64 ((BitVec.ofInt (IntKind.bits .i64) (IntKind.wrap .i64 ((IntKind.wrap .i64 (byteAt s1 (Int.toNat (0)))) * 2 ^ (min (Int.toNat (8)) (IntKind.bits .i64)))) ||| BitVec.ofInt (IntKind.bits .i64) (IntKind.wrap .i64 (byteAt s1 (Int.toNat (1))))).toNat : Int)) ((Value.int .i64 (IntKind.wrap .i64 ((2) + (IntKind.wrap .i64 ((BitVec.ofInt (IntKind.bits .i64) (IntKind.wrap .i64 ((IntKind.wrap .i64 (byteAt s1 (Int.toNat (0)))) * 2 ^ (min (Int.toNat (8)) (IntKind.bits .i64)))) ||| BitVec.ofInt (IntKind.bits .i64) (IntKind.wrap .i64 (byteAt s1 (Int.toNat (1))))).toNat : Int)))))) rfl rfl rfl ⟨rfl, rfl⟩) ?_
   refine RunT.quiet rfl rfl rfl (fun h' hC => sem_sliceStrI s1 (0) (IntKind.wrap .i64 ((2) + (IntKind.wrap .i64 ((BitVec.ofInt (IntKind.bits .i64) (IntKind.wrap .i64 ((IntKind.wrap .i64 (byteAt s1 (Int.toNat (0)))) * 2 ^ (min (Int.toNat (8)) (IntKind.bits .i64)))) ||| BitVec.ofInt (IntKind.bits .i64) (IntKind.wrap .i64 (byteAt s1 (Int.toNat (1))))).toNat : Int)))) rfl TF.isStr_9 rfl ⟨_, rfl⟩ f11 f12 f13 ⟨rfl, rfl⟩) ?_
   refine RunT.quiet rfl rfl rfl (fun h' hC => sem_move ((Value.string s1)) rfl ⟨rfl, rfl⟩) ?_
   refine RunT.quiet rfl rfl rfl (fun h' hC => sem_move ((Value.int .i64 (IntKind.wrap .i64 ((BitVec.ofInt (IntKind.bits .i64) (IntKind.wrap .i64 ((IntKind.wrap .i64 (byteAt s1 (Int.toNat (0)))) * 2 ^ (min (Int.toNat (8)) (IntKind.bits .i64)))) ||| BitVec.ofInt (IntKind.bits .i64) (IntKind.wrap .i64 (byteAt s1 (Int.toNat (1))))).toNat : Int)))) rfl ⟨rfl, rfl⟩) ?_
   refine RunT.quiet rfl rfl rfl (fun h' hC => sem_binI .i64 (2) (IntKind.wrap .i64 ((BitVec.ofInt (IntKind.bits .i64) (IntKind.wrap .i64 ((IntKind.wrap .i64 (byteAt s1 (Int.toNat (0)))) * 2 ^ (min (Int.toNat (8)) (IntKind.bits .i64)))) ||| BitVec.ofInt (IntKind.bits .i64) (IntKind.wrap .i64 (byteAt s1 (Int.toNat (1))))).toNat : Int)) ((Value.int .i64 (IntKind.wrap .i64 ((2) + (IntKind.wrap .i64 ((BitVec.ofInt (IntKind.bits .i64) (IntKind.wrap .i64 ((IntKind.wrap .i64 (byteAt s1 (Int.toNat (0)))) * 2 ^ (min (Int.toNat (8)) (IntKind.bits .i64)))) ||| BitVec.ofInt (IntKind.bits .i64) (IntKind.wrap .i64 (byteAt s1 (Int.toNat (1))))).toNat : Int)))))) rfl rfl rfl ⟨rfl, rfl⟩) ?_
   refine RunT.quiet rfl rfl rfl (fun h' hC => sem_move ((Value.int .i64 (IntKind.wrap .i64 ((IntKind.wrap .i64 ((2) + (IntKind.wrap .i64 ((BitVec.ofInt (IntKind.bits .i64) (IntKind.wrap .i64 ((IntKind.wrap .i64 (byteAt s1 (Int.toNat (0)))) * 2 ^ (min (Int.toNat (8)) (IntKind.bits .i64)))) ||| BitVec.ofInt (IntKind.bits .i64) (IntKind.wrap .i64 (byteAt s1 (Int.toNat (1))))).toNat : Int)))) + (4))))) rfl ⟨rfl, rfl⟩) ?_
   refine RunT.quiet rfl rfl rfl (fun h' hC => sem_sliceStrI s1 (IntKind.wrap .i64 ((2) + (IntKind.wrap .i64 ((BitVec.ofInt (IntKind.bits .i64) (IntKind.wrap .i64 ((IntKind.wrap .i64 (byteAt s1 (Int.toNat (0)))) * 2 ^ (min (Int.toNat (8)) (IntKind.bits .i64)))) ||| BitVec.ofInt (IntKind.bits .i64) (IntKind.wrap .i64 (byteAt s1 (Int.toNat (1))))).toNat : Int)))) (IntKind.wrap .i64 ((IntKind.wrap .i64 ((2) + (IntKind.wrap .i64 ((BitVec.ofInt (IntKind.bits .i64) (IntKind.wrap .i64 ((IntKind.wrap .i64 (byteAt s1 (Int.toNat (0)))) * 2 ^ (min (Int.toNat (8)) (IntKind.bits .i64)))) ||| BitVec.ofInt (IntKind.bits .i64) (IntKind.wrap .i64 (byteAt s1 (Int.toNat (1))))).toNat : Int)))) + (4))) rfl TF.isStr_9 ⟨_, rfl⟩ ⟨_, rfl⟩ f19 f20 f21 ⟨rfl, rfl⟩) ?_
   refine ⟨?_, trivial⟩
   refine OpH.go rfl rfl rfl (sem_callL [(Value.string (ByteArray.extract s1 (Int.toNat (0)) (Int.toNat (IntKind.wrap .i64 ((2) + (IntKind.wrap .i64 ((BitVec.ofInt (IntKind.bits .i64) (IntKind.wrap .i64 ((IntKind.wrap .i64 (byteAt s1 (Int.toNat (0)))) * 2 ^ (min (Int.toNat (8)) (IntKind.bits .i64)))) ||| BitVec.ofInt (IntKind.bits .i64) (IntKind.wrap .i64 (byteAt s1 (Int.toNat (1))))).toNat : Int)))))))] (TF.goes_136) rfl rfl (Spec.mono hS fun v h22 hv => ?_))
   obtain ⟨i23, rfl, hS⟩ := hv
   refine ⟨fun _ => trivial, ?_⟩
   refine ⟨?_, trivial⟩
   refine OpH.go rfl rfl rfl (sem_callL [(Value.int .u32 (i23))] (TF.goes_135) rfl rfl (Spec.mono hS fun v h24 hv => ?_))
   obtain ⟨s25, rfl, hS⟩ := hv
   refine ⟨fun _ => trivial, ?_⟩
   obtain ⟨hT, hF⟩ := hS
   by_cases hb26 : s25 = (ByteArray.extract s1 (Int.toNat (IntKind.wrap .i64 ((2) + (IntKind.wrap .i64 ((BitVec.ofInt (IntKind.bits .i64) (IntKind.wrap .i64 ((IntKind.wrap .i64 (byteAt s1 (Int.toNat (0)))) * 2 ^ (min (Int.toNat (8)) (IntKind.bits .i64)))) ||| BitVec.ofInt (IntKind.bits .i64) (IntKind.wrap .i64 (byteAt s1 (Int.toNat (1))))).toNat : Int))))) (Int.toNat (IntKind.wrap .i64 ((IntKind.wrap .i64 ((2) + (IntKind.wrap .i64 ((BitVec.ofInt (IntKind.bits .i64) (IntKind.wrap .i64 ((IntKind.wrap .i64 (byteAt s1 (Int.toNat (0)))) * 2 ^ (min (Int.toNat (8)) (IntKind.bits .i64)))) ||| BitVec.ofInt (IntKind.bits .i64) (IntKind.wrap .i64 (byteAt s1 (Int.toNat (1))))).toNat : Int)))) + (4)))))
   ·have hS := hT hb26; clear hT hF
    refine RunT.quiet rfl rfl rfl (fun h' hC => sem_strNeT s25 (ByteArray.extract s1 (Int.toNat (IntKind.wrap .i64 ((2) + (IntKind.wrap .i64 ((BitVec.ofInt (IntKind.bits .i64) (IntKind.wrap .i64 ((IntKind.wrap .i64 (byteAt s1 (Int.toNat (0)))) * 2 ^ (min (Int.toNat (8)) (IntKind.bits .i64)))) ||| BitVec.ofInt (IntKind.bits .i64) (IntKind.wrap .i64 (byteAt s1 (Int.toNat (1))))).toNat : Int))))) (Int.toNat (IntKind.wrap .i64 ((IntKind.wrap .i64 ((2) + (IntKind.wrap .i64 ((BitVec.ofInt (IntKind.bits .i64) (IntKind.wrap .i64 ((IntKind.wrap .i64 (byteAt s1 (Int.toNat (0)))) * 2 ^ (min (Int.toNat (8)) (IntKind.bits .i64)))) ||| BitVec.ofInt (IntKind.bits .i64) (IntKind.wrap .i64 (byteAt s1 (Int.toNat (1))))).toNat : Int)))) + (4))))) rfl rfl hb26 ⟨rfl, rfl⟩) ?_
    refine Run.condF rfl ?_
    refine Run.skip ?_
    refine Run.seq ?_
    refine Run.ops0 (idx := [0, 1, 2, 3, 4, 5, 6]) rfl ?_
    refine Run.go rfl rfl rfl (sem_move ((Value.string s1)) rfl ?_)
    refine Run.go rfl rfl rfl (sem_move ((Value.int .i64 (IntKind.wrap .i64 ((BitVec.ofInt (IntKind.bits .i64) (IntKind.wrap .i64 ((IntKind.wrap .i64 (byteAt s1 (Int.toNat (0)))) * 2 ^ (min (Int.toNat (8)) (IntKind.bits .i64)))) ||| BitVec.ofInt (IntKind.bits .i64) (IntKind.wrap .i64 (byteAt s1 (Int.toNat (1))))).toNat : Int)))) rfl ?_)
    refine Run.go rfl rfl rfl (sem_binI .i64 (2) (IntKind.wrap .i64 ((BitVec.ofInt (IntKind.bits .i64) (IntKind.wrap .i64 ((IntKind.wrap .i64 (byteAt s1 (Int.toNat (0)))) * 2 ^ (min (Int.toNat (8)) (IntKind.bits .i64)))) ||| BitVec.ofInt (IntKind.bits .i64) (IntKind.wrap .i64 (byteAt s1 (Int.toNat (1))))).toNat : Int)) ((Value.int .i64 (IntKind.wrap .i64 ((2) + (IntKind.wrap .i64 ((BitVec.ofInt (IntKind.bits .i64) (IntKind.wrap .i64 ((IntKind.wrap .i64 (byteAt s1 (Int.toNat (0)))) * 2 ^ (min (Int.toNat (8)) (IntKind.bits .i64)))) ||| BitVec.ofInt (IntKind.bits .i64) (IntKind.wrap .i64 (byteAt s1 (Int.toNat (1))))).toNat : Int)))))) rfl rfl rfl ?_)
    obtain ⟨hi0, hi1, hi2, hS⟩ := hS
    refine Run.go rfl rfl rfl (sem_sliceStrI s1 (2) (IntKind.wrap .i64 ((2) + (IntKind.wrap .i64 ((BitVec.ofInt (IntKind.bits .i64) (IntKind.wrap .i64 ((IntKind.wrap .i64 (byteAt s1 (Int.toNat (0)))) * 2 ^ (min (Int.toNat (8)) (IntKind.bits .i64)))) ||| BitVec.ofInt (IntKind.bits .i64) (IntKind.wrap .i64 (byteAt s1 (Int.toNat (1))))).toNat : Int)))) rfl TF.isStr_9 ⟨_, rfl⟩ ⟨_, rfl⟩ hi0 hi1 hi2 ?_)
    refine Run.go rfl rfl rfl (sem_move ((Value.int .i64 (IntKind.wrap .i64 ((IntKind.wrap .i64 ((2) + (IntKind.wrap .i64 ((BitVec.ofInt (IntKind.bits .i64) (IntKind.wrap .i64 ((IntKind.wrap .i64 (byteAt s1 (Int.toNat (0)))) * 2 ^ (min (Int.toNat (8)) (IntKind.bits .i64)))) ||| BitVec.ofInt (IntKind.bits .i64) (IntKind.wrap .i64 (byteAt s1 (Int.toNat (1))))).toNat : Int)))) + (4))))) rfl ?_)
    refine Run.go rfl rfl rfl (sem_assign ((Value.string (ByteArray.extract s1 (Int.toNat (2)) (Int.toNat (IntKind.wrap .i64 ((2) + (IntKind.wrap .i64 ((BitVec.ofInt (IntKind.bits .i64) (IntKind.wrap .i64 ((IntKind.wrap .i64 (byteAt s1 (Int.toNat (0)))) * 2 ^ (min (Int.toNat (8)) (IntKind.bits .i64)))) ||| BitVec.ofInt (IntKind.bits .i64) (IntKind.wrap .i64 (byteAt s1 (Int.toNat (1))))).toNat : Int)))))))) rfl ?_)
    refine Run.go rfl rfl rfl (sem_assign ((Value.int .i64 (IntKind.wrap .i64 ((IntKind.wrap .i64 ((2) + (IntKind.wrap .i64 ((BitVec.ofInt (IntKind.bits .i64) (IntKind.wrap .i64 ((IntKind.wrap .i64 (byteAt s1 (Int.toNat (0)))) * 2 ^ (min (Int.toNat (8)) (IntKind.bits .i64)))) ||| BitVec.ofInt (IntKind.bits .i64) (IntKind.wrap .i64 (byteAt s1 (Int.toNat (1))))).toNat : Int)))) + (4))))) rfl ?_)
    refine Run.region_end ?_
    refine Run.ret ⟨.inr rfl, ?_⟩
    exact hS.imp fun h' hq => ⟨(ByteArray.extract s1 (Int.toNat (2)) (Int.toNat (IntKind.wrap .i64 ((2) + (IntKind.wrap .i64 ((BitVec.ofInt (IntKind.bits .i64) (IntKind.wrap .i64 ((IntKind.wrap .i64 (byteAt s1 (Int.toNat (0)))) * 2 ^ (min (Int.toNat (8)) (IntKind.bits .i64)))) ||| BitVec.ofInt (IntKind.bits .i64) (IntKind.wrap .i64 (byteAt s1 (Int.toNat (1))))).toNat : Int)))))), (IntKind.wrap .i64 ((IntKind.wrap .i64 ((2) + (IntKind.wrap .i64 ((BitVec.ofInt (IntKind.bits .i64) (IntKind.wrap .i64 ((IntKind.wrap .i64 (byteAt s1 (Int.toNat (0)))) * 2 ^ (min (Int.toNat (8)) (IntKind.bits .i64)))) ||| BitVec.ofInt (IntKind.bits .i64) (IntKind.wrap .i64 (byteAt s1 (Int.toNat (1))))).toNat : Int)))) + (4))), rfl, hq⟩
   ·have hS := hF hb26; clear hT hF
    refine RunT.quiet rfl rfl rfl (fun h' hC => sem_strNeF s25 (ByteArray.extract s1 (Int.toNat (IntKind.wrap .i64 ((2) + (IntKind.wrap .i64 ((BitVec.ofInt (IntKind.bits .i64) (IntKind.wrap .i64 ((IntKind.wrap .i64 (byteAt s1 (Int.toNat (0)))) * 2 ^ (min (Int.toNat (8)) (IntKind.bits .i64)))) ||| BitVec.ofInt (IntKind.bits .i64) (IntKind.wrap .i64 (byteAt s1 (Int.toNat (1))))).toNat : Int))))) (Int.toNat (IntKind.wrap .i64 ((IntKind.wrap .i64 ((2) + (IntKind.wrap .i64 ((BitVec.ofInt (IntKind.bits .i64) (IntKind.wrap .i64 ((IntKind.wrap .i64 (byteAt s1 (Int.toNat (0)))) * 2 ^ (min (Int.toNat (8)) (IntKind.bits .i64)))) ||| BitVec.ofInt (IntKind.bits .i64) (IntKind.wrap .i64 (byteAt s1 (Int.toNat (1))))).toNat : Int)))) + (4))))) rfl rfl hb26 ⟨rfl, rfl⟩) ?_
    refine Run.condT rfl ?_
    refine Run.seq ?_
    refine Run.ops0 (idx := [0, 1]) rfl ?_
    refine Run.go rfl rfl rfl (sem_assign ((Value.string (ByteArray.mk #[]))) rfl ?_)
    refine Run.go rfl rfl rfl (sem_assign ((Value.int .i64 (0))) rfl ?_)
    refine Run.region_end ?_
    refine Run.ret ⟨.inr rfl, ?_⟩
    exact hS.imp fun h' hq => ⟨(ByteArray.mk #[]), (0), rfl, hq⟩
  refine Run.seq ?_
  refine Run.ops0 (idx := [0, 1, 2, 3, 4, 5, 6, 7]) rfl ?_
  refine Run.go rfl rfl rfl (sem_move ((Value.int .i64 (IntKind.wrap .i64 ((BitVec.ofInt (IntKind.bits .i64) (IntKind.wrap .i64 ((IntKind.wrap .i64 (byteAt s1 (Int.toNat (0)))) * 2 ^ (min (Int.toNat (8)) (IntKind.bits .i64)))) ||| BitVec.ofInt (IntKind.bits .i64) (IntKind.wrap .i64 (byteAt s1 (Int.toNat (1))))).toNat : Int)))) rfl ?_)
  obtain ⟨hT, hF⟩ := hS
  by_cases hb27 : (IntKind.wrap .i64 ((BitVec.ofInt (IntKind.bits .i64) (IntKind.wrap .i64 ((IntKind.wrap .i64 (byteAt s1 (Int.toNat (0)))) * 2 ^ (min (Int.toNat (8)) (IntKind.bits .i64)))) ||| BitVec.ofInt (IntKind.bits .i64) (IntKind.wrap .i64 (byteAt s1 (Int.toNat (1))))).toNat : Int) : Int) > (1024)
  ·have hS := hT hb27; clear hT hF
   refine Run.go rfl rfl rfl (sem_binI .i64 (IntKind.wrap .i64 ((BitVec.ofInt (IntKind.bits .i64) (IntKind.wrap .i64 ((IntKind.wrap .i64 (byteAt s1 (Int.toNat (0)))) * 2 ^ (min (Int.toNat (8)) (IntKind.bits .i64)))) ||| BitVec.ofInt (IntKind.bits .i64) (IntKind.wrap .i64 (byteAt s1 (Int.toNat (1))))).toNat : Int)) (1024) (.bool true) rfl rfl (binI_gtr_t hb27) ?_)
   refine Run.go rfl rfl rfl (sem_move ((Value.bool true)) rfl ?_)
   refine Run.no rfl rfl rfl ?_
   refine Run.no rfl rfl rfl ?_
   refine Run.no rfl rfl rfl ?_
   refine Run.no rfl rfl rfl ?_
   refine Run.go rfl rfl rfl (sem_pick true ((Value.bool true)) rfl rfl ?_)
   refine Run.region_end ?_
   refine Run.condT rfl ?_
   refine Run.seq ?_
   refine Run.ops0 (idx := [0, 1]) rfl ?_
   refine Run.go rfl rfl rfl (sem_assign ((Value.string (ByteArray.mk #[]))) rfl ?_)
   refine Run.go rfl rfl rfl (sem_assign ((Value.int .i64 (0))) rfl ?_)
   refine Run.region_end ?_
   refine Run.ret ⟨.inr rfl, ?_⟩
   exact hS.imp fun h' hq => ⟨(ByteArray.mk #[]), (0), rfl, hq⟩
  ·have hS := hF hb27; clear hT hF
   refine Run.go rfl rfl rfl (sem_binI .i64 (IntKind.wrap .i64 ((BitVec.ofInt (IntKind.bits .i64) (IntKind.wrap .i64 ((IntKind.wrap .i64 (byteAt s1 (Int.toNat (0)))) * 2 ^ (min (Int.toNat (8)) (IntKind.bits .i64)))) ||| BitVec.ofInt (IntKind.bits .i64) (IntKind.wrap .i64 (byteAt s1 (Int.toNat (1))))).toNat : Int)) (1024) (.bool false) rfl rfl (binI_gtr_f hb27) ?_)
   refine Run.go rfl rfl rfl (sem_move ((Value.bool false)) rfl ?_)
   refine Run.go rfl rfl rfl (sem_move ((Value.string s1)) rfl ?_)
   refine Run.go rfl rfl rfl (sem_lenStr s1 rfl TF.isStr_9 ?_)
   refine Run.go rfl rfl rfl (sem_move ((Value.int .i64 (IntKind.wrap .i64 ((IntKind.wrap .i64 ((2) + (IntKind.wrap .i64 ((BitVec.ofInt (IntKind.bits .i64) (IntKind.wrap .i64 ((IntKind.wrap .i64 (byteAt s1 (Int.toNat (0)))) * 2 ^ (min (Int.toNat (8)) (IntKind.bits .i64)))) ||| BitVec.ofInt (IntKind.bits .i64) (IntKind.wrap .i64 (byteAt s1 (Int.toNat (1))))).toNat : Int)))) + (4))))) rfl ?_)
   obtain ⟨hT, hF⟩ := hS
   by_cases hb28 : ((ByteArray.size s1 : Nat) : Int) < (IntKind.wrap .i64 ((IntKind.wrap .i64 ((2) + (IntKind.wrap .i64 ((BitVec.ofInt (IntKind.bits .i64) (IntKind.wrap .i64 ((IntKind.wrap .i64 (byteAt s1 (Int.toNat (0)))) * 2 ^ (min (Int.toNat (8)) (IntKind.bits .i64)))) ||| BitVec.ofInt (IntKind.bits .i64) (IntKind.wrap .i64 (byteAt s1 (Int.toNat (1))))).toNat : Int)))) + (4)))
   ·have hS := hT hb28; clear hT hF
    refine Run.go rfl rfl rfl (sem_binI .i64 ((ByteArray.size s1 : Nat)) (IntKind.wrap .i64 ((IntKind.wrap .i64 ((2) + (IntKind.wrap .i64 ((BitVec.ofInt (IntKind.bits .i64) (IntKind.wrap .i64 ((IntKind.wrap .i64 (byteAt s1 (Int.toNat (0)))) * 2 ^ (min (Int.toNat (8)) (IntKind.bits .i64)))) ||| BitVec.ofInt (IntKind.bits .i64) (IntKind.wrap .i64 (byteAt s1 (Int.toNat (1))))).toNat : Int)))) + (4))) (.bool true) rfl rfl (binI_lss_t hb28) ?_)
    refine Run.go rfl rfl rfl (sem_pick false ((Value.bool true)) rfl rfl ?_)
    refine Run.region_end ?_
    refine Run.condT rfl ?_
    refine Run.seq ?_
    refine Run.ops0 (idx := [0, 1]) rfl ?_
    refine Run.go rfl rfl rfl (sem_assign ((Value.string (ByteArray.mk #[]))) rfl ?_)
    refine Run.go rfl rfl rfl (sem_assign ((Value.int .i64 (0))) rfl ?_)
    refine Run.region_end ?_
    refine Run.ret ⟨.inr rfl, ?_⟩
    exact hS.imp fun h' hq => ⟨(ByteArray.mk #[]), (0), rfl, hq⟩
   ·have hS := hF hb28; clear hT hF
    refine Run.go rfl rfl rfl (sem_binI .i64 ((ByteArray.size s1 : Nat)) (IntKind.wrap .i64 ((IntKind.wrap .i64 ((2) + (IntKind.wrap .i64 ((BitVec.ofInt (IntKind.bits .i64) (IntKind.wrap .i64 ((IntKind.wrap .i64 (byteAt s1 (Int.toNat (0)))) * 2 ^ (min (Int.toNat (8)) (IntKind.bits .i64)))) ||| BitVec.ofInt (IntKind.bits .i64) (IntKind.wrap .i64 (byteAt s1 (Int.toNat (1))))).toNat : Int)))) + (4))) (.bool false) rfl rfl (binI_lss_f hb28) ?_)
    refine Run.go rfl rfl rfl (sem_pick false ((Value.bool false)) rfl rfl ?_)
    refine Run.region_end ?_
    refine Run.condF rfl ?_
    refine Run.skip ?_
    exact Run.of_fin (hS.imp fun h' hS => j5 _ _ ⟨⟨rfl, rfl, rfl, trivial⟩, hS⟩)
set_option maxHeartbeats 4000000 in
theorem C_stylus_Reader_word.of {B : RO} {p1 : Option Addr} {h : Heap} {Q : Int → Heap → Prop} (hS : S_stylus_Reader_word B p1 h Q) : C_stylus_Reader_word B p1 h Q := by
 unfold S_stylus_Reader_word at hS
 unfold C_stylus_Reader_word
 refine Spec.of_run Try.func151 (N := 46) (rs := [ResultVar.tmp 2]) rfl rfl rfl (Nat.le_of_ble_eq_true rfl) ?_
 refine Run.seq ?_
 refine Run.ops0 (idx := [0]) rfl ?_
 refine Run.go rfl rfl rfl (sem_assign ((Value.int .u64 (0))) rfl ?_)
 refine Run.region_end ?_
 refine Run.seq ?_
 refine Run.ops0 (idx := [0]) rfl ?_
 refine Run.go rfl rfl rfl (sem_assign ((Value.int .u64 (0))) rfl ?_)
 refine Run.region_end ?_
 refine Run.seq ?_
 refine Run.seq ?_
 refine Run.ops0 (idx := [0]) rfl ?_
 refine Run.go rfl rfl rfl (sem_assign ((Value.int .i64 (0))) rfl ?_)
 refine Run.region_end ?_
 refine Run.block ?_
 obtain ⟨J9, m7, h0, hS⟩ := hS
 refine Run.of_fin (h0.imp fun h' h0 => ?_)
 refine Run.loop (σ := Int × Int × Nat) (fun x e h => J9 x.1 x.2.1 x.2.2 h ∧ Agree [(0, (Value.pointer p1)), (3, (Value.int .u64 (x.1))), (4, (Value.int .i64 (x.2.1)))] e) (fun x => x.2.2) ((0), (0), m7) ⟨h0, ⟨rfl, rfl, rfl, trivial⟩⟩ ?_; clear h0
 rintro ⟨i3, i4, m6⟩ e h5 ⟨hJ, hag⟩ ih8
 have hS := hS i3 i4 m6 h5 hJ; clear hJ
 refine Run.env hag ?_; clear hag
 refine Run.seq ?_
 refine Run.seq ?_
 refine Run.ops0 (idx := [0, 1]) rfl ?_
 refine Run.go rfl rfl rfl (sem_move ((Value.int .i64 (i4))) rfl ?_)
 obtain ⟨hT, hF⟩ := hS
 by_cases hb10 : (i4 : Int) < (64)
 ·have hS := hT hb10; clear hT hF
  refine Run.go rfl rfl rfl (sem_binI .i64 (i4) (64) (.bool true) rfl rfl (binI_lss_t hb10) ?_)
  refine Run.region_end ?_
  refine Run.condT rfl ?_
  refine Run.skip ?_
  refine Run.seq ?_
  refine Run.block ?_
  refine Run.seq ?_
  refine Run.ops0 (idx := [0, 1, 2]) rfl ?_
  refine Run.go rfl rfl rfl (sem_move ((Value.pointer p1)) rfl ?_)
  refine Run.go rfl rfl rfl (sem_callL [(Value.pointer p1), (Value.int .i64 (1))] (TF.goes_132) rfl rfl (Spec.mono hS fun v h11 hv => ?_))
  obtain ⟨s12, rfl, hS⟩ := hv
  refine Run.go rfl rfl rfl (sem_assign ((Value.string s12)) rfl ?_)
  refine Run.region_end ?_
  refine Run.seqJ (fun e h14 => Agree [(0, (Value.pointer p1)), (3, (Value.int .u64 (i3))), (4, (Value.int .i64 (i4))), (5, (Value.string s12))] e ∧ S_stylus_Reader_word_J1 B p1 i3 i4 m6 J9 s12 h14 Q) ?_ fun j13 => ?_
  ·rintro e h14 ⟨hag, hS⟩
   refine Run.env hag ?_; clear hag
   refine Run.seq ?_
   refine Run.ops0 (idx := [0, 1, 2, 3, 4, 5, 6, 7, 8]) rfl ?_
   refine Run.go rfl rfl rfl (sem_move ((Value.int .u64 (i3))) rfl ?_)
   refine Run.go rfl rfl rfl (sem_move ((Value.string s12)) rfl ?_)
   obtain ⟨hi0, hi1, hS⟩ := hS
   refine Run.go rfl rfl rfl (sem_indexStr' s12 .i64 (0) rfl rfl TF.isStr_9 hi0 hi1 ?_)
   refine Run.go rfl rfl rfl (sem_binI .u8 (byteAt s12 (Int.toNat (0))) (127) ((Value.int .u8 (IntKind.wrap .u8 ((BitVec.ofInt (IntKind.bits .u8) (byteAt s12 (Int.toNat (0))) &&& BitVec.ofInt (IntKind.bits .u8) (127)).toNat : Int)))) rfl rfl rfl ?_)
   refine Run.go rfl rfl rfl (sem_convI .u8 .u64 (IntKind.wrap .u8 ((BitVec.ofInt (IntKind.bits .u8) (byteAt s12 (Int.toNat (0))) &&& BitVec.ofInt (IntKind.bits .u8) (127)).toNat : Int)) rfl TF.int_5 TF.int_188 ?_)
   refine Run.go rfl rfl rfl (sem_move ((Value.int .i64 (i4))) rfl ?_)
   obtain ⟨hi0, hS⟩ := hS
   refine Run.go rfl rfl rfl (sem_shl .u64 .i64 (IntKind.wrap .u64 (IntKind.wrap .u8 ((BitVec.ofInt (IntKind.bits .u8) (byteAt s12 (Int.toNat (0))) &&& BitVec.ofInt (IntKind.bits .u8) (127)).toNat : Int))) (i4) rfl rfl hi0 ?_)
   refine Run.go rfl rfl rfl (sem_binI .u64 (i3) (IntKind.wrap .u64 ((IntKind.wrap .u64 (IntKind.wrap .u8 ((BitVec.ofInt (IntKind.bits .u8) (byteAt s12 (Int.toNat (0))) &&& BitVec.ofInt (IntKind.bits .u8) (127)).toNat : Int))) * 2 ^ (min (Int.toNat (i4)) (IntKind.bits .u64)))) ((Value.int .u64 (IntKind.wrap .u64 ((BitVec.ofInt (IntKind.bits .u64) (i3) ||| BitVec.ofInt (IntKind.bits .u64) (IntKind.wrap .u64 ((IntKind.wrap .u64 (IntKind.wrap .u8 ((BitVec.ofInt (IntKind.bits .u8) (byteAt s12 (Int.toNat (0))) &&& BitVec.ofInt (IntKind.bits .u8) (127)).toNat : Int))) * 2 ^ (min (Int.toNat (i4)) (IntKind.bits .u64))))).toNat : Int)))) rfl rfl rfl ?_)
   refine Run.go rfl rfl rfl (sem_assign ((Value.int .u64 (IntKind.wrap .u64 ((BitVec.ofInt (IntKind.bits .u64) (i3) ||| BitVec.ofInt (IntKind.bits .u64) (IntKind.wrap .u64 ((IntKind.wrap .u64 (IntKind.wrap .u8 ((BitVec.ofInt (IntKind.bits .u8) (byteAt s12 (Int.toNat (0))) &&& BitVec.ofInt (IntKind.bits .u8) (127)).toNat : Int))) * 2 ^ (min (Int.toNat (i4)) (IntKind.bits .u64))))).toNat : Int)))) rfl ?_)
   refine Run.region_end ?_
   refine Run.seq ?_
   refine Run.ops0 (idx := [0, 1, 2]) rfl ?_
   refine Run.go rfl rfl rfl (sem_move ((Value.string s12)) rfl ?_)
   obtain ⟨hi0, hi1, hS⟩ := hS
   refine Run.go rfl rfl rfl (sem_indexStr' s12 .i64 (0) rfl rfl TF.isStr_9 hi0 hi1 ?_)
   obtain ⟨hT, hF⟩ := hS
   by_cases hb15 : (byteAt s12 (Int.toNat (0)) : Int) < (128)
   ·have hS := hT hb15; clear hT hF
    refine Run.go rfl rfl rfl (sem_binI .u8 (byteAt s12 (Int.toNat (0))) (128) (.bool true) rfl rfl (binI_lss_t hb15) ?_)
    refine Run.region_end ?_
    refine Run.condT rfl ?_
    refine Run.seq ?_
    refine Run.ops0 (idx := [0, 1]) rfl ?_
    refine Run.go rfl rfl rfl (sem_move ((Value.int .u64 (IntKind.wrap .u64 ((BitVec.ofInt (IntKind.bits .u64) (i3) ||| BitVec.ofInt (IntKind.bits .u64) (IntKind.wrap .u64 ((IntKind.wrap .u64 (IntKind.wrap .u8 ((BitVec.ofInt (IntKind.bits .u8) (byteAt s12 (Int.toNat (0))) &&& BitVec.ofInt (IntKind.bits .u8) (127)).toNat : Int))) * 2 ^ (min (Int.toNat (i4)) (IntKind.bits .u64))))).toNat : Int)))) rfl ?_)
    refine Run.go rfl rfl rfl (sem_assign ((Value.int .u64 (IntKind.wrap .u64 ((BitVec.ofInt (IntKind.bits .u64) (i3) ||| BitVec.ofInt (IntKind.bits .u64) (IntKind.wrap .u64 ((IntKind.wrap .u64 (IntKind.wrap .u8 ((BitVec.ofInt (IntKind.bits .u8) (byteAt s12 (Int.toNat (0))) &&& BitVec.ofInt (IntKind.bits .u8) (127)).toNat : Int))) * 2 ^ (min (Int.toNat (i4)) (IntKind.bits .u64))))).toNat : Int)))) rfl ?_)
    refine Run.region_end ?_
    refine Run.ret ⟨.inr rfl, ?_⟩
    exact hS.imp fun h' hq => ⟨(IntKind.wrap .u64 ((BitVec.ofInt (IntKind.bits .u64) (i3) ||| BitVec.ofInt (IntKind.bits .u64) (IntKind.wrap .u64 ((IntKind.wrap .u64 (IntKind.wrap .u8 ((BitVec.ofInt (IntKind.bits .u8) (byteAt s12 (Int.toNat (0))) &&& BitVec.ofInt (IntKind.bits .u8) (127)).toNat : Int))) * 2 ^ (min (Int.toNat (i4)) (IntKind.bits .u64))))).toNat : Int)), rfl, hq⟩
   ·have hS := hF hb15; clear hT hF
    refine Run.go rfl rfl rfl (sem_binI .u8 (byteAt s12 (Int.toNat (0))) (128) (.bool false) rfl rfl (binI_lss_f hb15) ?_)
    refine Run.region_end ?_
    refine Run.condF rfl ?_
    refine Run.skip ?_
    refine Run.inBlock ?_
    refine Run.ops0 (idx := [0, 1, 2]) rfl ?_
    refine Run.go rfl rfl rfl (sem_move ((Value.int .i64 (i4))) rfl ?_)
    refine Run.go rfl rfl rfl (sem_binI .i64 (i4) (7) ((Value.int .i64 (IntKind.wrap .i64 ((i4) + (7))))) rfl rfl rfl ?_)
    refine Run.go rfl rfl rfl (sem_assign ((Value.int .i64 (IntKind.wrap .i64 ((i4) + (7))))) rfl ?_)
    refine Run.region_end ?_
    exact Run.of_fin (hS.imp fun h' ⟨m', hm, hS⟩ => ih8 ((IntKind.wrap .u64 ((BitVec.ofInt (IntKind.bits .u64) (i3) ||| BitVec.ofInt (IntKind.bits .u64) (IntKind.wrap .u64 ((IntKind.wrap .u64 (IntKind.wrap .u8 ((BitVec.ofInt (IntKind.bits .u8) (byteAt s12 (Int.toNat (0))) &&& BitVec.ofInt (IntKind.bits .u8) (127)).toNat : Int))) * 2 ^ (min (Int.toNat (i4)) (IntKind.bits .u64))))).toNat : Int)), (IntKind.wrap .i64 ((i4) + (7))), m') _ _ ⟨hS, ⟨rfl, rfl, rfl, trivial⟩⟩ hm)
  refine Run.seq ?_
  refine Run.ops0 (idx := [0, 1, 2, 3, 4, 5, 6, 7, 8, 9, 10, 11, 12, 13, 14, 15, 16, 17, 18, 19]) rfl ?_
  refine Run.go rfl rfl rfl (sem_move ((Value.string s12)) rfl ?_)
  obtain ⟨hT, hF⟩ := hS
  by_cases hb16 : s12 = (ByteArray.mk #[])
  ·have hS := hT hb16; clear hT hF
   refine Run.go rfl rfl rfl (sem_strEqT s12 (ByteArray.mk #[]) rfl rfl hb16 ?_)
   refine Run.go rfl rfl rfl (sem_move ((Value.bool true)) rfl ?_)
   refine Run.no rfl rfl rfl ?_
   refine Run.no rfl rfl rfl ?_
   refine Run.no rfl rfl rfl ?_
   refine Run.no rfl rfl rfl ?_
   refine Run.no rfl rfl rfl ?_
   refine Run.no rfl rfl rfl ?_
   refine Run.no rfl rfl rfl ?_
   refine Run.go rfl rfl rfl (sem_pick true ((Value.bool true)) rfl rfl ?_)
   refine Run.go rfl rfl rfl (sem_move ((Value.bool true)) rfl ?_)
   refine Run.no rfl rfl rfl ?_
   refine Run.no rfl rfl rfl ?_
   refine Run.no rfl rfl rfl ?_
   refine Run.no rfl rfl rfl ?_
   refine Run.no rfl rfl rfl ?_
   refine Run.no rfl rfl rfl ?_
   refine Run.no rfl rfl rfl ?_
   refine Run.go rfl rfl rfl (sem_pick true ((Value.bool true)) rfl rfl ?_)
   refine Run.region_end ?_
   refine Run.condT rfl ?_
   refine Run.exit rfl ?_
   refine Run.seq ?_
   refine Run.ops0 (idx := [0, 1]) rfl ?_
   refine Run.go rfl rfl rfl (sem_move ((Value.pointer p1)) rfl ?_)
   refine Run.go rfl rfl rfl (sem_callL [(Value.pointer p1)] (TF.goes_152) rfl rfl (Spec.mono hS fun v h17 hv => ?_))
   obtain ⟨rfl, hS⟩ := hv
   refine Run.region_end ?_
   refine Run.seq ?_
   refine Run.ops0 (idx := [0]) rfl ?_
   refine Run.go rfl rfl rfl (sem_assign ((Value.int .u64 (0))) rfl ?_)
   refine Run.region_end ?_
   refine Run.ret ⟨.inr rfl, ?_⟩
   exact hS.imp fun h' hq => ⟨(0), rfl, hq⟩
  ·have hS := hF hb16; clear hT hF
   refine Run.go rfl rfl rfl (sem_strEqF s12 (ByteArray.mk #[]) rfl rfl hb16 ?_)
   refine Run.go rfl rfl rfl (sem_move ((Value.bool false)) rfl ?_)
   refine Run.go rfl rfl rfl (sem_move ((Value.int .i64 (i4))) rfl ?_)
   obtain ⟨hT, hF⟩ := hS
   by_cases hb18 : (i4 : Int) = 63
   ·have hS := hT hb18; clear hT hF
    refine Run.go rfl rfl rfl (sem_binI .i64 (i4) (63) (.bool true) rfl rfl (binI_eql_t hb18) ?_)
    refine Run.go rfl rfl rfl (sem_move ((Value.bool true)) rfl ?_)
    refine Run.go rfl rfl rfl (sem_move ((Value.string s12)) rfl ?_)
    obtain ⟨hi0, hi1, hS⟩ := hS
    refine Run.go rfl rfl rfl (sem_indexStr' s12 .i64 (0) rfl rfl TF.isStr_9 hi0 hi1 ?_)
    obtain ⟨hT, hF⟩ := hS
    by_cases hb19 : (byteAt s12 (Int.toNat (0)) : Int) > (1)
    ·have hS := hT hb19; clear hT hF
     refine Run.go rfl rfl rfl (sem_binI .u8 (byteAt s12 (Int.toNat (0))) (1) (.bool true) rfl rfl (binI_gtr_t hb19) ?_)
     refine Run.go rfl rfl rfl (sem_pick true ((Value.bool true)) rfl rfl ?_)
     refine Run.go rfl rfl rfl (sem_pick false ((Value.bool true)) rfl rfl ?_)
     refine Run.go rfl rfl rfl (sem_move ((Value.bool true)) rfl ?_)
     refine Run.no rfl rfl rfl ?_
     refine Run.no rfl rfl rfl ?_
     refine Run.no rfl rfl rfl ?_
     refine Run.no rfl rfl rfl ?_
     refine Run.no rfl rfl rfl ?_
     refine Run.no rfl rfl rfl ?_
     refine Run.no rfl rfl rfl ?_
     refine Run.go rfl rfl rfl (sem_pick true ((Value.bool true)) rfl rfl ?_)
     refine Run.region_end ?_
     refine Run.condT rfl ?_
     refine Run.exit rfl ?_
     refine Run.seq ?_
     refine Run.ops0 (idx := [0, 1]) rfl ?_
     refine Run.go rfl rfl rfl (sem_move ((Value.pointer p1)) rfl ?_)
     refine Run.go rfl rfl rfl (sem_callL [(Value.pointer p1)] (TF.goes_152) rfl rfl (Spec.mono hS fun v h20 hv => ?_))
     obtain ⟨rfl, hS⟩ := hv
     refine Run.region_end ?_
     refine Run.seq ?_
     refine Run.ops0 (idx := [0]) rfl ?_
     refine Run.go rfl rfl rfl (sem_assign ((Value.int .u64 (0))) rfl ?_)
     refine Run.region_end ?_
     refine Run.ret ⟨.inr rfl, ?_⟩
     exact hS.imp fun h' hq => ⟨(0), rfl, hq⟩
    ·have hS := hF hb19; clear hT hF
     refine Run.go rfl rfl rfl (sem_binI .u8 (byteAt s12 (Int.toNat (0))) (1) (.bool false) rfl rfl (binI_gtr_f hb19) ?_)
     refine Run.go rfl rfl rfl (sem_pick true ((Value.bool false)) rfl rfl ?_)
     refine Run.go rfl rfl rfl (sem_pick false ((Value.bool false)) rfl rfl ?_)
     refine Run.go rfl rfl rfl (sem_move ((Value.bool false)) rfl ?_)
     refine Run.go rfl rfl rfl (sem_move ((Value.int .i64 (i4))) rfl ?_)
     obtain ⟨hT, hF⟩ := hS
     by_cases hb21 : (i4 : Int) > (0)
     ·have hS := hT hb21; clear hT hF
      refine Run.go rfl rfl rfl (sem_binI .i64 (i4) (0) (.bool true) rfl rfl (binI_gtr_t hb21) ?_)
      refine Run.go rfl rfl rfl (sem_move ((Value.bool true)) rfl ?_)
      refine Run.go rfl rfl rfl (sem_move ((Value.string s12)) rfl ?_)
      obtain ⟨hi0, hi1, hS⟩ := hS
      refine Run.go rfl rfl rfl (sem_indexStr' s12 .i64 (0) rfl rfl TF.isStr_9 hi0 hi1 ?_)
      obtain ⟨hT, hF⟩ := hS
      by_cases hb22 : (byteAt s12 (Int.toNat (0)) : Int) = 0
      ·have hS := hT hb22; clear hT hF
       refine Run.go rfl rfl rfl (sem_binI .u8 (byteAt s12 (Int.toNat (0))) (0) (.bool true) rfl rfl (binI_eql_t hb22) ?_)
       refine Run.go rfl rfl rfl (sem_pick true ((Value.bool true)) rfl rfl ?_)
       refine Run.go rfl rfl rfl (sem_pick false ((Value.bool true)) rfl rfl ?_)
       refine Run.region_end ?_
       refine Run.condT rfl ?_
       refine Run.exit rfl ?_
       refine Run.seq ?_
       refine Run.ops0 (idx := [0, 1]) rfl ?_
       refine Run.go rfl rfl rfl (sem_move ((Value.pointer p1)) rfl ?_)
       refine Run.go rfl rfl rfl (sem_callL [(Value.pointer p1)] (TF.goes_152) rfl rfl (Spec.mono hS fun v h23 hv => ?_))
       obtain ⟨rfl, hS⟩ := hv
       refine Run.region_end ?_
       refine Run.seq ?_
       refine Run.ops0 (idx := [0]) rfl ?_
       refine Run.go rfl rfl rfl (sem_assign ((Value.int .u64 (0))) rfl ?_)
       refine Run.region_end ?_
       refine Run.ret ⟨.inr rfl, ?_⟩
       exact hS.imp fun h' hq => ⟨(0), rfl, hq⟩
      ·have hS := hF hb22; clear hT hF
       refine Run.go rfl rfl rfl (sem_binI .u8 (byteAt s12 (Int.toNat (0))) (0) (.bool false) rfl rfl (binI_eql_f hb22) ?_)
       refine Run.go rfl rfl rfl (sem_pick true ((Value.bool false)) rfl rfl ?_)
       refine Run.go rfl rfl rfl (sem_pick false ((Value.bool false)) rfl rfl ?_)
       refine Run.region_end ?_
       refine Run.condF rfl ?_
       refine Run.skip ?_
       exact Run.of_fin (hS.imp fun h' hS => j13 _ _ ⟨⟨rfl, rfl, rfl, rfl, trivial⟩, hS⟩)
     ·have hS := hF hb21; clear hT hF
      refine Run.go rfl rfl rfl (sem_binI .i64 (i4) (0) (.bool false) rfl rfl (binI_gtr_f hb21) ?_)
      refine Run.go rfl rfl rfl (sem_move ((Value.bool false)) rfl ?_)
      refine Run.no rfl rfl rfl ?_
      refine Run.no rfl rfl rfl ?_
      refine Run.no rfl rfl rfl ?_
      refine Run.go rfl rfl rfl (sem_pick false ((Value.bool false)) rfl rfl ?_)
      refine Run.go rfl rfl rfl (sem_pick false ((Value.bool false)) rfl rfl ?_)
      refine Run.region_end ?_
      refine Run.condF rfl ?_
      refine Run.skip ?_
      exact Run.of_fin (hS.imp fun h' hS => j13 _ _ ⟨⟨rfl, rfl, rfl, rfl, trivial⟩, hS⟩)
   ·have hS := hF hb18; clear hT hF
    refine Run.go rfl rfl rfl (sem_binI .i64 (i4) (63) (.bool false) rfl rfl (binI_eql_f hb18) ?_)
    refine Run.go rfl rfl rfl (sem_move ((Value.bool false)) rfl ?_)
    refine Run.no rfl rfl rfl ?_
    refine Run.no rfl rfl rfl ?_
    refine Run.no rfl rfl rfl ?_
    refine Run.go rfl rfl rfl (sem_pick false ((Value.bool false)) rfl rfl ?_)
    refine Run.go rfl rfl rfl (sem_pick false ((Value.bool false)) rfl rfl ?_)
    refine Run.go rfl rfl rfl (sem_move ((Value.bool false)) rfl ?_)
    refine Run.go rfl rfl rfl (sem_move ((Value.int .i64 (i4))) rfl ?_)
    obtain ⟨hT, hF⟩ := hS
    by_cases hb24 : (i4 : Int) > (0)
    ·have hS := hT hb24; clear hT hF
     refine Run.go rfl rfl rfl (sem_binI .i64 (i4) (0) (.bool true) rfl rfl (binI_gtr_t hb24) ?_)
     refine Run.go rfl rfl rfl (sem_move ((Value.bool true)) rfl ?_)
     refine Run.go rfl rfl rfl (sem_move ((Value.string s12)) rfl ?_)
     obtain ⟨hi0, hi1, hS⟩ := hS
     refine Run.go rfl rfl rfl (sem_indexStr' s12 .i64 (0) rfl rfl TF.isStr_9 hi0 hi1 ?_)
     obtain ⟨hT, hF⟩ := hS
     by_cases hb25 : (byteAt s12 (Int.toNat (0)) : Int) = 0
     ·have hS := hT hb25; clear hT hF
      refine Run.go rfl rfl rfl (sem_binI .u8 (byteAt s12 (Int.toNat (0))) (0) (.bool true) rfl rfl (binI_eql_t hb25) ?_)
      refine Run.go rfl rfl rfl (sem_pick true ((Value.bool true)) rfl rfl ?_)
      refine Run.go rfl rfl rfl (sem_pick false ((Value.bool true)) rfl rfl ?_)
      refine Run.region_end ?_
      refine Run.condT rfl ?_
      refine Run.exit rfl ?_
      refine Run.seq ?_
      refine Run.ops0 (idx := [0, 1]) rfl ?_
      refine Run.go rfl rfl rfl (sem_move ((Value.pointer p1)) rfl ?_)
      refine Run.go rfl rfl rfl (sem_callL [(Value.pointer p1)] (TF.goes_152) rfl rfl (Spec.mono hS fun v h26 hv => ?_))
      obtain ⟨rfl, hS⟩ := hv
      refine Run.region_end ?_
      refine Run.seq ?_
      refine Run.ops0 (idx := [0]) rfl ?_
      refine Run.go rfl rfl rfl (sem_assign ((Value.int .u64 (0))) rfl ?_)
      refine Run.region_end ?_
      refine Run.ret ⟨.inr rfl, ?_⟩
      exact hS.imp fun h' hq => ⟨(0), rfl, hq⟩
     ·have hS := hF hb25; clear hT hF
      refine Run.go rfl rfl rfl (sem_binI .u8 (byteAt s12 (Int.toNat (0))) (0) (.bool false) rfl rfl (binI_eql_f hb25) ?_)
      refine Run.go rfl rfl rfl (sem_pick true ((Value.bool false)) rfl rfl ?_)
      refine Run.go rfl rfl rfl (sem_pick false ((Value.bool false)) rfl rfl ?_)
      refine Run.region_end ?_
      refine Run.condF rfl ?_
      refine Run.skip ?_
      exact Run.of_fin (hS.imp fun h' hS => j13 _ _ ⟨⟨rfl, rfl, rfl, rfl, trivial⟩, hS⟩)
    ·have hS := hF hb24; clear hT hF
     refine Run.go rfl rfl rfl (sem_binI .i64 (i4) (0) (.bool false) rfl rfl (binI_gtr_f hb24) ?_)
     refine Run.go rfl rfl rfl (sem_move ((Value.bool false)) rfl ?_)
     refine Run.no rfl rfl rfl ?_
     refine Run.no rfl rfl rfl ?_
     refine Run.no rfl rfl rfl ?_
     refine Run.go rfl rfl rfl (sem_pick false ((Value.bool false)) rfl rfl ?_)
     refine Run.go rfl rfl rfl (sem_pick false ((Value.bool false)) rfl rfl ?_)
     refine Run.region_end ?_
     refine Run.condF rfl ?_
     refine Run.skip ?_
     exact Run.of_fin (hS.imp fun h' hS => j13 _ _ ⟨⟨rfl, rfl, rfl, rfl, trivial⟩, hS⟩)
 ·have hS := hF hb10; clear hT hF
  refine Run.go rfl rfl rfl (sem_binI .i64 (i4) (64) (.bool false) rfl rfl (binI_lss_f hb10) ?_)
  refine Run.region_end ?_
  refine Run.condF rfl ?_
  refine Run.exit rfl ?_
  refine Run.seq ?_
  refine Run.ops0 (idx := [0, 1]) rfl ?_
  refine Run.go rfl rfl rfl (sem_move ((Value.pointer p1)) rfl ?_)
  refine Run.go rfl rfl rfl (sem_callL [(Value.pointer p1)] (TF.goes_152) rfl rfl (Spec.mono hS fun v h27 hv => ?_))
  obtain ⟨rfl, hS⟩ := hv
  refine Run.region_end ?_
  refine Run.seq ?_
  refine Run.ops0 (idx := [0]) rfl ?_
  refine Run.go rfl rfl rfl (sem_assign ((Value.int .u64 (0))) rfl ?_)
  refine Run.region_end ?_
  refine Run.ret ⟨.inr rfl, ?_⟩
  exact hS.imp fun h' hq => ⟨(0), rfl, hq⟩
set_option maxHeartbeats 4000000 in
theorem C_stylus_Reader_Spoil.of {B : RO} {p1 : Option Addr} {h : Heap} {Q : Heap → Prop} (hS : S_stylus_Reader_Spoil B p1 h Q) : C_stylus_Reader_Spoil B p1 h Q := by
 unfold S_stylus_Reader_Spoil at hS
 unfold C_stylus_Reader_Spoil
 refine Spec.of_run Try.func152 (N := 10) (rs := []) rfl rfl rfl (Nat.le_of_ble_eq_true rfl) ?_
 refine Run.seq ?_
 refine Run.ops0 (idx := [0, 1]) rfl ?_
 refine Run.go rfl rfl rfl (sem_move ((Value.pointer p1)) rfl ?_)
 obtain ⟨hT, hF⟩ := hS
 by_cases hb2 : p1 = none
 ·have hS := hT hb2; clear hT hF
  refine Run.go rfl rfl rfl (sem_ptrNilT p1 (.inr rfl) false rfl rfl TF.ptr_202 hb2 rfl ?_)
  refine Run.region_end ?_
  refine Run.condF rfl ?_
  refine Run.skip ?_
  refine Run.fall ⟨.inl rfl, ?_⟩
  exact hS.imp fun h' hq => ⟨rfl, hq⟩
 ·have hS := hF hb2; clear hT hF
  refine Run.go rfl rfl rfl (sem_ptrNilF p1 (.inr rfl) true rfl rfl TF.ptr_202 hb2 rfl ?_)
  refine Run.region_end ?_
  refine Run.condT rfl ?_
  refine Run.ops0 (idx := [0, 1, 2, 3, 4, 5, 6, 7]) rfl ?_
  refine Run.go rfl rfl rfl (sem_move ((Value.pointer p1)) rfl ?_)
  refine Run.go rfl rfl rfl (sem_move ((Value.pointer p1)) rfl ?_)
  obtain ⟨A3, e4, hS⟩ := hS
  refine Run.go rfl rfl rfl (sem_nilCheck A3 (congrArg Value.pointer e4) ?_)
  refine Run.go rfl rfl rfl (sem_fieldAddr A3 0 rfl TF.fld_222_0 ?_)
  obtain ⟨h5, hst, hS⟩ := hS
  refine Run.go rfl rfl rfl (sem_store1 A3 ((Value.string (ByteArray.mk #[]))) h5 rfl rfl rfl TF.sz_9 hst ?_)
  obtain ⟨A6, e7, hS⟩ := hS
  refine Run.go rfl rfl rfl (sem_nilCheck A6 (congrArg Value.pointer e7) ?_)
  refine Run.go rfl rfl rfl (sem_fieldAddr A6 1 rfl TF.fld_222_1 ?_)
  obtain ⟨h8, hst, hS⟩ := hS
  refine Run.go rfl rfl rfl (sem_store1 (Addr.add A6 1) ((Value.bool true)) h8 rfl rfl rfl TF.sz_4 hst ?_)
  refine Run.region_end ?_
  refine Run.fall ⟨.inl rfl, ?_⟩
  exact hS.imp fun h' hq => ⟨rfl, hq⟩
end Go.Proofs.Ytcncdfmnpmmikaa.H
