/- The functions do what they ask for. No condition. -/
import Derived.Test.YtcncdfmnpmmikaaXvS
namespace Go.Proofs.Ytcncdfmnpmmikaa.H
open Go
set_option linter.unusedVariables false
set_option maxRecDepth 100000

set_option maxHeartbeats 4000000 in
theorem C_countermandlaw05_VaultSettles.of {B : RO} {s1 : ByteArray} {a2 : Option Addr} {n3 : Nat} {c4 : Nat} {s5 : ByteArray} {i6 : Int} {i7 : Int} {h : Heap} {Q : Bool → Heap → Prop} (hS : S_countermandlaw05_VaultSettles B s1 a2 n3 c4 s5 i6 i7 h Q) : C_countermandlaw05_VaultSettles B s1 a2 n3 c4 s5 i6 i7 h Q := by
 unfold S_countermandlaw05_VaultSettles at hS
 unfold C_countermandlaw05_VaultSettles
 refine Spec.of_run Try.func4 (N := 131) (rs := [ResultVar.tmp 10]) rfl rfl rfl (Nat.le_of_ble_eq_true rfl) ?_
 refine Run.seq ?_
 refine Run.ops0 (idx := [0]) rfl ?_
 refine Run.go rfl rfl rfl (sem_assign ((Value.bool false)) rfl ?_)
 refine Run.region_end ?_
 refine Run.seq ?_
 refine Run.seq ?_
 refine Run.ops0 (idx := [0, 1]) rfl ?_
 refine Run.go rfl rfl rfl (sem_callL [] (TF.goes_24) rfl rfl (Spec.mono hS fun v h9 hv => ?_))
 obtain ⟨b10, rfl, hS⟩ := hv
 obtain ⟨hT, hF⟩ := hS
 cases b10
 ·have hS := hF rfl; clear hT hF
  refine Run.go rfl rfl rfl (sem_not false rfl ?_)
  refine Run.region_end ?_
  refine Run.condT rfl ?_
  refine Run.seq ?_
  refine Run.ops0 (idx := [0]) rfl ?_
  refine Run.go rfl rfl rfl (sem_assign ((Value.bool false)) rfl ?_)
  refine Run.region_end ?_
  refine Run.ret ⟨.inr rfl, ?_⟩
  exact hS.imp fun h' hq => ⟨(false), rfl, hq⟩
 ·have hS := hT rfl; clear hT hF
  refine Run.go rfl rfl rfl (sem_not true rfl ?_)
  refine Run.region_end ?_
  refine Run.condF rfl ?_
  refine Run.skip ?_
  refine Run.seqJ (fun e h12 => Agree [(0, (Value.string s1)), (1, (Value.slice a2 n3 c4)), (2, (Value.string s5)), (3, (Value.int .i64 (i6))), (4, (Value.int .i64 (i7)))] e ∧ S_countermandlaw05_VaultSettles_J1 B s1 a2 n3 c4 s5 i6 i7 h12 Q) ?_ fun j11 => ?_
  ·rintro e h12 ⟨hag, hS⟩
   refine Run.env hag ?_; clear hag
   refine Run.seq ?_
   refine Run.ops0 (idx := [0, 1]) rfl ?_
   refine Run.go rfl rfl rfl (sem_callL [] (TF.goes_26) rfl rfl (Spec.mono hS fun v h13 hv => ?_))
   obtain ⟨p14, rfl, hS⟩ := hv
   refine Run.go rfl rfl rfl (sem_assign ((Value.pointer p14)) rfl ?_)
   refine Run.region_end ?_
   refine Run.seq ?_
   refine Run.ops0 (idx := [0, 1, 2, 3, 4, 5, 6, 7, 8, 9]) rfl ?_
   refine Run.go rfl rfl rfl (sem_move ((Value.pointer p14)) rfl ?_)
   refine Run.go rfl rfl rfl (sem_callL [(Value.pointer p14)] (TF.goes_27) rfl rfl (Spec.mono hS fun v h15 hv => ?_))
   obtain ⟨p16, s17, a18, n19, c20, i21, rfl, hS⟩ := hv
   refine Run.go rfl rfl rfl (sem_move ((Value.tuple #[(Value.pointer p16), (Value.agg #[(Value.string s17), (Value.slice a18 n19 c20)]), (Value.int .i64 (i21))])) rfl ?_)
   refine Run.go rfl rfl rfl (sem_extract #[(Value.pointer p16), (Value.agg #[(Value.string s17), (Value.slice a18 n19 c20)]), (Value.int .i64 (i21))] ((Value.pointer p16)) rfl rfl ?_)
   refine Run.go rfl rfl rfl (sem_extract #[(Value.pointer p16), (Value.agg #[(Value.string s17), (Value.slice a18 n19 c20)]), (Value.int .i64 (i21))] ((Value.agg #[(Value.string s17), (Value.slice a18 n19 c20)])) rfl rfl ?_)
   refine Run.go rfl rfl rfl (sem_extract #[(Value.pointer p16), (Value.agg #[(Value.string s17), (Value.slice a18 n19 c20)]), (Value.int .i64 (i21))] ((Value.int .i64 (i21))) rfl rfl ?_)
   refine Run.go rfl rfl rfl (sem_allocN [(Value.string ByteArray.empty), (Value.slice none 0 0)] TF.zero_51 (fun k22 hb1 hb2 h23 hb3 => ?_))
   have hS := hS k22 hb1 hb2 h23 hb3
   refine Run.go rfl rfl rfl (sem_assign ((Value.pointer p16)) rfl ?_)
   obtain ⟨h24, hst, hS⟩ := hS
   refine Run.go rfl rfl rfl (sem_storeN ⟨k22, 0, none⟩ [(Value.string s17), (Value.slice a18 n19 c20)] h24 rfl rfl TF.sz_51 hst ?_)
   refine Run.go rfl rfl rfl (sem_assign ((Value.int .i64 (i21))) rfl ?_)
   refine Run.region_end ?_
   refine Run.seq ?_
   refine Run.ops0 (idx := [0, 1, 2]) rfl ?_
   refine Run.go rfl rfl rfl (sem_move ((Value.pointer p16)) rfl ?_)
   refine Run.go rfl rfl rfl (sem_move ((Value.string s1)) rfl ?_)
   refine Run.go rfl rfl rfl (sem_callL [(Value.pointer p16), (Value.string s1)] (TF.goes_28) rfl rfl (Spec.mono hS fun v h25 hv => ?_))
   obtain ⟨i26, rfl, hS⟩ := hv
   refine Run.region_end ?_
   refine Run.seq ?_
   refine Run.ops0 (idx := [0]) rfl ?_
   refine Run.go rfl rfl rfl (sem_assign ((Value.slice none 0 0)) rfl ?_)
   refine Run.region_end ?_
   refine Run.seqJ (fun e h31 => ∃ a28 : Option Addr, ∃ n29 : Nat, ∃ c30 : Nat, Agree [(0, (Value.string s1)), (2, (Value.string s5)), (3, (Value.int .i64 (i6))), (4, (Value.int .i64 (i7))), (11, (Value.pointer p14)), (12, (Value.pointer p16)), (15, (Value.slice a28 n29 c30))] e ∧ S_countermandlaw05_VaultSettles_J2 B s1 s5 i6 i7 p14 p16 a28 n29 c30 h31 Q) ?_ fun j27 => ?_
   ·rintro e h31 ⟨a28, n29, c30, hag, hS⟩
    refine Run.env hag ?_; clear hag
    refine Run.seq ?_
    refine Run.ops0 (idx := [0, 1]) rfl ?_
    refine Run.go rfl rfl rfl (sem_move ((Value.pointer p16)) rfl ?_)
    refine Run.go rfl rfl rfl (sem_callL [(Value.pointer p16)] (TF.goes_30) rfl rfl (Spec.mono hS fun v h32 hv => ?_))
    obtain ⟨rfl, hS⟩ := hv
    refine Run.region_end ?_
    refine Run.seq ?_
    refine Run.ops0 (idx := [0, 1, 2]) rfl ?_
    refine Run.go rfl rfl rfl (sem_move ((Value.string s5)) rfl ?_)
    refine Run.go rfl rfl rfl (sem_callL [(Value.int .i64 (2)), (Value.string s5)] (TF.goes_31) rfl rfl (Spec.mono hS fun v h33 hv => ?_))
    obtain ⟨s34, rfl, hS⟩ := hv
    refine Run.go rfl rfl rfl (sem_assign ((Value.string s34)) rfl ?_)
    refine Run.region_end ?_
    refine Run.seq ?_
    refine Run.ops0 (idx := [0, 1, 2, 3, 4]) rfl ?_
    refine Run.go rfl rfl rfl (sem_move ((Value.int .i64 (i6))) rfl ?_)
    refine Run.go rfl rfl rfl (sem_convI .i64 .u64 (i6) rfl TF.int_3 TF.int_57 ?_)
    obtain ⟨hi0, hS⟩ := hS
    refine Run.go rfl rfl rfl (sem_binI .u64 (IntKind.wrap .u64 (i6)) (4) ((Value.int .u64 (Int.tmod (IntKind.wrap .u64 (i6)) (4)))) rfl rfl (binI_rem hi0) ?_)
    refine Run.go rfl rfl rfl (sem_convI .u64 .i64 (Int.tmod (IntKind.wrap .u64 (i6)) (4)) rfl TF.int_57 TF.int_3 ?_)
    refine Run.go rfl rfl rfl (sem_assign ((Value.int .i64 (IntKind.wrap .i64 (Int.tmod (IntKind.wrap .u64 (i6)) (4))))) rfl ?_)
    refine Run.region_end ?_
    refine Run.seqJ (fun e h36 => Agree [(0, (Value.string s1)), (2, (Value.string s5)), (4, (Value.int .i64 (i7))), (11, (Value.pointer p14)), (15, (Value.slice a28 n29 c30)), (18, (Value.string s34)), (19, (Value.int .i64 (IntKind.wrap .i64 (Int.tmod (IntKind.wrap .u64 (i6)) (4)))))] e ∧ S_countermandlaw05_VaultSettles_J3 B s1 s5 i6 i7 p14 a28 n29 c30 s34 h36 Q) ?_ fun j35 => ?_
    ·rintro e h36 ⟨hag, hS⟩
     refine Run.env hag ?_; clear hag
     refine Run.seqJ (fun e h38 => Agree [(0, (Value.string s1)), (2, (Value.string s5)), (4, (Value.int .i64 (i7))), (11, (Value.pointer p14)), (15, (Value.slice a28 n29 c30)), (19, (Value.int .i64 (IntKind.wrap .i64 (Int.tmod (IntKind.wrap .u64 (i6)) (4)))))] e ∧ S_countermandlaw05_VaultSettles_J4 B s1 s5 i6 i7 p14 a28 n29 c30 h38 Q) ?_ fun j37 => ?_
     ·rintro e h38 ⟨hag, hS⟩
      refine Run.env hag ?_; clear hag
      refine Run.seqJ (fun e h40 => Agree [(0, (Value.string s1)), (2, (Value.string s5)), (11, (Value.pointer p14)), (15, (Value.slice a28 n29 c30)), (19, (Value.int .i64 (IntKind.wrap .i64 (Int.tmod (IntKind.wrap .u64 (i6)) (4)))))] e ∧ S_countermandlaw05_VaultSettles_J5 B s1 s5 i6 p14 a28 n29 c30 h40 Q) ?_ fun j39 => ?_
      ·rintro e h40 ⟨hag, hS⟩
       refine Run.env hag ?_; clear hag
       refine Run.seq ?_
       refine Run.ops0 (idx := [0, 1, 2, 3, 4, 5, 6, 7, 8, 9]) rfl ?_
       refine Run.go rfl rfl rfl (sem_move ((Value.pointer p14)) rfl ?_)
       refine Run.go rfl rfl rfl (sem_callL [(Value.pointer p14)] (TF.goes_27) rfl rfl (Spec.mono hS fun v h41 hv => ?_))
       obtain ⟨p42, s43, a44, n45, c46, i47, rfl, hS⟩ := hv
       refine Run.go rfl rfl rfl (sem_move ((Value.tuple #[(Value.pointer p42), (Value.agg #[(Value.string s43), (Value.slice a44 n45 c46)]), (Value.int .i64 (i47))])) rfl ?_)
       refine Run.go rfl rfl rfl (sem_extract #[(Value.pointer p42), (Value.agg #[(Value.string s43), (Value.slice a44 n45 c46)]), (Value.int .i64 (i47))] ((Value.pointer p42)) rfl rfl ?_)
       refine Run.go rfl rfl rfl (sem_extract #[(Value.pointer p42), (Value.agg #[(Value.string s43), (Value.slice a44 n45 c46)]), (Value.int .i64 (i47))] ((Value.agg #[(Value.string s43), (Value.slice a44 n45 c46)])) rfl rfl ?_)
       refine Run.go rfl rfl rfl (sem_extract #[(Value.pointer p42), (Value.agg #[(Value.string s43), (Value.slice a44 n45 c46)]), (Value.int .i64 (i47))] ((Value.int .i64 (i47))) rfl rfl ?_)
       refine Run.go rfl rfl rfl (sem_allocN [(Value.string ByteArray.empty), (Value.slice none 0 0)] TF.zero_51 (fun k48 hb1 hb2 h49 hb3 => ?_))
       have hS := hS k48 hb1 hb2 h49 hb3
       refine Run.go rfl rfl rfl (sem_assign ((Value.pointer p42)) rfl ?_)
       obtain ⟨h50, hst, hS⟩ := hS
       refine Run.go rfl rfl rfl (sem_storeN ⟨k48, 0, none⟩ [(Value.string s43), (Value.slice a44 n45 c46)] h50 rfl rfl TF.sz_51 hst ?_)
       refine Run.go rfl rfl rfl (sem_assign ((Value.int .i64 (i47))) rfl ?_)
       refine Run.region_end ?_
       refine Run.seq ?_
       refine Run.seq ?_
       refine Run.ops0 (idx := [0, 1]) rfl ?_
       refine Run.go rfl rfl rfl (sem_move ((Value.int .i64 (i47))) rfl ?_)
       obtain ⟨hT, hF⟩ := hS
       by_cases hb51 : (i47 : Int) = 0
       ·have hS := hT hb51; clear hT hF
        refine Run.go rfl rfl rfl (sem_binI .i64 (i47) (0) (.bool false) rfl rfl (binI_neq_t hb51) ?_)
        refine Run.region_end ?_
        refine Run.condF rfl ?_
        refine Run.skip ?_
        refine Run.seqJ (fun e h53 => Agree [(0, (Value.string s1)), (15, (Value.slice a28 n29 c30)), (19, (Value.int .i64 (IntKind.wrap .i64 (Int.tmod (IntKind.wrap .u64 (i6)) (4))))), (21, (Value.pointer (some ⟨k48, 0, none⟩)))] e ∧ S_countermandlaw05_VaultSettles_J6 B s1 i6 a28 n29 c30 k48 h53 Q) ?_ fun j52 => ?_
        ·rintro e h53 ⟨hag, hS⟩
         refine Run.env hag ?_; clear hag
         refine Run.seq ?_
         refine Run.ops0 (idx := [0, 1, 2, 3, 4, 5, 6, 7, 8, 9, 10, 11, 12, 13, 14]) rfl ?_
         refine Run.go rfl rfl rfl (sem_move ((Value.int .i64 (IntKind.wrap .i64 (Int.tmod (IntKind.wrap .u64 (i6)) (4))))) rfl ?_)
         obtain ⟨hT, hF⟩ := hS
         by_cases hb54 : (IntKind.wrap .i64 (Int.tmod (IntKind.wrap .u64 (i6)) (4)) : Int) < (3)
         ·have hS := hT hb54; clear hT hF
          refine Run.go rfl rfl rfl (sem_binI .i64 (IntKind.wrap .i64 (Int.tmod (IntKind.wrap .u64 (i6)) (4))) (3) (.bool true) rfl rfl (binI_lss_t hb54) ?_)
          refine Run.go rfl rfl rfl (sem_move ((Value.bool true)) rfl ?_)
          refine Run.go rfl rfl rfl (sem_fieldAddr ⟨k48, 0, none⟩ 0 rfl TF.fld_51_0 ?_)
          obtain ⟨s55, hl, hS⟩ := hS
          refine Run.go rfl rfl rfl (sem_load1 ⟨k48, 0, none⟩ ((Value.string s55)) rfl TF.agg_9 hl ?_)
          refine Run.go rfl rfl rfl (sem_move ((Value.string s1)) rfl ?_)
          obtain ⟨hT, hF⟩ := hS
          by_cases hb56 : s55 = s1
          ·have hS := hT hb56; clear hT hF
           refine Run.go rfl rfl rfl (sem_strEqT s55 s1 rfl rfl hb56 ?_)
           refine Run.go rfl rfl rfl (sem_pick true ((Value.bool true)) rfl rfl ?_)
           refine Run.go rfl rfl rfl (sem_move ((Value.bool true)) rfl ?_)
           refine Run.go rfl rfl rfl (sem_fieldAddr ⟨k48, 0, none⟩ 1 rfl TF.fld_51_1 ?_)
           refine Run.ldSl hS fun a57 n58 c59 h60 hl hS => ?_
           refine Run.go rfl rfl rfl (sem_load1 ⟨k48, 1, none⟩ ((Value.slice a57 n58 c59)) rfl TF.agg_45 hl ?_)
           refine Run.go rfl rfl rfl (sem_move ((Value.slice a28 n29 c30)) rfl ?_)
           refine Run.go rfl rfl rfl (sem_callL [(Value.slice a57 n58 c59), (Value.slice a28 n29 c30)] (TF.goes_36) rfl rfl (Spec.mono hS fun v h61 hv => ?_))
           obtain ⟨b62, rfl, hS⟩ := hv
           refine Run.go rfl rfl rfl (sem_pick true ((Value.bool b62)) rfl rfl ?_)
           refine Run.go rfl rfl rfl (sem_assign ((Value.bool b62)) rfl ?_)
           refine Run.region_end ?_
           refine Run.ret ⟨.inr rfl, ?_⟩
           exact hS.imp fun h' hq => ⟨(b62), rfl, hq⟩
          ·have hS := hF hb56; clear hT hF
           refine Run.go rfl rfl rfl (sem_strEqF s55 s1 rfl rfl hb56 ?_)
           refine Run.go rfl rfl rfl (sem_pick true ((Value.bool false)) rfl rfl ?_)
           refine Run.go rfl rfl rfl (sem_move ((Value.bool false)) rfl ?_)
           refine Run.no rfl rfl rfl ?_
           refine Run.no rfl rfl rfl ?_
           refine Run.no rfl rfl rfl ?_
           refine Run.no rfl rfl rfl ?_
           refine Run.go rfl rfl rfl (sem_pick false ((Value.bool false)) rfl rfl ?_)
           refine Run.go rfl rfl rfl (sem_assign ((Value.bool false)) rfl ?_)
           refine Run.region_end ?_
           refine Run.ret ⟨.inr rfl, ?_⟩
           exact hS.imp fun h' hq => ⟨(false), rfl, hq⟩
         ·have hS := hF hb54; clear hT hF
          refine Run.go rfl rfl rfl (sem_binI .i64 (IntKind.wrap .i64 (Int.tmod (IntKind.wrap .u64 (i6)) (4))) (3) (.bool false) rfl rfl (binI_lss_f hb54) ?_)
          refine Run.go rfl rfl rfl (sem_move ((Value.bool false)) rfl ?_)
          refine Run.no rfl rfl rfl ?_
          refine Run.no rfl rfl rfl ?_
          refine Run.no rfl rfl rfl ?_
          refine Run.no rfl rfl rfl ?_
          refine Run.go rfl rfl rfl (sem_pick false ((Value.bool false)) rfl rfl ?_)
          refine Run.go rfl rfl rfl (sem_move ((Value.bool false)) rfl ?_)
          refine Run.no rfl rfl rfl ?_
          refine Run.no rfl rfl rfl ?_
          refine Run.no rfl rfl rfl ?_
          refine Run.no rfl rfl rfl ?_
          refine Run.go rfl rfl rfl (sem_pick false ((Value.bool false)) rfl rfl ?_)
          refine Run.go rfl rfl rfl (sem_assign ((Value.bool false)) rfl ?_)
          refine Run.region_end ?_
          refine Run.ret ⟨.inr rfl, ?_⟩
          exact hS.imp fun h' hq => ⟨(false), rfl, hq⟩
        refine Run.seq ?_
        refine Run.ops0 (idx := [0, 1, 2, 3, 4, 5, 6, 7, 8, 9, 10, 11, 12, 13]) rfl ?_
        refine Run.go rfl rfl rfl (sem_fieldAddr ⟨k48, 0, none⟩ 0 rfl TF.fld_51_0 ?_)
        obtain ⟨s63, hl, hS⟩ := hS
        refine Run.go rfl rfl rfl (sem_load1 ⟨k48, 0, none⟩ ((Value.string s63)) rfl TF.agg_9 hl ?_)
        refine Run.go rfl rfl rfl (sem_move ((Value.string s5)) rfl ?_)
        obtain ⟨hT, hF⟩ := hS
        by_cases hb64 : s63 = s5
        ·have hS := hT hb64; clear hT hF
         refine Run.go rfl rfl rfl (sem_strEqT s63 s5 rfl rfl hb64 ?_)
         refine Run.go rfl rfl rfl (sem_move ((Value.bool true)) rfl ?_)
         refine Run.go rfl rfl rfl (sem_fieldAddr ⟨k48, 0, none⟩ 1 rfl TF.fld_51_1 ?_)
         refine Run.ldSl hS fun a65 n66 c67 h68 hl hS => ?_
         refine Run.go rfl rfl rfl (sem_load1 ⟨k48, 1, none⟩ ((Value.slice a65 n66 c67)) rfl TF.agg_45 hl ?_)
         refine Run.go rfl rfl rfl (sem_lenSl a65 n66 c67 rfl TF.sl_45 ?_)
         obtain ⟨hT, hF⟩ := hS
         by_cases hb69 : ((n66 : Nat) : Int) = 0
         ·have hS := hT hb69; clear hT hF
          refine Run.go rfl rfl rfl (sem_binI .i64 ((n66 : Nat)) (0) (.bool true) rfl rfl (binI_eql_t hb69) ?_)
          refine Run.go rfl rfl rfl (sem_pick true ((Value.bool true)) rfl rfl ?_)
          refine Run.go rfl rfl rfl (sem_move ((Value.bool true)) rfl ?_)
          refine Run.go rfl rfl rfl (sem_move ((Value.int .i64 (IntKind.wrap .i64 (Int.tmod (IntKind.wrap .u64 (i6)) (4))))) rfl ?_)
          obtain ⟨hT, hF⟩ := hS
          by_cases hb70 : (IntKind.wrap .i64 (Int.tmod (IntKind.wrap .u64 (i6)) (4)) : Int) > (1)
          ·have hS := hT hb70; clear hT hF
           refine Run.go rfl rfl rfl (sem_binI .i64 (IntKind.wrap .i64 (Int.tmod (IntKind.wrap .u64 (i6)) (4))) (1) (.bool true) rfl rfl (binI_gtr_t hb70) ?_)
           refine Run.go rfl rfl rfl (sem_pick true ((Value.bool true)) rfl rfl ?_)
           refine Run.region_end ?_
           refine Run.condT rfl ?_
           refine Run.seq ?_
           refine Run.ops0 (idx := [0]) rfl ?_
           refine Run.go rfl rfl rfl (sem_assign ((Value.bool true)) rfl ?_)
           refine Run.region_end ?_
           refine Run.ret ⟨.inr rfl, ?_⟩
           exact hS.imp fun h' hq => ⟨(true), rfl, hq⟩
          ·have hS := hF hb70; clear hT hF
           refine Run.go rfl rfl rfl (sem_binI .i64 (IntKind.wrap .i64 (Int.tmod (IntKind.wrap .u64 (i6)) (4))) (1) (.bool false) rfl rfl (binI_gtr_f hb70) ?_)
           refine Run.go rfl rfl rfl (sem_pick true ((Value.bool false)) rfl rfl ?_)
           refine Run.region_end ?_
           refine Run.condF rfl ?_
           refine Run.skip ?_
           exact Run.of_fin (hS.imp fun h' hS => j52 _ _ ⟨⟨rfl, rfl, rfl, rfl, trivial⟩, hS⟩)
         ·have hS := hF hb69; clear hT hF
          refine Run.go rfl rfl rfl (sem_binI .i64 ((n66 : Nat)) (0) (.bool false) rfl rfl (binI_eql_f hb69) ?_)
          refine Run.go rfl rfl rfl (sem_pick true ((Value.bool false)) rfl rfl ?_)
          refine Run.go rfl rfl rfl (sem_move ((Value.bool false)) rfl ?_)
          refine Run.no rfl rfl rfl ?_
          refine Run.no rfl rfl rfl ?_
          refine Run.go rfl rfl rfl (sem_pick false ((Value.bool false)) rfl rfl ?_)
          refine Run.region_end ?_
          refine Run.condF rfl ?_
          refine Run.skip ?_
          exact Run.of_fin (hS.imp fun h' hS => j52 _ _ ⟨⟨rfl, rfl, rfl, rfl, trivial⟩, hS⟩)
        ·have hS := hF hb64; clear hT hF
         refine Run.go rfl rfl rfl (sem_strEqF s63 s5 rfl rfl hb64 ?_)
         refine Run.go rfl rfl rfl (sem_move ((Value.bool false)) rfl ?_)
         refine Run.no rfl rfl rfl ?_
         refine Run.no rfl rfl rfl ?_
         refine Run.no rfl rfl rfl ?_
         refine Run.no rfl rfl rfl ?_
         refine Run.go rfl rfl rfl (sem_pick false ((Value.bool false)) rfl rfl ?_)
         refine Run.go rfl rfl rfl (sem_move ((Value.bool false)) rfl ?_)
         refine Run.no rfl rfl rfl ?_
         refine Run.no rfl rfl rfl ?_
         refine Run.go rfl rfl rfl (sem_pick false ((Value.bool false)) rfl rfl ?_)
         refine Run.region_end ?_
         refine Run.condF rfl ?_
         refine Run.skip ?_
         exact Run.of_fin (hS.imp fun h' hS => j52 _ _ ⟨⟨rfl, rfl, rfl, rfl, trivial⟩, hS⟩)
       ·have hS := hF hb51; clear hT hF
        refine Run.go rfl rfl rfl (sem_binI .i64 (i47) (0) (.bool true) rfl rfl (binI_neq_f hb51) ?_)
        refine Run.region_end ?_
        refine Run.condT rfl ?_
        refine Run.seq ?_
        refine Run.ops0 (idx := [0]) rfl ?_
        refine Run.go rfl rfl rfl (sem_assign ((Value.bool false)) rfl ?_)
        refine Run.region_end ?_
        refine Run.ret ⟨.inr rfl, ?_⟩
        exact hS.imp fun h' hq => ⟨(false), rfl, hq⟩
      refine Run.seq ?_
      refine Run.ops0 (idx := [0, 1]) rfl ?_
      refine Run.go rfl rfl rfl (sem_move ((Value.int .i64 (IntKind.wrap .i64 (Int.tmod (IntKind.wrap .u64 (i6)) (4))))) rfl ?_)
      obtain ⟨hT, hF⟩ := hS
      by_cases hb71 : (IntKind.wrap .i64 (Int.tmod (IntKind.wrap .u64 (i6)) (4)) : Int) > (2)
      ·have hS := hT hb71; clear hT hF
       refine Run.go rfl rfl rfl (sem_binI .i64 (IntKind.wrap .i64 (Int.tmod (IntKind.wrap .u64 (i6)) (4))) (2) (.bool true) rfl rfl (binI_gtr_t hb71) ?_)
       refine Run.region_end ?_
       refine Run.condT rfl ?_
       refine Run.seq ?_
       refine Run.ops0 (idx := [0, 1]) rfl ?_
       refine Run.go rfl rfl rfl (sem_move ((Value.pointer p14)) rfl ?_)
       refine Run.go rfl rfl rfl (sem_callL [(Value.pointer p14), (Value.int .i64 (1))] (TF.goes_32) rfl rfl (Spec.mono hS fun v h72 hv => ?_))
       obtain ⟨i73, rfl, hS⟩ := hv
       refine Run.region_end ?_
       refine Run.ops0 (idx := [0, 1, 2]) rfl ?_
       refine Run.go rfl rfl rfl (sem_move ((Value.pointer p14)) rfl ?_)
       refine Run.go rfl rfl rfl (sem_move ((Value.int .i64 (i7))) rfl ?_)
       refine Run.go rfl rfl rfl (sem_callL [(Value.pointer p14), (Value.int .i64 (i7)), (Value.int .i64 (0))] (TF.goes_35) rfl rfl (Spec.mono hS fun v h74 hv => ?_))
       obtain ⟨rfl, hS⟩ := hv
       refine Run.region_end ?_
       exact Run.of_fin (hS.imp fun h' hS => j39 _ _ ⟨⟨rfl, rfl, rfl, rfl, rfl, trivial⟩, hS⟩)
      ·have hS := hF hb71; clear hT hF
       refine Run.go rfl rfl rfl (sem_binI .i64 (IntKind.wrap .i64 (Int.tmod (IntKind.wrap .u64 (i6)) (4))) (2) (.bool false) rfl rfl (binI_gtr_f hb71) ?_)
       refine Run.region_end ?_
       refine Run.condF rfl ?_
       refine Run.skip ?_
       exact Run.of_fin (hS.imp fun h' hS => j39 _ _ ⟨⟨rfl, rfl, rfl, rfl, rfl, trivial⟩, hS⟩)
     refine Run.seq ?_
     refine Run.ops0 (idx := [0, 1]) rfl ?_
     refine Run.go rfl rfl rfl (sem_move ((Value.int .i64 (IntKind.wrap .i64 (Int.tmod (IntKind.wrap .u64 (i6)) (4))))) rfl ?_)
     obtain ⟨hT, hF⟩ := hS
     by_cases hb75 : (IntKind.wrap .i64 (Int.tmod (IntKind.wrap .u64 (i6)) (4)) : Int) > (1)
     ·have hS := hT hb75; clear hT hF
      refine Run.go rfl rfl rfl (sem_binI .i64 (IntKind.wrap .i64 (Int.tmod (IntKind.wrap .u64 (i6)) (4))) (1) (.bool true) rfl rfl (binI_gtr_t hb75) ?_)
      refine Run.region_end ?_
      refine Run.condT rfl ?_
      refine Run.seq ?_
      refine Run.ops0 (idx := [0, 1, 2]) rfl ?_
      refine Run.go rfl rfl rfl (sem_move ((Value.pointer p14)) rfl ?_)
      refine Run.go rfl rfl rfl (sem_move ((Value.string s34)) rfl ?_)
      refine Run.go rfl rfl rfl (sem_callL [(Value.pointer p14), (Value.int .i64 (0)), (Value.string s34)] (TF.goes_34) rfl rfl (Spec.mono hS fun v h76 hv => ?_))
      obtain ⟨i77, rfl, hS⟩ := hv
      refine Run.region_end ?_
      refine Run.seq ?_
      refine Run.seq ?_
      refine Run.ops0 (idx := [0, 1]) rfl ?_
      refine Run.go rfl rfl rfl (sem_move ((Value.int .i64 (IntKind.wrap .i64 (Int.tmod (IntKind.wrap .u64 (i6)) (4))))) rfl ?_)
      obtain ⟨hT, hF⟩ := hS
      by_cases hb78 : (IntKind.wrap .i64 (Int.tmod (IntKind.wrap .u64 (i6)) (4)) : Int) = 2
      ·have hS := hT hb78; clear hT hF
       refine Run.go rfl rfl rfl (sem_binI .i64 (IntKind.wrap .i64 (Int.tmod (IntKind.wrap .u64 (i6)) (4))) (2) (.bool true) rfl rfl (binI_eql_t hb78) ?_)
       refine Run.region_end ?_
       refine Run.condT rfl ?_
       refine Run.ops0 (idx := [0, 1, 2]) rfl ?_
       refine Run.go rfl rfl rfl (sem_move ((Value.pointer p14)) rfl ?_)
       refine Run.go rfl rfl rfl (sem_move ((Value.int .i64 (i7))) rfl ?_)
       refine Run.go rfl rfl rfl (sem_callL [(Value.pointer p14), (Value.int .i64 (0)), (Value.int .i64 (i7))] (TF.goes_35) rfl rfl (Spec.mono hS fun v h79 hv => ?_))
       obtain ⟨rfl, hS⟩ := hv
       refine Run.region_end ?_
       refine Run.ops0 (idx := [0, 1]) rfl ?_
       refine Run.go rfl rfl rfl (sem_move ((Value.pointer p14)) rfl ?_)
       refine Run.go rfl rfl rfl (sem_callL [(Value.pointer p14)] (TF.goes_33) rfl rfl (Spec.mono hS fun v h80 hv => ?_))
       obtain ⟨rfl, hS⟩ := hv
       refine Run.region_end ?_
       exact Run.of_fin (hS.imp fun h' hS => j37 _ _ ⟨⟨rfl, rfl, rfl, rfl, rfl, rfl, trivial⟩, hS⟩)
      ·have hS := hF hb78; clear hT hF
       refine Run.go rfl rfl rfl (sem_binI .i64 (IntKind.wrap .i64 (Int.tmod (IntKind.wrap .u64 (i6)) (4))) (2) (.bool false) rfl rfl (binI_eql_f hb78) ?_)
       refine Run.region_end ?_
       refine Run.condF rfl ?_
       refine Run.skip ?_
       refine Run.ops0 (idx := [0, 1]) rfl ?_
       refine Run.go rfl rfl rfl (sem_move ((Value.pointer p14)) rfl ?_)
       refine Run.go rfl rfl rfl (sem_callL [(Value.pointer p14)] (TF.goes_33) rfl rfl (Spec.mono hS fun v h81 hv => ?_))
       obtain ⟨rfl, hS⟩ := hv
       refine Run.region_end ?_
       exact Run.of_fin (hS.imp fun h' hS => j37 _ _ ⟨⟨rfl, rfl, rfl, rfl, rfl, rfl, trivial⟩, hS⟩)
     ·have hS := hF hb75; clear hT hF
      refine Run.go rfl rfl rfl (sem_binI .i64 (IntKind.wrap .i64 (Int.tmod (IntKind.wrap .u64 (i6)) (4))) (1) (.bool false) rfl rfl (binI_gtr_f hb75) ?_)
      refine Run.region_end ?_
      refine Run.condF rfl ?_
      refine Run.skip ?_
      exact Run.of_fin (hS.imp fun h' hS => j37 _ _ ⟨⟨rfl, rfl, rfl, rfl, rfl, rfl, trivial⟩, hS⟩)
    refine Run.seq ?_
    refine Run.ops0 (idx := [0, 1]) rfl ?_
    refine Run.go rfl rfl rfl (sem_move ((Value.int .i64 (IntKind.wrap .i64 (Int.tmod (IntKind.wrap .u64 (i6)) (4))))) rfl ?_)
    obtain ⟨hT, hF⟩ := hS
    by_cases hb82 : (IntKind.wrap .i64 (Int.tmod (IntKind.wrap .u64 (i6)) (4)) : Int) > (0)
    ·have hS := hT hb82; clear hT hF
     refine Run.go rfl rfl rfl (sem_binI .i64 (IntKind.wrap .i64 (Int.tmod (IntKind.wrap .u64 (i6)) (4))) (0) (.bool true) rfl rfl (binI_gtr_t hb82) ?_)
     refine Run.region_end ?_
     refine Run.condT rfl ?_
     refine Run.seq ?_
     refine Run.ops0 (idx := [0, 1]) rfl ?_
     refine Run.go rfl rfl rfl (sem_move ((Value.pointer p14)) rfl ?_)
     refine Run.go rfl rfl rfl (sem_callL [(Value.pointer p14), (Value.int .i64 (0))] (TF.goes_32) rfl rfl (Spec.mono hS fun v h83 hv => ?_))
     obtain ⟨i84, rfl, hS⟩ := hv
     refine Run.region_end ?_
     refine Run.ops0 (idx := [0, 1]) rfl ?_
     refine Run.go rfl rfl rfl (sem_move ((Value.pointer p14)) rfl ?_)
     refine Run.go rfl rfl rfl (sem_callL [(Value.pointer p14)] (TF.goes_33) rfl rfl (Spec.mono hS fun v h85 hv => ?_))
     obtain ⟨rfl, hS⟩ := hv
     refine Run.region_end ?_
     exact Run.of_fin (hS.imp fun h' hS => j35 _ _ ⟨⟨rfl, rfl, rfl, rfl, rfl, rfl, rfl, trivial⟩, hS⟩)
    ·have hS := hF hb82; clear hT hF
     refine Run.go rfl rfl rfl (sem_binI .i64 (IntKind.wrap .i64 (Int.tmod (IntKind.wrap .u64 (i6)) (4))) (0) (.bool false) rfl rfl (binI_gtr_f hb82) ?_)
     refine Run.region_end ?_
     refine Run.condF rfl ?_
     refine Run.skip ?_
     exact Run.of_fin (hS.imp fun h' hS => j35 _ _ ⟨⟨rfl, rfl, rfl, rfl, rfl, rfl, rfl, trivial⟩, hS⟩)
   refine Run.seq ?_
   refine Run.ops0 (idx := [0, 1, 2]) rfl ?_
   refine Run.go rfl rfl rfl (sem_move ((Value.slice a2 n3 c4)) rfl ?_)
   refine Run.go rfl rfl rfl (sem_lenSl a2 n3 c4 rfl TF.sl_45 ?_)
   refine Run.go rfl rfl rfl (sem_move ((Value.int .i64 (0))) rfl ?_)
   refine Run.region_end ?_
   refine Run.block ?_
   obtain ⟨J94, m92, h0, hS⟩ := hS
   refine Run.of_fin (h0.imp fun h' h0 => ?_)
   refine Run.loop (σ := (Option Addr) × Nat × Nat × Int × Nat) (fun x e h => J94 x.1 x.2.1 x.2.2.1 x.2.2.2.1 x.2.2.2.2 h ∧ Agree [(0, (Value.string s1)), (2, (Value.string s5)), (3, (Value.int .i64 (i6))), (4, (Value.int .i64 (i7))), (11, (Value.pointer p14)), (12, (Value.pointer p16)), (15, (Value.slice x.1 x.2.1 x.2.2.1)), (47, (Value.slice a2 n3 c4)), (48, (Value.int .i64 ((n3 : Nat)))), (49, (Value.int .i64 (x.2.2.2.1)))] e) (fun x => x.2.2.2.2) (none, 0, 0, (0), m92) ⟨h0, ⟨rfl, rfl, rfl, rfl, rfl, rfl, rfl, rfl, rfl, rfl, trivial⟩⟩ ?_; clear h0
   rintro ⟨a86, n87, c88, i89, m91⟩ e h90 ⟨hJ, hag⟩ ih93
   have hS := hS a86 n87 c88 i89 m91 h90 hJ; clear hJ
   refine Run.env hag ?_; clear hag
   refine Run.seq ?_
   refine Run.ops0 (idx := [0]) rfl ?_
   obtain ⟨hT, hF⟩ := hS
   by_cases hb95 : (i89 : Int) < ((n3 : Nat))
   ·have hS := hT hb95; clear hT hF
    refine Run.go rfl rfl rfl (sem_binI .i64 (i89) ((n3 : Nat)) (.bool true) rfl rfl (binI_lss_t hb95) ?_)
    refine Run.region_end ?_
    refine Run.seq ?_
    refine Run.condT rfl ?_
    refine Run.skip ?_
    refine Run.seq ?_
    refine Run.block ?_
    refine Run.seq ?_
    refine Run.ops0 (idx := [0, 1, 2]) rfl ?_
    obtain ⟨A96, e97, hi0, hi1, hS⟩ := hS
    refine Run.go rfl rfl rfl (sem_indexAddrS A96 n3 c4 .i64 (i89) (congrArg (fun a => Value.slice a n3 c4) e97) rfl TF.slc_45 hi0 hi1 ?_)
    obtain ⟨s98, hl, hS⟩ := hS
    refine Run.go rfl rfl rfl (sem_load1 (Addr.add A96 (Int.toNat (i89) * 1)) ((Value.string s98)) rfl TF.agg_9 hl ?_)
    refine Run.go rfl rfl rfl (sem_assign ((Value.string s98)) rfl ?_)
    refine Run.region_end ?_
    refine Run.seq ?_
    refine Run.ops0 (idx := [0, 1, 2, 3]) rfl ?_
    refine Run.go rfl rfl rfl (sem_move ((Value.pointer p16)) rfl ?_)
    refine Run.go rfl rfl rfl (sem_move ((Value.string s98)) rfl ?_)
    refine Run.go rfl rfl rfl (sem_callL [(Value.pointer p16), (Value.string s98)] (TF.goes_29) rfl rfl (Spec.mono hS fun v h99 hv => ?_))
    obtain ⟨i100, rfl, hS⟩ := hv
    obtain ⟨hT, hF⟩ := hS
    by_cases hb101 : (i100 : Int) = 0
    ·have hS := hT hb101; clear hT hF
     refine Run.go rfl rfl rfl (sem_binI .i64 (i100) (0) (.bool true) rfl rfl (binI_eql_t hb101) ?_)
     refine Run.region_end ?_
     refine Run.condT rfl ?_
     refine Run.ops0 (idx := [0, 1, 2, 3, 4]) rfl ?_
     refine Run.go rfl rfl rfl (sem_move ((Value.slice a86 n87 c88)) rfl ?_)
     refine Run.go rfl rfl rfl (sem_move ((Value.string s98)) rfl ?_)
     refine Run.go rfl rfl rfl (sem_buildSliceL [(0, (Value.string s98))] [(Value.string s98)] TF.slc_45 TF.zero_9 rfl (by decide) (by decide) rfl rfl (fun k102 hb1 hb2 h103 hb3 => ?_))
     have hS := hS k102 hb1 hb2 h103 hb3
     refine Run.go rfl rfl rfl (sem_appendL [(Value.slice a86 n87 c88), (Value.slice (some ⟨k102, 0, none⟩) 1 1)] rfl (semH_mono (fun v h104 hv => ?_) hS))
     obtain ⟨a105, n106, c107, rfl, hS⟩ := hv
     refine Run.go rfl rfl rfl (sem_assign ((Value.slice a105 n106 c107)) rfl ?_)
     refine Run.region_end ?_
     refine Run.inBlock ?_
     refine Run.ops0 (idx := [0, 1]) rfl ?_
     refine Run.go rfl rfl rfl (sem_binI .i64 (i89) (1) ((Value.int .i64 (IntKind.wrap .i64 ((i89) + (1))))) rfl rfl rfl ?_)
     refine Run.go rfl rfl rfl (sem_move ((Value.int .i64 (IntKind.wrap .i64 ((i89) + (1))))) rfl ?_)
     refine Run.region_end ?_
     exact Run.of_fin (hS.imp fun h' ⟨m', hm, hS⟩ => ih93 (a105, n106, c107, (IntKind.wrap .i64 ((i89) + (1))), m') _ _ ⟨hS, ⟨rfl, rfl, rfl, rfl, rfl, rfl, rfl, rfl, rfl, rfl, trivial⟩⟩ hm)
    ·have hS := hF hb101; clear hT hF
     refine Run.go rfl rfl rfl (sem_binI .i64 (i100) (0) (.bool false) rfl rfl (binI_eql_f hb101) ?_)
     refine Run.region_end ?_
     refine Run.condF rfl ?_
     refine Run.skip ?_
     refine Run.inBlock ?_
     refine Run.ops0 (idx := [0, 1]) rfl ?_
     refine Run.go rfl rfl rfl (sem_binI .i64 (i89) (1) ((Value.int .i64 (IntKind.wrap .i64 ((i89) + (1))))) rfl rfl rfl ?_)
     refine Run.go rfl rfl rfl (sem_move ((Value.int .i64 (IntKind.wrap .i64 ((i89) + (1))))) rfl ?_)
     refine Run.region_end ?_
     exact Run.of_fin (hS.imp fun h' ⟨m', hm, hS⟩ => ih93 (a86, n87, c88, (IntKind.wrap .i64 ((i89) + (1))), m') _ _ ⟨hS, ⟨rfl, rfl, rfl, rfl, rfl, rfl, rfl, rfl, rfl, rfl, trivial⟩⟩ hm)
   ·have hS := hF hb95; clear hT hF
    refine Run.go rfl rfl rfl (sem_binI .i64 (i89) ((n3 : Nat)) (.bool false) rfl rfl (binI_lss_f hb95) ?_)
    refine Run.region_end ?_
    refine Run.seq ?_
    refine Run.condF rfl ?_
    refine Run.exit rfl ?_
    exact Run.of_fin (hS.imp fun h' hS => j27 _ _ ⟨a86, n87, c88, ⟨rfl, rfl, rfl, rfl, rfl, rfl, rfl, trivial⟩, hS⟩)
  refine Run.seq ?_
  refine Run.ops0 (idx := [0, 1, 2, 3, 4, 5, 6, 7, 8, 9, 10, 11]) rfl ?_
  refine Run.go rfl rfl rfl (sem_move ((Value.slice a2 n3 c4)) rfl ?_)
  refine Run.go rfl rfl rfl (sem_callL [(Value.slice a2 n3 c4)] (TF.goes_25) rfl rfl (Spec.mono hS fun v h108 hv => ?_))
  obtain ⟨b109, rfl, hS⟩ := hv
  obtain ⟨hT, hF⟩ := hS
  cases b109
  ·have hS := hF rfl; clear hT hF
   refine Run.go rfl rfl rfl (sem_move ((Value.bool false)) rfl ?_)
   refine Run.go rfl rfl rfl (sem_move ((Value.string s1)) rfl ?_)
   refine Run.go rfl rfl rfl (sem_lenStr s1 rfl TF.isStr_9 ?_)
   obtain ⟨hT, hF⟩ := hS
   by_cases hb110 : ((ByteArray.size s1 : Nat) : Int) > (900)
   ·have hS := hT hb110; clear hT hF
    refine Run.go rfl rfl rfl (sem_binI .i64 ((ByteArray.size s1 : Nat)) (900) (.bool true) rfl rfl (binI_gtr_t hb110) ?_)
    refine Run.go rfl rfl rfl (sem_pick false ((Value.bool true)) rfl rfl ?_)
    refine Run.go rfl rfl rfl (sem_move ((Value.bool true)) rfl ?_)
    refine Run.no rfl rfl rfl ?_
    refine Run.no rfl rfl rfl ?_
    refine Run.no rfl rfl rfl ?_
    refine Run.go rfl rfl rfl (sem_pick true ((Value.bool true)) rfl rfl ?_)
    refine Run.region_end ?_
    refine Run.condT rfl ?_
    refine Run.seq ?_
    refine Run.ops0 (idx := [0]) rfl ?_
    refine Run.go rfl rfl rfl (sem_assign ((Value.bool true)) rfl ?_)
    refine Run.region_end ?_
    refine Run.ret ⟨.inr rfl, ?_⟩
    exact hS.imp fun h' hq => ⟨(true), rfl, hq⟩
   ·have hS := hF hb110; clear hT hF
    refine Run.go rfl rfl rfl (sem_binI .i64 ((ByteArray.size s1 : Nat)) (900) (.bool false) rfl rfl (binI_gtr_f hb110) ?_)
    refine Run.go rfl rfl rfl (sem_pick false ((Value.bool false)) rfl rfl ?_)
    refine Run.go rfl rfl rfl (sem_move ((Value.bool false)) rfl ?_)
    refine Run.go rfl rfl rfl (sem_move ((Value.string s5)) rfl ?_)
    refine Run.go rfl rfl rfl (sem_lenStr s5 rfl TF.isStr_9 ?_)
    obtain ⟨hT, hF⟩ := hS
    by_cases hb111 : ((ByteArray.size s5 : Nat) : Int) > (900)
    ·have hS := hT hb111; clear hT hF
     refine Run.go rfl rfl rfl (sem_binI .i64 ((ByteArray.size s5 : Nat)) (900) (.bool true) rfl rfl (binI_gtr_t hb111) ?_)
     refine Run.go rfl rfl rfl (sem_pick false ((Value.bool true)) rfl rfl ?_)
     refine Run.region_end ?_
     refine Run.condT rfl ?_
     refine Run.seq ?_
     refine Run.ops0 (idx := [0]) rfl ?_
     refine Run.go rfl rfl rfl (sem_assign ((Value.bool true)) rfl ?_)
     refine Run.region_end ?_
     refine Run.ret ⟨.inr rfl, ?_⟩
     exact hS.imp fun h' hq => ⟨(true), rfl, hq⟩
    ·have hS := hF hb111; clear hT hF
     refine Run.go rfl rfl rfl (sem_binI .i64 ((ByteArray.size s5 : Nat)) (900) (.bool false) rfl rfl (binI_gtr_f hb111) ?_)
     refine Run.go rfl rfl rfl (sem_pick false ((Value.bool false)) rfl rfl ?_)
     refine Run.region_end ?_
     refine Run.condF rfl ?_
     refine Run.skip ?_
     exact Run.of_fin (hS.imp fun h' hS => j11 _ _ ⟨⟨rfl, rfl, rfl, rfl, rfl, trivial⟩, hS⟩)
  ·have hS := hT rfl; clear hT hF
   refine Run.go rfl rfl rfl (sem_move ((Value.bool true)) rfl ?_)
   refine Run.no rfl rfl rfl ?_
   refine Run.no rfl rfl rfl ?_
   refine Run.no rfl rfl rfl ?_
   refine Run.go rfl rfl rfl (sem_pick true ((Value.bool true)) rfl rfl ?_)
   refine Run.go rfl rfl rfl (sem_move ((Value.bool true)) rfl ?_)
   refine Run.no rfl rfl rfl ?_
   refine Run.no rfl rfl rfl ?_
   refine Run.no rfl rfl rfl ?_
   refine Run.go rfl rfl rfl (sem_pick true ((Value.bool true)) rfl rfl ?_)
   refine Run.region_end ?_
   refine Run.condT rfl ?_
   refine Run.seq ?_
   refine Run.ops0 (idx := [0]) rfl ?_
   refine Run.go rfl rfl rfl (sem_assign ((Value.bool true)) rfl ?_)
   refine Run.region_end ?_
   refine Run.ret ⟨.inr rfl, ?_⟩
   exact hS.imp fun h' hq => ⟨(true), rfl, hq⟩
set_option maxHeartbeats 4000000 in
theorem C_countermandlaw05_VaultOpens.of {B : RO} {s1 : ByteArray} {s2 : ByteArray} {h : Heap} {Q : Bool → Heap → Prop} (hS : S_countermandlaw05_VaultOpens B s1 s2 h Q) : C_countermandlaw05_VaultOpens B s1 s2 h Q := by
 unfold S_countermandlaw05_VaultOpens at hS
 unfold C_countermandlaw05_VaultOpens
 refine Spec.of_run Try.func5 (N := 63) (rs := [ResultVar.tmp 4]) rfl rfl rfl (Nat.le_of_ble_eq_true rfl) ?_
 refine Run.seq ?_
 refine Run.ops0 (idx := [0]) rfl ?_
 refine Run.go rfl rfl rfl (sem_assign ((Value.bool false)) rfl ?_)
 refine Run.region_end ?_
 refine Run.seq ?_
 refine Run.seq ?_
 refine Run.ops0 (idx := [0, 1]) rfl ?_
 refine Run.go rfl rfl rfl (sem_callL [] (TF.goes_24) rfl rfl (Spec.mono hS fun v h4 hv => ?_))
 obtain ⟨b5, rfl, hS⟩ := hv
 obtain ⟨hT, hF⟩ := hS
 cases b5
 ·have hS := hF rfl; clear hT hF
  refine Run.go rfl rfl rfl (sem_not false rfl ?_)
  refine Run.region_end ?_
  refine Run.condT rfl ?_
  refine Run.seq ?_
  refine Run.ops0 (idx := [0]) rfl ?_
  refine Run.go rfl rfl rfl (sem_assign ((Value.bool false)) rfl ?_)
  refine Run.region_end ?_
  refine Run.ret ⟨.inr rfl, ?_⟩
  exact hS.imp fun h' hq => ⟨(false), rfl, hq⟩
 ·have hS := hT rfl; clear hT hF
  refine Run.go rfl rfl rfl (sem_not true rfl ?_)
  refine Run.region_end ?_
  refine Run.condF rfl ?_
  refine Run.skip ?_
  refine Run.seq ?_
  refine Run.seq ?_
  refine Run.ops0 (idx := [0, 1, 2, 3]) rfl ?_
  refine Run.go rfl rfl rfl (sem_move ((Value.string s1)) rfl ?_)
  refine Run.go rfl rfl rfl (sem_move ((Value.string s2)) rfl ?_)
  refine Run.go rfl rfl rfl (sem_buildSliceL [(0, (Value.string s1)), (1, (Value.string s2))] [(Value.string s1), (Value.string s2)] TF.slc_45 TF.zero_9 rfl (by decide) (by decide) rfl rfl (fun k6 hb1 hb2 h7 hb3 => ?_))
  have hS := hS k6 hb1 hb2 h7 hb3
  refine Run.go rfl rfl rfl (sem_callL [(Value.slice (some ⟨k6, 0, none⟩) 2 2)] (TF.goes_25) rfl rfl (Spec.mono hS fun v h8 hv => ?_))
  obtain ⟨b9, rfl, hS⟩ := hv
  obtain ⟨hT, hF⟩ := hS
  cases b9
  ·have hS := hF rfl; clear hT hF
   refine Run.region_end ?_
   refine Run.condF rfl ?_
   refine Run.skip ?_
   refine Run.seq ?_
   refine Run.ops0 (idx := [0, 1]) rfl ?_
   refine Run.go rfl rfl rfl (sem_callL [] (TF.goes_26) rfl rfl (Spec.mono hS fun v h10 hv => ?_))
   obtain ⟨p11, rfl, hS⟩ := hv
   refine Run.go rfl rfl rfl (sem_assign ((Value.pointer p11)) rfl ?_)
   refine Run.region_end ?_
   refine Run.seq ?_
   refine Run.ops0 (idx := [0, 1, 2]) rfl ?_
   refine Run.go rfl rfl rfl (sem_move ((Value.pointer p11)) rfl ?_)
   refine Run.go rfl rfl rfl (sem_move ((Value.string s1)) rfl ?_)
   refine Run.go rfl rfl rfl (sem_callL [(Value.pointer p11), (Value.int .i64 (0)), (Value.string s1)] (TF.goes_34) rfl rfl (Spec.mono hS fun v h12 hv => ?_))
   obtain ⟨i13, rfl, hS⟩ := hv
   refine Run.region_end ?_
   refine Run.seq ?_
   refine Run.ops0 (idx := [0, 1, 2]) rfl ?_
   refine Run.go rfl rfl rfl (sem_move ((Value.pointer p11)) rfl ?_)
   refine Run.go rfl rfl rfl (sem_move ((Value.string s2)) rfl ?_)
   refine Run.go rfl rfl rfl (sem_callL [(Value.pointer p11), (Value.int .i64 (1)), (Value.string s2)] (TF.goes_34) rfl rfl (Spec.mono hS fun v h14 hv => ?_))
   obtain ⟨i15, rfl, hS⟩ := hv
   refine Run.region_end ?_
   refine Run.seq ?_
   refine Run.ops0 (idx := [0, 1, 2, 3, 4, 5, 6, 7, 8, 9]) rfl ?_
   refine Run.go rfl rfl rfl (sem_move ((Value.pointer p11)) rfl ?_)
   refine Run.go rfl rfl rfl (sem_callL [(Value.pointer p11)] (TF.goes_27) rfl rfl (Spec.mono hS fun v h16 hv => ?_))
   obtain ⟨p17, s18, a19, n20, c21, i22, rfl, hS⟩ := hv
   refine Run.go rfl rfl rfl (sem_move ((Value.tuple #[(Value.pointer p17), (Value.agg #[(Value.string s18), (Value.slice a19 n20 c21)]), (Value.int .i64 (i22))])) rfl ?_)
   refine Run.go rfl rfl rfl (sem_extract #[(Value.pointer p17), (Value.agg #[(Value.string s18), (Value.slice a19 n20 c21)]), (Value.int .i64 (i22))] ((Value.pointer p17)) rfl rfl ?_)
   refine Run.go rfl rfl rfl (sem_extract #[(Value.pointer p17), (Value.agg #[(Value.string s18), (Value.slice a19 n20 c21)]), (Value.int .i64 (i22))] ((Value.agg #[(Value.string s18), (Value.slice a19 n20 c21)])) rfl rfl ?_)
   refine Run.go rfl rfl rfl (sem_extract #[(Value.pointer p17), (Value.agg #[(Value.string s18), (Value.slice a19 n20 c21)]), (Value.int .i64 (i22))] ((Value.int .i64 (i22))) rfl rfl ?_)
   refine Run.go rfl rfl rfl (sem_allocN [(Value.string ByteArray.empty), (Value.slice none 0 0)] TF.zero_51 (fun k23 hb1 hb2 h24 hb3 => ?_))
   have hS := hS k23 hb1 hb2 h24 hb3
   refine Run.go rfl rfl rfl (sem_assign ((Value.pointer p17)) rfl ?_)
   obtain ⟨h25, hst, hS⟩ := hS
   refine Run.go rfl rfl rfl (sem_storeN ⟨k23, 0, none⟩ [(Value.string s18), (Value.slice a19 n20 c21)] h25 rfl rfl TF.sz_51 hst ?_)
   refine Run.go rfl rfl rfl (sem_assign ((Value.int .i64 (i22))) rfl ?_)
   refine Run.region_end ?_
   refine Run.seq ?_
   refine Run.ops0 (idx := [0, 1, 2, 3, 4, 5, 6, 7, 8, 9]) rfl ?_
   refine Run.go rfl rfl rfl (sem_move ((Value.string s1)) rfl ?_)
   refine Run.go rfl rfl rfl (sem_move ((Value.string s2)) rfl ?_)
   refine Run.go rfl rfl rfl (sem_callL [(Value.string s1), (Value.string s2)] (TF.goes_37) rfl rfl (Spec.mono hS fun v h26 hv => ?_))
   obtain ⟨i27, s28, a29, n30, c31, rfl, hS⟩ := hv
   refine Run.go rfl rfl rfl (sem_move ((Value.tuple #[(Value.int .i64 (i27)), (Value.string s28), (Value.slice a29 n30 c31)])) rfl ?_)
   refine Run.go rfl rfl rfl (sem_extract #[(Value.int .i64 (i27)), (Value.string s28), (Value.slice a29 n30 c31)] ((Value.int .i64 (i27))) rfl rfl ?_)
   refine Run.go rfl rfl rfl (sem_extract #[(Value.int .i64 (i27)), (Value.string s28), (Value.slice a29 n30 c31)] ((Value.string s28)) rfl rfl ?_)
   refine Run.go rfl rfl rfl (sem_extract #[(Value.int .i64 (i27)), (Value.string s28), (Value.slice a29 n30 c31)] ((Value.slice a29 n30 c31)) rfl rfl ?_)
   refine Run.go rfl rfl rfl (sem_assign ((Value.int .i64 (i27))) rfl ?_)
   refine Run.go rfl rfl rfl (sem_assign ((Value.string s28)) rfl ?_)
   refine Run.go rfl rfl rfl (sem_assign ((Value.slice a29 n30 c31)) rfl ?_)
   refine Run.region_end ?_
   refine Run.seq ?_
   refine Run.ops0 (idx := [0, 1, 2, 3, 4, 5, 6, 7, 8, 9, 10, 11, 12, 13, 14, 15, 16, 17, 18, 19, 20, 21, 22, 23, 24, 25]) rfl ?_
   refine Run.go rfl rfl rfl (sem_move ((Value.int .i64 (i22))) rfl ?_)
   obtain ⟨hT, hF⟩ := hS
   by_cases hb32 : (i22 : Int) = 0
   ·have hS := hT hb32; clear hT hF
    refine Run.go rfl rfl rfl (sem_binI .i64 (i22) (0) (.bool true) rfl rfl (binI_eql_t hb32) ?_)
    refine Run.go rfl rfl rfl (sem_move ((Value.bool true)) rfl ?_)
    refine Run.go rfl rfl rfl (sem_move ((Value.pointer p17)) rfl ?_)
    refine Run.go rfl rfl rfl (sem_callL [(Value.pointer p17)] (TF.goes_38) rfl rfl (Spec.mono hS fun v h33 hv => ?_))
    obtain ⟨i34, rfl, hS⟩ := hv
    refine Run.go rfl rfl rfl (sem_move ((Value.int .i64 (i27))) rfl ?_)
    obtain ⟨hT, hF⟩ := hS
    by_cases hb35 : (i34 : Int) = i27
    ·have hS := hT hb35; clear hT hF
     refine Run.go rfl rfl rfl (sem_binI .i64 (i34) (i27) (.bool true) rfl rfl (binI_eql_t hb35) ?_)
     refine Run.go rfl rfl rfl (sem_pick true ((Value.bool true)) rfl rfl ?_)
     refine Run.go rfl rfl rfl (sem_move ((Value.bool true)) rfl ?_)
     refine Run.go rfl rfl rfl (sem_fieldAddr ⟨k23, 0, none⟩ 0 rfl TF.fld_51_0 ?_)
     obtain ⟨s36, hl, hS⟩ := hS
     refine Run.go rfl rfl rfl (sem_load1 ⟨k23, 0, none⟩ ((Value.string s36)) rfl TF.agg_9 hl ?_)
     refine Run.go rfl rfl rfl (sem_move ((Value.string s28)) rfl ?_)
     obtain ⟨hT, hF⟩ := hS
     by_cases hb37 : s36 = s28
     ·have hS := hT hb37; clear hT hF
      refine Run.go rfl rfl rfl (sem_strEqT s36 s28 rfl rfl hb37 ?_)
      refine Run.go rfl rfl rfl (sem_pick true ((Value.bool true)) rfl rfl ?_)
      refine Run.go rfl rfl rfl (sem_move ((Value.bool true)) rfl ?_)
      refine Run.go rfl rfl rfl (sem_fieldAddr ⟨k23, 0, none⟩ 1 rfl TF.fld_51_1 ?_)
      refine Run.ldSl hS fun a38 n39 c40 h41 hl hS => ?_
      refine Run.go rfl rfl rfl (sem_load1 ⟨k23, 1, none⟩ ((Value.slice a38 n39 c40)) rfl TF.agg_45 hl ?_)
      refine Run.go rfl rfl rfl (sem_move ((Value.slice a29 n30 c31)) rfl ?_)
      refine Run.go rfl rfl rfl (sem_callL [(Value.slice a38 n39 c40), (Value.slice a29 n30 c31)] (TF.goes_36) rfl rfl (Spec.mono hS fun v h42 hv => ?_))
      obtain ⟨b43, rfl, hS⟩ := hv
      obtain ⟨hT, hF⟩ := hS
      cases b43
      ·have hS := hF rfl; clear hT hF
       refine Run.go rfl rfl rfl (sem_pick true ((Value.bool false)) rfl rfl ?_)
       refine Run.go rfl rfl rfl (sem_move ((Value.bool false)) rfl ?_)
       refine Run.no rfl rfl rfl ?_
       refine Run.no rfl rfl rfl ?_
       refine Run.no rfl rfl rfl ?_
       refine Run.go rfl rfl rfl (sem_pick false ((Value.bool false)) rfl rfl ?_)
       refine Run.go rfl rfl rfl (sem_assign ((Value.bool false)) rfl ?_)
       refine Run.region_end ?_
       refine Run.ret ⟨.inr rfl, ?_⟩
       exact hS.imp fun h' hq => ⟨(false), rfl, hq⟩
      ·have hS := hT rfl; clear hT hF
       refine Run.go rfl rfl rfl (sem_pick true ((Value.bool true)) rfl rfl ?_)
       refine Run.go rfl rfl rfl (sem_move ((Value.bool true)) rfl ?_)
       refine Run.go rfl rfl rfl (sem_move ((Value.pointer p17)) rfl ?_)
       refine Run.go rfl rfl rfl (sem_callL [(Value.pointer p17), (Value.string (ByteArray.mk #[120]))] (TF.goes_29) rfl rfl (Spec.mono hS fun v h44 hv => ?_))
       obtain ⟨i45, rfl, hS⟩ := hv
       refine Run.go rfl rfl rfl (sem_binI .i64 (i45) (9) ((Value.bool ((i45 : Int) == (9)))) rfl rfl rfl ?_)
       refine Run.go rfl rfl rfl (sem_pick true ((Value.bool ((i45 : Int) == (9)))) rfl rfl ?_)
       refine Run.go rfl rfl rfl (sem_assign ((Value.bool ((i45 : Int) == (9)))) rfl ?_)
       refine Run.region_end ?_
       refine Run.ret ⟨.inr rfl, ?_⟩
       exact hS.imp fun h' hq => ⟨(((i45 : Int) == (9))), rfl, hq⟩
     ·have hS := hF hb37; clear hT hF
      refine Run.go rfl rfl rfl (sem_strEqF s36 s28 rfl rfl hb37 ?_)
      refine Run.go rfl rfl rfl (sem_pick true ((Value.bool false)) rfl rfl ?_)
      refine Run.go rfl rfl rfl (sem_move ((Value.bool false)) rfl ?_)
      refine Run.no rfl rfl rfl ?_
      refine Run.no rfl rfl rfl ?_
      refine Run.no rfl rfl rfl ?_
      refine Run.no rfl rfl rfl ?_
      refine Run.go rfl rfl rfl (sem_pick false ((Value.bool false)) rfl rfl ?_)
      refine Run.go rfl rfl rfl (sem_move ((Value.bool false)) rfl ?_)
      refine Run.no rfl rfl rfl ?_
      refine Run.no rfl rfl rfl ?_
      refine Run.no rfl rfl rfl ?_
      refine Run.go rfl rfl rfl (sem_pick false ((Value.bool false)) rfl rfl ?_)
      refine Run.go rfl rfl rfl (sem_assign ((Value.bool false)) rfl ?_)
      refine Run.region_end ?_
      refine Run.ret ⟨.inr rfl, ?_⟩
      exact hS.imp fun h' hq => ⟨(false), rfl, hq⟩
    ·have hS := hF hb35; clear hT hF
     refine Run.go rfl rfl rfl (sem_binI .i64 (i34) (i27) (.bool false) rfl rfl (binI_eql_f hb35) ?_)
     refine Run.go rfl rfl rfl (sem_pick true ((Value.bool false)) rfl rfl ?_)
     refine Run.go rfl rfl rfl (sem_move ((Value.bool false)) rfl ?_)
     refine Run.no rfl rfl rfl ?_
     refine Run.no rfl rfl rfl ?_
     refine Run.no rfl rfl rfl ?_
     refine Run.no rfl rfl rfl ?_
     refine Run.go rfl rfl rfl (sem_pick false ((Value.bool false)) rfl rfl ?_)
     refine Run.go rfl rfl rfl (sem_move ((Value.bool false)) rfl ?_)
     refine Run.no rfl rfl rfl ?_
     refine Run.no rfl rfl rfl ?_
     refine Run.no rfl rfl rfl ?_
     refine Run.no rfl rfl rfl ?_
     refine Run.go rfl rfl rfl (sem_pick false ((Value.bool false)) rfl rfl ?_)
     refine Run.go rfl rfl rfl (sem_move ((Value.bool false)) rfl ?_)
     refine Run.no rfl rfl rfl ?_
     refine Run.no rfl rfl rfl ?_
     refine Run.no rfl rfl rfl ?_
     refine Run.go rfl rfl rfl (sem_pick false ((Value.bool false)) rfl rfl ?_)
     refine Run.go rfl rfl rfl (sem_assign ((Value.bool false)) rfl ?_)
     refine Run.region_end ?_
     refine Run.ret ⟨.inr rfl, ?_⟩
     exact hS.imp fun h' hq => ⟨(false), rfl, hq⟩
   ·have hS := hF hb32; clear hT hF
    refine Run.go rfl rfl rfl (sem_binI .i64 (i22) (0) (.bool false) rfl rfl (binI_eql_f hb32) ?_)
    refine Run.go rfl rfl rfl (sem_move ((Value.bool false)) rfl ?_)
    refine Run.no rfl rfl rfl ?_
    refine Run.no rfl rfl rfl ?_
    refine Run.no rfl rfl rfl ?_
    refine Run.no rfl rfl rfl ?_
    refine Run.go rfl rfl rfl (sem_pick false ((Value.bool false)) rfl rfl ?_)
    refine Run.go rfl rfl rfl (sem_move ((Value.bool false)) rfl ?_)
    refine Run.no rfl rfl rfl ?_
    refine Run.no rfl rfl rfl ?_
    refine Run.no rfl rfl rfl ?_
    refine Run.no rfl rfl rfl ?_
    refine Run.go rfl rfl rfl (sem_pick false ((Value.bool false)) rfl rfl ?_)
    refine Run.go rfl rfl rfl (sem_move ((Value.bool false)) rfl ?_)
    refine Run.no rfl rfl rfl ?_
    refine Run.no rfl rfl rfl ?_
    refine Run.no rfl rfl rfl ?_
    refine Run.no rfl rfl rfl ?_
    refine Run.go rfl rfl rfl (sem_pick false ((Value.bool false)) rfl rfl ?_)
    refine Run.go rfl rfl rfl (sem_move ((Value.bool false)) rfl ?_)
    refine Run.no rfl rfl rfl ?_
    refine Run.no rfl rfl rfl ?_
    refine Run.no rfl rfl rfl ?_
    refine Run.go rfl rfl rfl (sem_pick false ((Value.bool false)) rfl rfl ?_)
    refine Run.go rfl rfl rfl (sem_assign ((Value.bool false)) rfl ?_)
    refine Run.region_end ?_
    refine Run.ret ⟨.inr rfl, ?_⟩
    exact hS.imp fun h' hq => ⟨(false), rfl, hq⟩
  ·have hS := hT rfl; clear hT hF
   refine Run.region_end ?_
   refine Run.condT rfl ?_
   refine Run.seq ?_
   refine Run.ops0 (idx := [0]) rfl ?_
   refine Run.go rfl rfl rfl (sem_assign ((Value.bool true)) rfl ?_)
   refine Run.region_end ?_
   refine Run.ret ⟨.inr rfl, ?_⟩
   exact hS.imp fun h' hq => ⟨(true), rfl, hq⟩
set_option maxHeartbeats 4000000 in
theorem C_countermandlaw05_VaultEpochs.of {B : RO} {a1 : Option Addr} {n2 : Nat} {c3 : Nat} {s4 : ByteArray} {h : Heap} {Q : Bool → Heap → Prop} (hS : S_countermandlaw05_VaultEpochs B a1 n2 c3 s4 h Q) : C_countermandlaw05_VaultEpochs B a1 n2 c3 s4 h Q := by
 unfold S_countermandlaw05_VaultEpochs at hS
 unfold C_countermandlaw05_VaultEpochs
 refine Spec.of_run Try.func6 (N := 90) (rs := [ResultVar.tmp 4]) rfl rfl rfl (Nat.le_of_ble_eq_true rfl) ?_
 refine Run.seq ?_
 refine Run.ops0 (idx := [0]) rfl ?_
 refine Run.go rfl rfl rfl (sem_assign ((Value.bool false)) rfl ?_)
 refine Run.region_end ?_
 refine Run.seq ?_
 refine Run.seq ?_
 refine Run.ops0 (idx := [0, 1]) rfl ?_
 refine Run.go rfl rfl rfl (sem_callL [] (TF.goes_24) rfl rfl (Spec.mono hS fun v h6 hv => ?_))
 obtain ⟨b7, rfl, hS⟩ := hv
 obtain ⟨hT, hF⟩ := hS
 cases b7
 ·have hS := hF rfl; clear hT hF
  refine Run.go rfl rfl rfl (sem_not false rfl ?_)
  refine Run.region_end ?_
  refine Run.condT rfl ?_
  refine Run.seq ?_
  refine Run.ops0 (idx := [0]) rfl ?_
  refine Run.go rfl rfl rfl (sem_assign ((Value.bool false)) rfl ?_)
  refine Run.region_end ?_
  refine Run.ret ⟨.inr rfl, ?_⟩
  exact hS.imp fun h' hq => ⟨(false), rfl, hq⟩
 ·have hS := hT rfl; clear hT hF
  refine Run.go rfl rfl rfl (sem_not true rfl ?_)
  refine Run.region_end ?_
  refine Run.condF rfl ?_
  refine Run.skip ?_
  refine Run.seqJ (fun e h9 => Agree [(0, (Value.slice a1 n2 c3)), (1, (Value.string s4))] e ∧ S_countermandlaw05_VaultEpochs_J1 B a1 n2 c3 s4 h9 Q) ?_ fun j8 => ?_
  ·rintro e h9 ⟨hag, hS⟩
   refine Run.env hag ?_; clear hag
   refine Run.seq ?_
   refine Run.ops0 (idx := [0, 1]) rfl ?_
   refine Run.go rfl rfl rfl (sem_callL [] (TF.goes_26) rfl rfl (Spec.mono hS fun v h10 hv => ?_))
   obtain ⟨p11, rfl, hS⟩ := hv
   refine Run.go rfl rfl rfl (sem_assign ((Value.pointer p11)) rfl ?_)
   refine Run.region_end ?_
   refine Run.seq ?_
   refine Run.ops0 (idx := [0, 1, 2, 3, 4, 5, 6, 7, 8, 9]) rfl ?_
   refine Run.go rfl rfl rfl (sem_move ((Value.pointer p11)) rfl ?_)
   refine Run.go rfl rfl rfl (sem_callL [(Value.pointer p11)] (TF.goes_27) rfl rfl (Spec.mono hS fun v h12 hv => ?_))
   obtain ⟨p13, s14, a15, n16, c17, i18, rfl, hS⟩ := hv
   refine Run.go rfl rfl rfl (sem_move ((Value.tuple #[(Value.pointer p13), (Value.agg #[(Value.string s14), (Value.slice a15 n16 c17)]), (Value.int .i64 (i18))])) rfl ?_)
   refine Run.go rfl rfl rfl (sem_extract #[(Value.pointer p13), (Value.agg #[(Value.string s14), (Value.slice a15 n16 c17)]), (Value.int .i64 (i18))] ((Value.pointer p13)) rfl rfl ?_)
   refine Run.go rfl rfl rfl (sem_extract #[(Value.pointer p13), (Value.agg #[(Value.string s14), (Value.slice a15 n16 c17)]), (Value.int .i64 (i18))] ((Value.agg #[(Value.string s14), (Value.slice a15 n16 c17)])) rfl rfl ?_)
   refine Run.go rfl rfl rfl (sem_extract #[(Value.pointer p13), (Value.agg #[(Value.string s14), (Value.slice a15 n16 c17)]), (Value.int .i64 (i18))] ((Value.int .i64 (i18))) rfl rfl ?_)
   refine Run.go rfl rfl rfl (sem_allocN [(Value.string ByteArray.empty), (Value.slice none 0 0)] TF.zero_51 (fun k19 hb1 hb2 h20 hb3 => ?_))
   have hS := hS k19 hb1 hb2 h20 hb3
   refine Run.go rfl rfl rfl (sem_assign ((Value.pointer p13)) rfl ?_)
   obtain ⟨h21, hst, hS⟩ := hS
   refine Run.go rfl rfl rfl (sem_storeN ⟨k19, 0, none⟩ [(Value.string s14), (Value.slice a15 n16 c17)] h21 rfl rfl TF.sz_51 hst ?_)
   refine Run.go rfl rfl rfl (sem_assign ((Value.int .i64 (i18))) rfl ?_)
   refine Run.region_end ?_
   refine Run.seq ?_
   refine Run.seq ?_
   refine Run.ops0 (idx := [0, 1, 2]) rfl ?_
   refine Run.go rfl rfl rfl (sem_move ((Value.slice a1 n2 c3)) rfl ?_)
   refine Run.go rfl rfl rfl (sem_lenSl a1 n2 c3 rfl TF.sl_45 ?_)
   refine Run.go rfl rfl rfl (sem_move ((Value.int .i64 (0))) rfl ?_)
   refine Run.region_end ?_
   refine Run.block ?_
   obtain ⟨J27, m25, h0, hS⟩ := hS
   refine Run.of_fin (h0.imp fun h' h0 => ?_)
   refine Run.loop (σ := Int × Nat) (fun x e h => J27 x.1 x.2 h ∧ Agree [(1, (Value.string s4)), (5, (Value.pointer p11)), (6, (Value.pointer p13)), (31, (Value.slice a1 n2 c3)), (32, (Value.int .i64 ((n2 : Nat)))), (33, (Value.int .i64 (x.1)))] e) (fun x => x.2) ((0), m25) ⟨h0, ⟨rfl, rfl, rfl, rfl, rfl, rfl, trivial⟩⟩ ?_; clear h0
   rintro ⟨i22, m24⟩ e h23 ⟨hJ, hag⟩ ih26
   have hS := hS i22 m24 h23 hJ; clear hJ
   refine Run.env hag ?_; clear hag
   refine Run.seq ?_
   refine Run.ops0 (idx := [0]) rfl ?_
   obtain ⟨hT, hF⟩ := hS
   by_cases hb28 : (i22 : Int) < ((n2 : Nat))
   ·have hS := hT hb28; clear hT hF
    refine Run.go rfl rfl rfl (sem_binI .i64 (i22) ((n2 : Nat)) (.bool true) rfl rfl (binI_lss_t hb28) ?_)
    refine Run.region_end ?_
    refine Run.seq ?_
    refine Run.condT rfl ?_
    refine Run.skip ?_
    refine Run.seq ?_
    refine Run.block ?_
    refine Run.seq ?_
    refine Run.ops0 (idx := [0, 1, 2, 3, 4]) rfl ?_
    refine Run.go rfl rfl rfl (sem_move ((Value.int .i64 (i22))) rfl ?_)
    obtain ⟨A29, e30, hi0, hi1, hS⟩ := hS
    refine Run.go rfl rfl rfl (sem_indexAddrS A29 n2 c3 .i64 (i22) (congrArg (fun a => Value.slice a n2 c3) e30) rfl TF.slc_45 hi0 hi1 ?_)
    obtain ⟨s31, hl, hS⟩ := hS
    refine Run.go rfl rfl rfl (sem_load1 (Addr.add A29 (Int.toNat (i22) * 1)) ((Value.string s31)) rfl TF.agg_9 hl ?_)
    refine Run.go rfl rfl rfl (sem_assign ((Value.int .i64 (i22))) rfl ?_)
    refine Run.go rfl rfl rfl (sem_assign ((Value.string s31)) rfl ?_)
    refine Run.region_end ?_
    refine Run.seq ?_
    refine Run.seq ?_
    refine Run.ops0 (idx := [0, 1, 2]) rfl ?_
    refine Run.go rfl rfl rfl (sem_move ((Value.string s31)) rfl ?_)
    refine Run.go rfl rfl rfl (sem_lenStr s31 rfl TF.isStr_9 ?_)
    obtain ⟨hT, hF⟩ := hS
    by_cases hb32 : ((ByteArray.size s31 : Nat) : Int) > (900)
    ·have hS := hT hb32; clear hT hF
     refine Run.go rfl rfl rfl (sem_binI .i64 ((ByteArray.size s31 : Nat)) (900) (.bool true) rfl rfl (binI_gtr_t hb32) ?_)
     refine Run.region_end ?_
     refine Run.condT rfl ?_
     refine Run.seq ?_
     refine Run.ops0 (idx := [0]) rfl ?_
     refine Run.go rfl rfl rfl (sem_assign ((Value.bool true)) rfl ?_)
     refine Run.region_end ?_
     refine Run.ret ⟨.inr rfl, ?_⟩
     exact hS.imp fun h' hq => ⟨(true), rfl, hq⟩
    ·have hS := hF hb32; clear hT hF
     refine Run.go rfl rfl rfl (sem_binI .i64 ((ByteArray.size s31 : Nat)) (900) (.bool false) rfl rfl (binI_gtr_f hb32) ?_)
     refine Run.region_end ?_
     refine Run.condF rfl ?_
     refine Run.skip ?_
     refine Run.seqJ (fun e h34 => Agree [(1, (Value.string s4)), (5, (Value.pointer p11)), (6, (Value.pointer p13)), (9, (Value.int .i64 (i22))), (10, (Value.string s31)), (31, (Value.slice a1 n2 c3)), (32, (Value.int .i64 ((n2 : Nat)))), (33, (Value.int .i64 (i22)))] e ∧ S_countermandlaw05_VaultEpochs_J2 B a1 n2 c3 s4 p11 p13 i22 m24 J27 s31 h34 Q) ?_ fun j33 => ?_
     ·rintro e h34 ⟨hag, hS⟩
      refine Run.env hag ?_; clear hag
      refine Run.seq ?_
      refine Run.ops0 (idx := [0, 1, 2, 3, 4, 5, 6, 7, 8, 9]) rfl ?_
      refine Run.go rfl rfl rfl (sem_move ((Value.pointer p11)) rfl ?_)
      refine Run.go rfl rfl rfl (sem_callL [(Value.pointer p11)] (TF.goes_27) rfl rfl (Spec.mono hS fun v h35 hv => ?_))
      obtain ⟨p36, s37, a38, n39, c40, i41, rfl, hS⟩ := hv
      refine Run.go rfl rfl rfl (sem_move ((Value.tuple #[(Value.pointer p36), (Value.agg #[(Value.string s37), (Value.slice a38 n39 c40)]), (Value.int .i64 (i41))])) rfl ?_)
      refine Run.go rfl rfl rfl (sem_extract #[(Value.pointer p36), (Value.agg #[(Value.string s37), (Value.slice a38 n39 c40)]), (Value.int .i64 (i41))] ((Value.pointer p36)) rfl rfl ?_)
      refine Run.go rfl rfl rfl (sem_extract #[(Value.pointer p36), (Value.agg #[(Value.string s37), (Value.slice a38 n39 c40)]), (Value.int .i64 (i41))] ((Value.agg #[(Value.string s37), (Value.slice a38 n39 c40)])) rfl rfl ?_)
      refine Run.go rfl rfl rfl (sem_extract #[(Value.pointer p36), (Value.agg #[(Value.string s37), (Value.slice a38 n39 c40)]), (Value.int .i64 (i41))] ((Value.int .i64 (i41))) rfl rfl ?_)
      refine Run.go rfl rfl rfl (sem_allocN [(Value.string ByteArray.empty), (Value.slice none 0 0)] TF.zero_51 (fun k42 hb1 hb2 h43 hb3 => ?_))
      have hS := hS k42 hb1 hb2 h43 hb3
      refine Run.go rfl rfl rfl (sem_assign ((Value.pointer p36)) rfl ?_)
      obtain ⟨h44, hst, hS⟩ := hS
      refine Run.go rfl rfl rfl (sem_storeN ⟨k42, 0, none⟩ [(Value.string s37), (Value.slice a38 n39 c40)] h44 rfl rfl TF.sz_51 hst ?_)
      refine Run.go rfl rfl rfl (sem_assign ((Value.int .i64 (i41))) rfl ?_)
      refine Run.region_end ?_
      refine Run.seq ?_
      refine Run.ops0 (idx := [0, 1, 2, 3, 4, 5, 6, 7, 8, 9, 10, 11, 12, 13, 14, 15, 16, 17, 18, 19, 20, 21, 22, 23, 24]) rfl ?_
      refine Run.go rfl rfl rfl (sem_fieldAddr ⟨k42, 0, none⟩ 0 rfl TF.fld_51_0 ?_)
      obtain ⟨s45, hl, hS⟩ := hS
      refine Run.go rfl rfl rfl (sem_load1 ⟨k42, 0, none⟩ ((Value.string s45)) rfl TF.agg_9 hl ?_)
      refine Run.go rfl rfl rfl (sem_move ((Value.string s31)) rfl ?_)
      obtain ⟨hT, hF⟩ := hS
      by_cases hb46 : s45 = s31
      ·have hS := hT hb46; clear hT hF
       refine Run.go rfl rfl rfl (sem_strNeT s45 s31 rfl rfl hb46 ?_)
       refine Run.go rfl rfl rfl (sem_move ((Value.bool false)) rfl ?_)
       refine Run.go rfl rfl rfl (sem_fieldAddr ⟨k42, 0, none⟩ 1 rfl TF.fld_51_1 ?_)
       refine Run.ldSl hS fun a47 n48 c49 h50 hl hS => ?_
       refine Run.go rfl rfl rfl (sem_load1 ⟨k42, 1, none⟩ ((Value.slice a47 n48 c49)) rfl TF.agg_45 hl ?_)
       refine Run.go rfl rfl rfl (sem_lenSl a47 n48 c49 rfl TF.sl_45 ?_)
       obtain ⟨hT, hF⟩ := hS
       by_cases hb51 : ((n48 : Nat) : Int) = 1
       ·have hS := hT hb51; clear hT hF
        refine Run.go rfl rfl rfl (sem_binI .i64 ((n48 : Nat)) (1) (.bool false) rfl rfl (binI_neq_t hb51) ?_)
        refine Run.go rfl rfl rfl (sem_pick false ((Value.bool false)) rfl rfl ?_)
        refine Run.go rfl rfl rfl (sem_move ((Value.bool false)) rfl ?_)
        refine Run.go rfl rfl rfl (sem_fieldAddr ⟨k42, 0, none⟩ 1 rfl TF.fld_51_1 ?_)
        refine Run.ldSl hS fun a52 n53 c54 h55 hl hS => ?_
        refine Run.go rfl rfl rfl (sem_load1 ⟨k42, 1, none⟩ ((Value.slice a52 n53 c54)) rfl TF.agg_45 hl ?_)
        obtain ⟨A56, e57, hi0, hi1, hS⟩ := hS
        refine Run.go rfl rfl rfl (sem_indexAddrS A56 n53 c54 .i64 (0) (congrArg (fun a => Value.slice a n53 c54) e57) rfl TF.slc_45 hi0 hi1 ?_)
        obtain ⟨s58, hl, hS⟩ := hS
        refine Run.go rfl rfl rfl (sem_load1 (Addr.add A56 (Int.toNat (0) * 1)) ((Value.string s58)) rfl TF.agg_9 hl ?_)
        refine Run.go rfl rfl rfl (sem_move ((Value.string s4)) rfl ?_)
        obtain ⟨hT, hF⟩ := hS
        by_cases hb59 : s58 = s4
        ·have hS := hT hb59; clear hT hF
         refine Run.go rfl rfl rfl (sem_strNeT s58 s4 rfl rfl hb59 ?_)
         refine Run.go rfl rfl rfl (sem_pick false ((Value.bool false)) rfl rfl ?_)
         refine Run.go rfl rfl rfl (sem_move ((Value.bool false)) rfl ?_)
         refine Run.go rfl rfl rfl (sem_move ((Value.pointer p11)) rfl ?_)
         refine Run.go rfl rfl rfl (sem_move ((Value.int .i64 (i22))) rfl ?_)
         obtain ⟨hi0, hS⟩ := hS
         refine Run.go rfl rfl rfl (sem_binI .i64 (i22) (2) ((Value.int .i64 (Int.tmod (i22) (2)))) rfl rfl (binI_rem hi0) ?_)
         refine Run.go rfl rfl rfl (sem_callL [(Value.pointer p11), (Value.int .i64 (Int.tmod (i22) (2)))] (TF.goes_39) rfl rfl (Spec.mono hS fun v h60 hv => ?_))
         obtain ⟨s61, rfl, hS⟩ := hv
         obtain ⟨hT, hF⟩ := hS
         by_cases hb62 : s61 = (ByteArray.mk #[])
         ·have hS := hT hb62; clear hT hF
          refine Run.go rfl rfl rfl (sem_strNeT s61 (ByteArray.mk #[]) rfl rfl hb62 ?_)
          refine Run.go rfl rfl rfl (sem_pick false ((Value.bool false)) rfl rfl ?_)
          refine Run.region_end ?_
          refine Run.condF rfl ?_
          refine Run.skip ?_
          refine Run.inBlock ?_
          refine Run.ops0 (idx := [0, 1]) rfl ?_
          refine Run.go rfl rfl rfl (sem_binI .i64 (i22) (1) ((Value.int .i64 (IntKind.wrap .i64 ((i22) + (1))))) rfl rfl rfl ?_)
          refine Run.go rfl rfl rfl (sem_move ((Value.int .i64 (IntKind.wrap .i64 ((i22) + (1))))) rfl ?_)
          refine Run.region_end ?_
          exact Run.of_fin (hS.imp fun h' ⟨m', hm, hS⟩ => ih26 ((IntKind.wrap .i64 ((i22) + (1))), m') _ _ ⟨hS, ⟨rfl, rfl, rfl, rfl, rfl, rfl, trivial⟩⟩ hm)
         ·have hS := hF hb62; clear hT hF
          refine Run.go rfl rfl rfl (sem_strNeF s61 (ByteArray.mk #[]) rfl rfl hb62 ?_)
          refine Run.go rfl rfl rfl (sem_pick false ((Value.bool true)) rfl rfl ?_)
          refine Run.region_end ?_
          refine Run.condT rfl ?_
          refine Run.seq ?_
          refine Run.ops0 (idx := [0]) rfl ?_
          refine Run.go rfl rfl rfl (sem_assign ((Value.bool false)) rfl ?_)
          refine Run.region_end ?_
          refine Run.ret ⟨.inr rfl, ?_⟩
          exact hS.imp fun h' hq => ⟨(false), rfl, hq⟩
        ·have hS := hF hb59; clear hT hF
         refine Run.go rfl rfl rfl (sem_strNeF s58 s4 rfl rfl hb59 ?_)
         refine Run.go rfl rfl rfl (sem_pick false ((Value.bool true)) rfl rfl ?_)
         refine Run.go rfl rfl rfl (sem_move ((Value.bool true)) rfl ?_)
         refine Run.no rfl rfl rfl ?_
         refine Run.no rfl rfl rfl ?_
         refine Run.no rfl rfl rfl ?_
         refine Run.no rfl rfl rfl ?_
         refine Run.no rfl rfl rfl ?_
         refine Run.go rfl rfl rfl (sem_pick true ((Value.bool true)) rfl rfl ?_)
         refine Run.region_end ?_
         refine Run.condT rfl ?_
         refine Run.seq ?_
         refine Run.ops0 (idx := [0]) rfl ?_
         refine Run.go rfl rfl rfl (sem_assign ((Value.bool false)) rfl ?_)
         refine Run.region_end ?_
         refine Run.ret ⟨.inr rfl, ?_⟩
         exact hS.imp fun h' hq => ⟨(false), rfl, hq⟩
       ·have hS := hF hb51; clear hT hF
        refine Run.go rfl rfl rfl (sem_binI .i64 ((n48 : Nat)) (1) (.bool true) rfl rfl (binI_neq_f hb51) ?_)
        refine Run.go rfl rfl rfl (sem_pick false ((Value.bool true)) rfl rfl ?_)
        refine Run.go rfl rfl rfl (sem_move ((Value.bool true)) rfl ?_)
        refine Run.no rfl rfl rfl ?_
        refine Run.no rfl rfl rfl ?_
        refine Run.no rfl rfl rfl ?_
        refine Run.no rfl rfl rfl ?_
        refine Run.no rfl rfl rfl ?_
        refine Run.no rfl rfl rfl ?_
        refine Run.go rfl rfl rfl (sem_pick true ((Value.bool true)) rfl rfl ?_)
        refine Run.go rfl rfl rfl (sem_move ((Value.bool true)) rfl ?_)
        refine Run.no rfl rfl rfl ?_
        refine Run.no rfl rfl rfl ?_
        refine Run.no rfl rfl rfl ?_
        refine Run.no rfl rfl rfl ?_
        refine Run.no rfl rfl rfl ?_
        refine Run.go rfl rfl rfl (sem_pick true ((Value.bool true)) rfl rfl ?_)
        refine Run.region_end ?_
        refine Run.condT rfl ?_
        refine Run.seq ?_
        refine Run.ops0 (idx := [0]) rfl ?_
        refine Run.go rfl rfl rfl (sem_assign ((Value.bool false)) rfl ?_)
        refine Run.region_end ?_
        refine Run.ret ⟨.inr rfl, ?_⟩
        exact hS.imp fun h' hq => ⟨(false), rfl, hq⟩
      ·have hS := hF hb46; clear hT hF
       refine Run.go rfl rfl rfl (sem_strNeF s45 s31 rfl rfl hb46 ?_)
       refine Run.go rfl rfl rfl (sem_move ((Value.bool true)) rfl ?_)
       refine Run.no rfl rfl rfl ?_
       refine Run.no rfl rfl rfl ?_
       refine Run.no rfl rfl rfl ?_
       refine Run.no rfl rfl rfl ?_
       refine Run.go rfl rfl rfl (sem_pick true ((Value.bool true)) rfl rfl ?_)
       refine Run.go rfl rfl rfl (sem_move ((Value.bool true)) rfl ?_)
       refine Run.no rfl rfl rfl ?_
       refine Run.no rfl rfl rfl ?_
       refine Run.no rfl rfl rfl ?_
       refine Run.no rfl rfl rfl ?_
       refine Run.no rfl rfl rfl ?_
       refine Run.no rfl rfl rfl ?_
       refine Run.go rfl rfl rfl (sem_pick true ((Value.bool true)) rfl rfl ?_)
       refine Run.go rfl rfl rfl (sem_move ((Value.bool true)) rfl ?_)
       refine Run.no rfl rfl rfl ?_
       refine Run.no rfl rfl rfl ?_
       refine Run.no rfl rfl rfl ?_
       refine Run.no rfl rfl rfl ?_
       refine Run.no rfl rfl rfl ?_
       refine Run.go rfl rfl rfl (sem_pick true ((Value.bool true)) rfl rfl ?_)
       refine Run.region_end ?_
       refine Run.condT rfl ?_
       refine Run.seq ?_
       refine Run.ops0 (idx := [0]) rfl ?_
       refine Run.go rfl rfl rfl (sem_assign ((Value.bool false)) rfl ?_)
       refine Run.region_end ?_
       refine Run.ret ⟨.inr rfl, ?_⟩
       exact hS.imp fun h' hq => ⟨(false), rfl, hq⟩
     refine Run.seq ?_
     refine Run.ops0 (idx := [0, 1, 2, 3, 4, 5, 6, 7, 8, 9, 10, 11, 12, 13, 14, 15, 16]) rfl ?_
     refine Run.go rfl rfl rfl (sem_move ((Value.pointer p13)) rfl ?_)
     refine Run.go rfl rfl rfl (sem_move ((Value.string s31)) rfl ?_)
     refine Run.go rfl rfl rfl (sem_callL [(Value.pointer p13), (Value.string s31)] (TF.goes_28) rfl rfl (Spec.mono hS fun v h63 hv => ?_))
     obtain ⟨i64, rfl, hS⟩ := hv
     obtain ⟨hT, hF⟩ := hS
     by_cases hb65 : (i64 : Int) = 0
     ·have hS := hT hb65; clear hT hF
      refine Run.go rfl rfl rfl (sem_binI .i64 (i64) (0) (.bool false) rfl rfl (binI_neq_t hb65) ?_)
      refine Run.go rfl rfl rfl (sem_move ((Value.bool false)) rfl ?_)
      refine Run.go rfl rfl rfl (sem_move ((Value.pointer p13)) rfl ?_)
      refine Run.go rfl rfl rfl (sem_callL [(Value.pointer p13)] (TF.goes_38) rfl rfl (Spec.mono hS fun v h66 hv => ?_))
      obtain ⟨i67, rfl, hS⟩ := hv
      refine Run.go rfl rfl rfl (sem_move ((Value.int .i64 (i22))) rfl ?_)
      refine Run.go rfl rfl rfl (sem_binI .i64 (i22) (1) ((Value.int .i64 (IntKind.wrap .i64 ((i22) + (1))))) rfl rfl rfl ?_)
      obtain ⟨hT, hF⟩ := hS
      by_cases hb68 : (i67 : Int) = IntKind.wrap .i64 ((i22) + (1))
      ·have hS := hT hb68; clear hT hF
       refine Run.go rfl rfl rfl (sem_binI .i64 (i67) (IntKind.wrap .i64 ((i22) + (1))) (.bool false) rfl rfl (binI_neq_t hb68) ?_)
       refine Run.go rfl rfl rfl (sem_pick false ((Value.bool false)) rfl rfl ?_)
       refine Run.go rfl rfl rfl (sem_move ((Value.bool false)) rfl ?_)
       refine Run.go rfl rfl rfl (sem_move ((Value.pointer p13)) rfl ?_)
       refine Run.go rfl rfl rfl (sem_move ((Value.string s4)) rfl ?_)
       refine Run.go rfl rfl rfl (sem_callL [(Value.pointer p13), (Value.string s4)] (TF.goes_29) rfl rfl (Spec.mono hS fun v h69 hv => ?_))
       obtain ⟨i70, rfl, hS⟩ := hv
       obtain ⟨hT, hF⟩ := hS
       by_cases hb71 : (i70 : Int) = 0
       ·have hS := hT hb71; clear hT hF
        refine Run.go rfl rfl rfl (sem_binI .i64 (i70) (0) (.bool false) rfl rfl (binI_neq_t hb71) ?_)
        refine Run.go rfl rfl rfl (sem_pick false ((Value.bool false)) rfl rfl ?_)
        refine Run.region_end ?_
        refine Run.condF rfl ?_
        refine Run.skip ?_
        exact Run.of_fin (hS.imp fun h' hS => j33 _ _ ⟨⟨rfl, rfl, rfl, rfl, rfl, rfl, rfl, rfl, trivial⟩, hS⟩)
       ·have hS := hF hb71; clear hT hF
        refine Run.go rfl rfl rfl (sem_binI .i64 (i70) (0) (.bool true) rfl rfl (binI_neq_f hb71) ?_)
        refine Run.go rfl rfl rfl (sem_pick false ((Value.bool true)) rfl rfl ?_)
        refine Run.region_end ?_
        refine Run.condT rfl ?_
        refine Run.seq ?_
        refine Run.ops0 (idx := [0]) rfl ?_
        refine Run.go rfl rfl rfl (sem_assign ((Value.bool false)) rfl ?_)
        refine Run.region_end ?_
        refine Run.ret ⟨.inr rfl, ?_⟩
        exact hS.imp fun h' hq => ⟨(false), rfl, hq⟩
      ·have hS := hF hb68; clear hT hF
       refine Run.go rfl rfl rfl (sem_binI .i64 (i67) (IntKind.wrap .i64 ((i22) + (1))) (.bool true) rfl rfl (binI_neq_f hb68) ?_)
       refine Run.go rfl rfl rfl (sem_pick false ((Value.bool true)) rfl rfl ?_)
       refine Run.go rfl rfl rfl (sem_move ((Value.bool true)) rfl ?_)
       refine Run.no rfl rfl rfl ?_
       refine Run.no rfl rfl rfl ?_
       refine Run.no rfl rfl rfl ?_
       refine Run.no rfl rfl rfl ?_
       refine Run.go rfl rfl rfl (sem_pick true ((Value.bool true)) rfl rfl ?_)
       refine Run.region_end ?_
       refine Run.condT rfl ?_
       refine Run.seq ?_
       refine Run.ops0 (idx := [0]) rfl ?_
       refine Run.go rfl rfl rfl (sem_assign ((Value.bool false)) rfl ?_)
       refine Run.region_end ?_
       refine Run.ret ⟨.inr rfl, ?_⟩
       exact hS.imp fun h' hq => ⟨(false), rfl, hq⟩
     ·have hS := hF hb65; clear hT hF
      refine Run.go rfl rfl rfl (sem_binI .i64 (i64) (0) (.bool true) rfl rfl (binI_neq_f hb65) ?_)
      refine Run.go rfl rfl rfl (sem_move ((Value.bool true)) rfl ?_)
      refine Run.no rfl rfl rfl ?_
      refine Run.no rfl rfl rfl ?_
      refine Run.no rfl rfl rfl ?_
      refine Run.no rfl rfl rfl ?_
      refine Run.no rfl rfl rfl ?_
      refine Run.go rfl rfl rfl (sem_pick true ((Value.bool true)) rfl rfl ?_)
      refine Run.go rfl rfl rfl (sem_move ((Value.bool true)) rfl ?_)
      refine Run.no rfl rfl rfl ?_
      refine Run.no rfl rfl rfl ?_
      refine Run.no rfl rfl rfl ?_
      refine Run.no rfl rfl rfl ?_
      refine Run.go rfl rfl rfl (sem_pick true ((Value.bool true)) rfl rfl ?_)
      refine Run.region_end ?_
      refine Run.condT rfl ?_
      refine Run.seq ?_
      refine Run.ops0 (idx := [0]) rfl ?_
      refine Run.go rfl rfl rfl (sem_assign ((Value.bool false)) rfl ?_)
      refine Run.region_end ?_
      refine Run.ret ⟨.inr rfl, ?_⟩
      exact hS.imp fun h' hq => ⟨(false), rfl, hq⟩
   ·have hS := hF hb28; clear hT hF
    refine Run.go rfl rfl rfl (sem_binI .i64 (i22) ((n2 : Nat)) (.bool false) rfl rfl (binI_lss_f hb28) ?_)
    refine Run.region_end ?_
    refine Run.seq ?_
    refine Run.condF rfl ?_
    refine Run.exit rfl ?_
    refine Run.seq ?_
    refine Run.ops0 (idx := [0]) rfl ?_
    refine Run.go rfl rfl rfl (sem_assign ((Value.bool true)) rfl ?_)
    refine Run.region_end ?_
    refine Run.ret ⟨.inr rfl, ?_⟩
    exact hS.imp fun h' hq => ⟨(true), rfl, hq⟩
  refine Run.seq ?_
  refine Run.ops0 (idx := [0, 1, 2, 3, 4, 5, 6, 7]) rfl ?_
  refine Run.go rfl rfl rfl (sem_move ((Value.slice a1 n2 c3)) rfl ?_)
  refine Run.go rfl rfl rfl (sem_lenSl a1 n2 c3 rfl TF.sl_45 ?_)
  obtain ⟨hT, hF⟩ := hS
  by_cases hb72 : ((n2 : Nat) : Int) > (40)
  ·have hS := hT hb72; clear hT hF
   refine Run.go rfl rfl rfl (sem_binI .i64 ((n2 : Nat)) (40) (.bool true) rfl rfl (binI_gtr_t hb72) ?_)
   refine Run.go rfl rfl rfl (sem_move ((Value.bool true)) rfl ?_)
   refine Run.no rfl rfl rfl ?_
   refine Run.no rfl rfl rfl ?_
   refine Run.no rfl rfl rfl ?_
   refine Run.go rfl rfl rfl (sem_pick true ((Value.bool true)) rfl rfl ?_)
   refine Run.region_end ?_
   refine Run.condT rfl ?_
   refine Run.seq ?_
   refine Run.ops0 (idx := [0]) rfl ?_
   refine Run.go rfl rfl rfl (sem_assign ((Value.bool true)) rfl ?_)
   refine Run.region_end ?_
   refine Run.ret ⟨.inr rfl, ?_⟩
   exact hS.imp fun h' hq => ⟨(true), rfl, hq⟩
  ·have hS := hF hb72; clear hT hF
   refine Run.go rfl rfl rfl (sem_binI .i64 ((n2 : Nat)) (40) (.bool false) rfl rfl (binI_gtr_f hb72) ?_)
   refine Run.go rfl rfl rfl (sem_move ((Value.bool false)) rfl ?_)
   refine Run.go rfl rfl rfl (sem_move ((Value.string s4)) rfl ?_)
   refine Run.go rfl rfl rfl (sem_lenStr s4 rfl TF.isStr_9 ?_)
   obtain ⟨hT, hF⟩ := hS
   by_cases hb73 : ((ByteArray.size s4 : Nat) : Int) > (900)
   ·have hS := hT hb73; clear hT hF
    refine Run.go rfl rfl rfl (sem_binI .i64 ((ByteArray.size s4 : Nat)) (900) (.bool true) rfl rfl (binI_gtr_t hb73) ?_)
    refine Run.go rfl rfl rfl (sem_pick false ((Value.bool true)) rfl rfl ?_)
    refine Run.region_end ?_
    refine Run.condT rfl ?_
    refine Run.seq ?_
    refine Run.ops0 (idx := [0]) rfl ?_
    refine Run.go rfl rfl rfl (sem_assign ((Value.bool true)) rfl ?_)
    refine Run.region_end ?_
    refine Run.ret ⟨.inr rfl, ?_⟩
    exact hS.imp fun h' hq => ⟨(true), rfl, hq⟩
   ·have hS := hF hb73; clear hT hF
    refine Run.go rfl rfl rfl (sem_binI .i64 ((ByteArray.size s4 : Nat)) (900) (.bool false) rfl rfl (binI_gtr_f hb73) ?_)
    refine Run.go rfl rfl rfl (sem_pick false ((Value.bool false)) rfl rfl ?_)
    refine Run.region_end ?_
    refine Run.condF rfl ?_
    refine Run.skip ?_
    exact Run.of_fin (hS.imp fun h' hS => j8 _ _ ⟨⟨rfl, rfl, trivial⟩, hS⟩)
set_option maxHeartbeats 4000000 in
theorem C_countermandlaw05_VaultFull.of {B : RO} {s1 : ByteArray} {s2 : ByteArray} {i3 : Int} {h : Heap} {Q : Bool → Heap → Prop} (hS : S_countermandlaw05_VaultFull B s1 s2 i3 h Q) : C_countermandlaw05_VaultFull B s1 s2 i3 h Q := by
 unfold S_countermandlaw05_VaultFull at hS
 unfold C_countermandlaw05_VaultFull
 refine Spec.of_run Try.func7 (N := 121) (rs := [ResultVar.tmp 6]) rfl rfl rfl (Nat.le_of_ble_eq_true rfl) ?_
 refine Run.seq ?_
 refine Run.ops0 (idx := [0]) rfl ?_
 refine Run.go rfl rfl rfl (sem_assign ((Value.bool false)) rfl ?_)
 refine Run.region_end ?_
 refine Run.seq ?_
 refine Run.seq ?_
 refine Run.ops0 (idx := [0, 1]) rfl ?_
 refine Run.go rfl rfl rfl (sem_callL [] (TF.goes_24) rfl rfl (Spec.mono hS fun v h5 hv => ?_))
 obtain ⟨b6, rfl, hS⟩ := hv
 obtain ⟨hT, hF⟩ := hS
 cases b6
 ·have hS := hF rfl; clear hT hF
  refine Run.go rfl rfl rfl (sem_not false rfl ?_)
  refine Run.region_end ?_
  refine Run.condT rfl ?_
  refine Run.seq ?_
  refine Run.ops0 (idx := [0]) rfl ?_
  refine Run.go rfl rfl rfl (sem_assign ((Value.bool false)) rfl ?_)
  refine Run.region_end ?_
  refine Run.ret ⟨.inr rfl, ?_⟩
  exact hS.imp fun h' hq => ⟨(false), rfl, hq⟩
 ·have hS := hT rfl; clear hT hF
  refine Run.go rfl rfl rfl (sem_not true rfl ?_)
  refine Run.region_end ?_
  refine Run.condF rfl ?_
  refine Run.skip ?_
  refine Run.seqJ (fun e h8 => Agree [(0, (Value.string s1)), (1, (Value.string s2)), (2, (Value.int .i64 (i3)))] e ∧ S_countermandlaw05_VaultFull_J1 B s1 s2 i3 h8 Q) ?_ fun j7 => ?_
  ·rintro e h8 ⟨hag, hS⟩
   refine Run.env hag ?_; clear hag
   refine Run.seq ?_
   refine Run.ops0 (idx := [0, 1]) rfl ?_
   refine Run.go rfl rfl rfl (sem_callL [] (TF.goes_26) rfl rfl (Spec.mono hS fun v h9 hv => ?_))
   obtain ⟨p10, rfl, hS⟩ := hv
   refine Run.go rfl rfl rfl (sem_assign ((Value.pointer p10)) rfl ?_)
   refine Run.region_end ?_
   refine Run.seq ?_
   refine Run.ops0 (idx := [0, 1, 2, 3, 4]) rfl ?_
   refine Run.go rfl rfl rfl (sem_move ((Value.int .i64 (i3))) rfl ?_)
   refine Run.go rfl rfl rfl (sem_binI .i64 (1099511627776) (i3) ((Value.int .i64 (IntKind.wrap .i64 ((1099511627776) - (i3))))) rfl rfl rfl ?_)
   refine Run.go rfl rfl rfl (sem_move ((Value.string s1)) rfl ?_)
   refine Run.go rfl rfl rfl (sem_callL [(Value.int .i64 (IntKind.wrap .i64 ((1099511627776) - (i3)))), (Value.string s1)] (TF.goes_31) rfl rfl (Spec.mono hS fun v h11 hv => ?_))
   obtain ⟨s12, rfl, hS⟩ := hv
   refine Run.go rfl rfl rfl (sem_assign ((Value.string s12)) rfl ?_)
   refine Run.region_end ?_
   refine Run.seq ?_
   refine Run.ops0 (idx := [0, 1, 2]) rfl ?_
   refine Run.go rfl rfl rfl (sem_move ((Value.pointer p10)) rfl ?_)
   refine Run.go rfl rfl rfl (sem_move ((Value.string s12)) rfl ?_)
   refine Run.go rfl rfl rfl (sem_callL [(Value.pointer p10), (Value.int .i64 (0)), (Value.string s12)] (TF.goes_34) rfl rfl (Spec.mono hS fun v h13 hv => ?_))
   obtain ⟨i14, rfl, hS⟩ := hv
   refine Run.region_end ?_
   refine Run.seq ?_
   refine Run.ops0 (idx := [0, 1]) rfl ?_
   refine Run.go rfl rfl rfl (sem_move ((Value.pointer p10)) rfl ?_)
   refine Run.go rfl rfl rfl (sem_callL [(Value.pointer p10)] (TF.goes_33) rfl rfl (Spec.mono hS fun v h15 hv => ?_))
   obtain ⟨rfl, hS⟩ := hv
   refine Run.region_end ?_
   refine Run.seq ?_
   refine Run.ops0 (idx := [0, 1, 2, 3, 4, 5, 6, 7, 8, 9]) rfl ?_
   refine Run.go rfl rfl rfl (sem_move ((Value.pointer p10)) rfl ?_)
   refine Run.go rfl rfl rfl (sem_callL [(Value.pointer p10)] (TF.goes_27) rfl rfl (Spec.mono hS fun v h16 hv => ?_))
   obtain ⟨p17, s18, a19, n20, c21, i22, rfl, hS⟩ := hv
   refine Run.go rfl rfl rfl (sem_move ((Value.tuple #[(Value.pointer p17), (Value.agg #[(Value.string s18), (Value.slice a19 n20 c21)]), (Value.int .i64 (i22))])) rfl ?_)
   refine Run.go rfl rfl rfl (sem_extract #[(Value.pointer p17), (Value.agg #[(Value.string s18), (Value.slice a19 n20 c21)]), (Value.int .i64 (i22))] ((Value.pointer p17)) rfl rfl ?_)
   refine Run.go rfl rfl rfl (sem_extract #[(Value.pointer p17), (Value.agg #[(Value.string s18), (Value.slice a19 n20 c21)]), (Value.int .i64 (i22))] ((Value.agg #[(Value.string s18), (Value.slice a19 n20 c21)])) rfl rfl ?_)
   refine Run.go rfl rfl rfl (sem_extract #[(Value.pointer p17), (Value.agg #[(Value.string s18), (Value.slice a19 n20 c21)]), (Value.int .i64 (i22))] ((Value.int .i64 (i22))) rfl rfl ?_)
   refine Run.go rfl rfl rfl (sem_allocN [(Value.string ByteArray.empty), (Value.slice none 0 0)] TF.zero_51 (fun k23 hb1 hb2 h24 hb3 => ?_))
   have hS := hS k23 hb1 hb2 h24 hb3
   refine Run.go rfl rfl rfl (sem_assign ((Value.pointer p17)) rfl ?_)
   obtain ⟨h25, hst, hS⟩ := hS
   refine Run.go rfl rfl rfl (sem_storeN ⟨k23, 0, none⟩ [(Value.string s18), (Value.slice a19 n20 c21)] h25 rfl rfl TF.sz_51 hst ?_)
   refine Run.go rfl rfl rfl (sem_assign ((Value.int .i64 (i22))) rfl ?_)
   refine Run.region_end ?_
   refine Run.seqJ (fun e h27 => Agree [(1, (Value.string s2)), (2, (Value.int .i64 (i3))), (7, (Value.pointer p10)), (8, (Value.string s12)), (9, (Value.pointer p17))] e ∧ S_countermandlaw05_VaultFull_J2 B s2 i3 p10 s12 p17 h27 Q) ?_ fun j26 => ?_
   ·rintro e h27 ⟨hag, hS⟩
    refine Run.env hag ?_; clear hag
    refine Run.seq ?_
    refine Run.ops0 (idx := [0, 1, 2, 3]) rfl ?_
    refine Run.go rfl rfl rfl (sem_move ((Value.pointer p17)) rfl ?_)
    refine Run.go rfl rfl rfl (sem_move ((Value.string s2)) rfl ?_)
    refine Run.go rfl rfl rfl (sem_callL [(Value.pointer p17), (Value.string s2)] (TF.goes_28) rfl rfl (Spec.mono hS fun v h28 hv => ?_))
    obtain ⟨i29, rfl, hS⟩ := hv
    refine Run.go rfl rfl rfl (sem_assign ((Value.int .i64 (i29))) rfl ?_)
    refine Run.region_end ?_
    refine Run.seq ?_
    refine Run.seq ?_
    refine Run.ops0 (idx := [0, 1]) rfl ?_
    refine Run.go rfl rfl rfl (sem_move ((Value.int .i64 (i3))) rfl ?_)
    obtain ⟨hT, hF⟩ := hS
    by_cases hb30 : (i3 : Int) = 0
    ·have hS := hT hb30; clear hT hF
     refine Run.go rfl rfl rfl (sem_binI .i64 (i3) (0) (.bool true) rfl rfl (binI_eql_t hb30) ?_)
     refine Run.region_end ?_
     refine Run.condT rfl ?_
     refine Run.seq ?_
     refine Run.ops0 (idx := [0, 1, 2, 3, 4, 5, 6, 7, 8, 9, 10, 11, 12, 13, 14, 15, 16, 17, 18, 19, 20, 21, 22, 23, 24]) rfl ?_
     refine Run.go rfl rfl rfl (sem_move ((Value.int .i64 (i29))) rfl ?_)
     obtain ⟨hT, hF⟩ := hS
     by_cases hb31 : (i29 : Int) = 6
     ·have hS := hT hb31; clear hT hF
      refine Run.go rfl rfl rfl (sem_binI .i64 (i29) (6) (.bool true) rfl rfl (binI_eql_t hb31) ?_)
      refine Run.go rfl rfl rfl (sem_move ((Value.bool true)) rfl ?_)
      refine Run.go rfl rfl rfl (sem_move ((Value.pointer p10)) rfl ?_)
      refine Run.go rfl rfl rfl (sem_callL [(Value.pointer p10), (Value.int .i64 (0))] (TF.goes_39) rfl rfl (Spec.mono hS fun v h32 hv => ?_))
      obtain ⟨s33, rfl, hS⟩ := hv
      refine Run.go rfl rfl rfl (sem_move ((Value.string s12)) rfl ?_)
      obtain ⟨hT, hF⟩ := hS
      by_cases hb34 : s33 = s12
      ·have hS := hT hb34; clear hT hF
       refine Run.go rfl rfl rfl (sem_strEqT s33 s12 rfl rfl hb34 ?_)
       refine Run.go rfl rfl rfl (sem_pick true ((Value.bool true)) rfl rfl ?_)
       refine Run.go rfl rfl rfl (sem_move ((Value.bool true)) rfl ?_)
       refine Run.go rfl rfl rfl (sem_move ((Value.pointer p10)) rfl ?_)
       refine Run.go rfl rfl rfl (sem_callL [(Value.pointer p10), (Value.int .i64 (1))] (TF.goes_39) rfl rfl (Spec.mono hS fun v h35 hv => ?_))
       obtain ⟨s36, rfl, hS⟩ := hv
       obtain ⟨hT, hF⟩ := hS
       by_cases hb37 : s36 = (ByteArray.mk #[])
       ·have hS := hT hb37; clear hT hF
        refine Run.go rfl rfl rfl (sem_strEqT s36 (ByteArray.mk #[]) rfl rfl hb37 ?_)
        refine Run.go rfl rfl rfl (sem_pick true ((Value.bool true)) rfl rfl ?_)
        refine Run.go rfl rfl rfl (sem_move ((Value.bool true)) rfl ?_)
        refine Run.go rfl rfl rfl (sem_move ((Value.pointer p10)) rfl ?_)
        refine Run.go rfl rfl rfl (sem_callL [(Value.pointer p10)] (TF.goes_40) rfl rfl (Spec.mono hS fun v h38 hv => ?_))
        obtain ⟨i39, rfl, hS⟩ := hv
        obtain ⟨hT, hF⟩ := hS
        by_cases hb40 : (i39 : Int) = 0
        ·have hS := hT hb40; clear hT hF
         refine Run.go rfl rfl rfl (sem_binI .i64 (i39) (0) (.bool true) rfl rfl (binI_eql_t hb40) ?_)
         refine Run.go rfl rfl rfl (sem_pick true ((Value.bool true)) rfl rfl ?_)
         refine Run.go rfl rfl rfl (sem_move ((Value.bool true)) rfl ?_)
         refine Run.go rfl rfl rfl (sem_move ((Value.pointer p17)) rfl ?_)
         refine Run.go rfl rfl rfl (sem_move ((Value.string s2)) rfl ?_)
         refine Run.go rfl rfl rfl (sem_callL [(Value.pointer p17), (Value.string s2)] (TF.goes_29) rfl rfl (Spec.mono hS fun v h41 hv => ?_))
         obtain ⟨i42, rfl, hS⟩ := hv
         refine Run.go rfl rfl rfl (sem_binI .i64 (i42) (9) ((Value.bool ((i42 : Int) == (9)))) rfl rfl rfl ?_)
         refine Run.go rfl rfl rfl (sem_pick true ((Value.bool ((i42 : Int) == (9)))) rfl rfl ?_)
         refine Run.go rfl rfl rfl (sem_assign ((Value.bool ((i42 : Int) == (9)))) rfl ?_)
         refine Run.region_end ?_
         refine Run.ret ⟨.inr rfl, ?_⟩
         exact hS.imp fun h' hq => ⟨(((i42 : Int) == (9))), rfl, hq⟩
        ·have hS := hF hb40; clear hT hF
         refine Run.go rfl rfl rfl (sem_binI .i64 (i39) (0) (.bool false) rfl rfl (binI_eql_f hb40) ?_)
         refine Run.go rfl rfl rfl (sem_pick true ((Value.bool false)) rfl rfl ?_)
         refine Run.go rfl rfl rfl (sem_move ((Value.bool false)) rfl ?_)
         refine Run.no rfl rfl rfl ?_
         refine Run.no rfl rfl rfl ?_
         refine Run.no rfl rfl rfl ?_
         refine Run.no rfl rfl rfl ?_
         refine Run.go rfl rfl rfl (sem_pick false ((Value.bool false)) rfl rfl ?_)
         refine Run.go rfl rfl rfl (sem_assign ((Value.bool false)) rfl ?_)
         refine Run.region_end ?_
         refine Run.ret ⟨.inr rfl, ?_⟩
         exact hS.imp fun h' hq => ⟨(false), rfl, hq⟩
       ·have hS := hF hb37; clear hT hF
        refine Run.go rfl rfl rfl (sem_strEqF s36 (ByteArray.mk #[]) rfl rfl hb37 ?_)
        refine Run.go rfl rfl rfl (sem_pick true ((Value.bool false)) rfl rfl ?_)
        refine Run.go rfl rfl rfl (sem_move ((Value.bool false)) rfl ?_)
        refine Run.no rfl rfl rfl ?_
        refine Run.no rfl rfl rfl ?_
        refine Run.no rfl rfl rfl ?_
        refine Run.go rfl rfl rfl (sem_pick false ((Value.bool false)) rfl rfl ?_)
        refine Run.go rfl rfl rfl (sem_move ((Value.bool false)) rfl ?_)
        refine Run.no rfl rfl rfl ?_
        refine Run.no rfl rfl rfl ?_
        refine Run.no rfl rfl rfl ?_
        refine Run.no rfl rfl rfl ?_
        refine Run.go rfl rfl rfl (sem_pick false ((Value.bool false)) rfl rfl ?_)
        refine Run.go rfl rfl rfl (sem_assign ((Value.bool false)) rfl ?_)
        refine Run.region_end ?_
        refine Run.ret ⟨.inr rfl, ?_⟩
        exact hS.imp fun h' hq => ⟨(false), rfl, hq⟩
      ·have hS := hF hb34; clear hT hF
       refine Run.go rfl rfl rfl (sem_strEqF s33 s12 rfl rfl hb34 ?_)
       refine Run.go rfl rfl rfl (sem_pick true ((Value.bool false)) rfl rfl ?_)
       refine Run.go rfl rfl rfl (sem_move ((Value.bool false)) rfl ?_)
       refine Run.no rfl rfl rfl ?_
       refine Run.no rfl rfl rfl ?_
       refine Run.no rfl rfl rfl ?_
       refine Run.go rfl rfl rfl (sem_pick false ((Value.bool false)) rfl rfl ?_)
       refine Run.go rfl rfl rfl (sem_move ((Value.bool false)) rfl ?_)
       refine Run.no rfl rfl rfl ?_
       refine Run.no rfl rfl rfl ?_
       refine Run.no rfl rfl rfl ?_
       refine Run.go rfl rfl rfl (sem_pick false ((Value.bool false)) rfl rfl ?_)
       refine Run.go rfl rfl rfl (sem_move ((Value.bool false)) rfl ?_)
       refine Run.no rfl rfl rfl ?_
       refine Run.no rfl rfl rfl ?_
       refine Run.no rfl rfl rfl ?_
       refine Run.no rfl rfl rfl ?_
       refine Run.go rfl rfl rfl (sem_pick false ((Value.bool false)) rfl rfl ?_)
       refine Run.go rfl rfl rfl (sem_assign ((Value.bool false)) rfl ?_)
       refine Run.region_end ?_
       refine Run.ret ⟨.inr rfl, ?_⟩
       exact hS.imp fun h' hq => ⟨(false), rfl, hq⟩
     ·have hS := hF hb31; clear hT hF
      refine Run.go rfl rfl rfl (sem_binI .i64 (i29) (6) (.bool false) rfl rfl (binI_eql_f hb31) ?_)
      refine Run.go rfl rfl rfl (sem_move ((Value.bool false)) rfl ?_)
      refine Run.no rfl rfl rfl ?_
      refine Run.no rfl rfl rfl ?_
      refine Run.no rfl rfl rfl ?_
      refine Run.no rfl rfl rfl ?_
      refine Run.go rfl rfl rfl (sem_pick false ((Value.bool false)) rfl rfl ?_)
      refine Run.go rfl rfl rfl (sem_move ((Value.bool false)) rfl ?_)
      refine Run.no rfl rfl rfl ?_
      refine Run.no rfl rfl rfl ?_
      refine Run.no rfl rfl rfl ?_
      refine Run.go rfl rfl rfl (sem_pick false ((Value.bool false)) rfl rfl ?_)
      refine Run.go rfl rfl rfl (sem_move ((Value.bool false)) rfl ?_)
      refine Run.no rfl rfl rfl ?_
      refine Run.no rfl rfl rfl ?_
      refine Run.no rfl rfl rfl ?_
      refine Run.go rfl rfl rfl (sem_pick false ((Value.bool false)) rfl rfl ?_)
      refine Run.go rfl rfl rfl (sem_move ((Value.bool false)) rfl ?_)
      refine Run.no rfl rfl rfl ?_
      refine Run.no rfl rfl rfl ?_
      refine Run.no rfl rfl rfl ?_
      refine Run.no rfl rfl rfl ?_
      refine Run.go rfl rfl rfl (sem_pick false ((Value.bool false)) rfl rfl ?_)
      refine Run.go rfl rfl rfl (sem_assign ((Value.bool false)) rfl ?_)
      refine Run.region_end ?_
      refine Run.ret ⟨.inr rfl, ?_⟩
      exact hS.imp fun h' hq => ⟨(false), rfl, hq⟩
    ·have hS := hF hb30; clear hT hF
     refine Run.go rfl rfl rfl (sem_binI .i64 (i3) (0) (.bool false) rfl rfl (binI_eql_f hb30) ?_)
     refine Run.region_end ?_
     refine Run.condF rfl ?_
     refine Run.skip ?_
     refine Run.seq ?_
     refine Run.ops0 (idx := [0, 1, 2, 3, 4, 5, 6, 7, 8, 9]) rfl ?_
     refine Run.go rfl rfl rfl (sem_move ((Value.pointer p10)) rfl ?_)
     refine Run.go rfl rfl rfl (sem_callL [(Value.pointer p10)] (TF.goes_27) rfl rfl (Spec.mono hS fun v h43 hv => ?_))
     obtain ⟨p44, s45, a46, n47, c48, i49, rfl, hS⟩ := hv
     refine Run.go rfl rfl rfl (sem_move ((Value.tuple #[(Value.pointer p44), (Value.agg #[(Value.string s45), (Value.slice a46 n47 c48)]), (Value.int .i64 (i49))])) rfl ?_)
     refine Run.go rfl rfl rfl (sem_extract #[(Value.pointer p44), (Value.agg #[(Value.string s45), (Value.slice a46 n47 c48)]), (Value.int .i64 (i49))] ((Value.pointer p44)) rfl rfl ?_)
     refine Run.go rfl rfl rfl (sem_extract #[(Value.pointer p44), (Value.agg #[(Value.string s45), (Value.slice a46 n47 c48)]), (Value.int .i64 (i49))] ((Value.agg #[(Value.string s45), (Value.slice a46 n47 c48)])) rfl rfl ?_)
     refine Run.go rfl rfl rfl (sem_extract #[(Value.pointer p44), (Value.agg #[(Value.string s45), (Value.slice a46 n47 c48)]), (Value.int .i64 (i49))] ((Value.int .i64 (i49))) rfl rfl ?_)
     refine Run.go rfl rfl rfl (sem_allocN [(Value.string ByteArray.empty), (Value.slice none 0 0)] TF.zero_51 (fun k50 hb1 hb2 h51 hb3 => ?_))
     have hS := hS k50 hb1 hb2 h51 hb3
     refine Run.go rfl rfl rfl (sem_assign ((Value.pointer p44)) rfl ?_)
     obtain ⟨h52, hst, hS⟩ := hS
     refine Run.go rfl rfl rfl (sem_storeN ⟨k50, 0, none⟩ [(Value.string s45), (Value.slice a46 n47 c48)] h52 rfl rfl TF.sz_51 hst ?_)
     refine Run.go rfl rfl rfl (sem_assign ((Value.int .i64 (i49))) rfl ?_)
     refine Run.region_end ?_
     refine Run.seq ?_
     refine Run.ops0 (idx := [0, 1, 2, 3, 4, 5, 6, 7, 8, 9, 10, 11, 12, 13, 14, 15, 16, 17, 18, 19, 20, 21]) rfl ?_
     refine Run.go rfl rfl rfl (sem_move ((Value.int .i64 (i29))) rfl ?_)
     obtain ⟨hT, hF⟩ := hS
     by_cases hb53 : (i29 : Int) = 0
     ·have hS := hT hb53; clear hT hF
      refine Run.go rfl rfl rfl (sem_binI .i64 (i29) (0) (.bool true) rfl rfl (binI_eql_t hb53) ?_)
      refine Run.go rfl rfl rfl (sem_move ((Value.bool true)) rfl ?_)
      refine Run.go rfl rfl rfl (sem_move ((Value.pointer p17)) rfl ?_)
      refine Run.go rfl rfl rfl (sem_callL [(Value.pointer p17)] (TF.goes_38) rfl rfl (Spec.mono hS fun v h54 hv => ?_))
      obtain ⟨i55, rfl, hS⟩ := hv
      refine Run.go rfl rfl rfl (sem_move ((Value.int .i64 (i3))) rfl ?_)
      refine Run.go rfl rfl rfl (sem_binI .i64 (1099511627776) (i3) ((Value.int .i64 (IntKind.wrap .i64 ((1099511627776) - (i3))))) rfl rfl rfl ?_)
      refine Run.go rfl rfl rfl (sem_binI .i64 (IntKind.wrap .i64 ((1099511627776) - (i3))) (1) ((Value.int .i64 (IntKind.wrap .i64 ((IntKind.wrap .i64 ((1099511627776) - (i3))) + (1))))) rfl rfl rfl ?_)
      obtain ⟨hT, hF⟩ := hS
      by_cases hb56 : (i55 : Int) = IntKind.wrap .i64 ((IntKind.wrap .i64 ((1099511627776) - (i3))) + (1))
      ·have hS := hT hb56; clear hT hF
       refine Run.go rfl rfl rfl (sem_binI .i64 (i55) (IntKind.wrap .i64 ((IntKind.wrap .i64 ((1099511627776) - (i3))) + (1))) (.bool true) rfl rfl (binI_eql_t hb56) ?_)
       refine Run.go rfl rfl rfl (sem_pick true ((Value.bool true)) rfl rfl ?_)
       refine Run.go rfl rfl rfl (sem_move ((Value.bool true)) rfl ?_)
       refine Run.go rfl rfl rfl (sem_fieldAddr ⟨k50, 0, none⟩ 0 rfl TF.fld_51_0 ?_)
       obtain ⟨s57, hl, hS⟩ := hS
       refine Run.go rfl rfl rfl (sem_load1 ⟨k50, 0, none⟩ ((Value.string s57)) rfl TF.agg_9 hl ?_)
       refine Run.go rfl rfl rfl (sem_move ((Value.string s2)) rfl ?_)
       obtain ⟨hT, hF⟩ := hS
       by_cases hb58 : s57 = s2
       ·have hS := hT hb58; clear hT hF
        refine Run.go rfl rfl rfl (sem_strEqT s57 s2 rfl rfl hb58 ?_)
        refine Run.go rfl rfl rfl (sem_pick true ((Value.bool true)) rfl rfl ?_)
        refine Run.go rfl rfl rfl (sem_move ((Value.bool true)) rfl ?_)
        refine Run.go rfl rfl rfl (sem_move ((Value.pointer p10)) rfl ?_)
        refine Run.go rfl rfl rfl (sem_callL [(Value.pointer p10), (Value.int .i64 (0))] (TF.goes_39) rfl rfl (Spec.mono hS fun v h59 hv => ?_))
        obtain ⟨s60, rfl, hS⟩ := hv
        refine Run.go rfl rfl rfl (sem_strEq s60 (ByteArray.mk #[]) rfl rfl ?_)
        refine Run.go rfl rfl rfl (sem_pick true ((Value.bool (decide (s60 = (ByteArray.mk #[]))))) rfl rfl ?_)
        refine Run.go rfl rfl rfl (sem_assign ((Value.bool (decide (s60 = (ByteArray.mk #[]))))) rfl ?_)
        refine Run.region_end ?_
        refine Run.ret ⟨.inr rfl, ?_⟩
        exact hS.imp fun h' hq => ⟨((decide (s60 = (ByteArray.mk #[])))), rfl, hq⟩
       ·have hS := hF hb58; clear hT hF
        refine Run.go rfl rfl rfl (sem_strEqF s57 s2 rfl rfl hb58 ?_)
        refine Run.go rfl rfl rfl (sem_pick true ((Value.bool false)) rfl rfl ?_)
        refine Run.go rfl rfl rfl (sem_move ((Value.bool false)) rfl ?_)
        refine Run.no rfl rfl rfl ?_
        refine Run.no rfl rfl rfl ?_
        refine Run.no rfl rfl rfl ?_
        refine Run.go rfl rfl rfl (sem_pick false ((Value.bool false)) rfl rfl ?_)
        refine Run.go rfl rfl rfl (sem_assign ((Value.bool false)) rfl ?_)
        refine Run.region_end ?_
        refine Run.ret ⟨.inr rfl, ?_⟩
        exact hS.imp fun h' hq => ⟨(false), rfl, hq⟩
      ·have hS := hF hb56; clear hT hF
       refine Run.go rfl rfl rfl (sem_binI .i64 (i55) (IntKind.wrap .i64 ((IntKind.wrap .i64 ((1099511627776) - (i3))) + (1))) (.bool false) rfl rfl (binI_eql_f hb56) ?_)
       refine Run.go rfl rfl rfl (sem_pick true ((Value.bool false)) rfl rfl ?_)
       refine Run.go rfl rfl rfl (sem_move ((Value.bool false)) rfl ?_)
       refine Run.no rfl rfl rfl ?_
       refine Run.no rfl rfl rfl ?_
       refine Run.no rfl rfl rfl ?_
       refine Run.no rfl rfl rfl ?_
       refine Run.go rfl rfl rfl (sem_pick false ((Value.bool false)) rfl rfl ?_)
       refine Run.go rfl rfl rfl (sem_move ((Value.bool false)) rfl ?_)
       refine Run.no rfl rfl rfl ?_
       refine Run.no rfl rfl rfl ?_
       refine Run.no rfl rfl rfl ?_
       refine Run.go rfl rfl rfl (sem_pick false ((Value.bool false)) rfl rfl ?_)
       refine Run.go rfl rfl rfl (sem_assign ((Value.bool false)) rfl ?_)
       refine Run.region_end ?_
       refine Run.ret ⟨.inr rfl, ?_⟩
       exact hS.imp fun h' hq => ⟨(false), rfl, hq⟩
     ·have hS := hF hb53; clear hT hF
      refine Run.go rfl rfl rfl (sem_binI .i64 (i29) (0) (.bool false) rfl rfl (binI_eql_f hb53) ?_)
      refine Run.go rfl rfl rfl (sem_move ((Value.bool false)) rfl ?_)
      refine Run.no rfl rfl rfl ?_
      refine Run.no rfl rfl rfl ?_
      refine Run.no rfl rfl rfl ?_
      refine Run.no rfl rfl rfl ?_
      refine Run.no rfl rfl rfl ?_
      refine Run.no rfl rfl rfl ?_
      refine Run.go rfl rfl rfl (sem_pick false ((Value.bool false)) rfl rfl ?_)
      refine Run.go rfl rfl rfl (sem_move ((Value.bool false)) rfl ?_)
      refine Run.no rfl rfl rfl ?_
      refine Run.no rfl rfl rfl ?_
      refine Run.no rfl rfl rfl ?_
      refine Run.no rfl rfl rfl ?_
      refine Run.go rfl rfl rfl (sem_pick false ((Value.bool false)) rfl rfl ?_)
      refine Run.go rfl rfl rfl (sem_move ((Value.bool false)) rfl ?_)
      refine Run.no rfl rfl rfl ?_
      refine Run.no rfl rfl rfl ?_
      refine Run.no rfl rfl rfl ?_
      refine Run.go rfl rfl rfl (sem_pick false ((Value.bool false)) rfl rfl ?_)
      refine Run.go rfl rfl rfl (sem_assign ((Value.bool false)) rfl ?_)
      refine Run.region_end ?_
      refine Run.ret ⟨.inr rfl, ?_⟩
      exact hS.imp fun h' hq => ⟨(false), rfl, hq⟩
   refine Run.seq ?_
   refine Run.ops0 (idx := [0, 1, 2, 3, 4, 5, 6, 7, 8, 9, 10, 11, 12, 13, 14]) rfl ?_
   refine Run.go rfl rfl rfl (sem_move ((Value.int .i64 (i22))) rfl ?_)
   obtain ⟨hT, hF⟩ := hS
   by_cases hb61 : (i22 : Int) = 0
   ·have hS := hT hb61; clear hT hF
    refine Run.go rfl rfl rfl (sem_binI .i64 (i22) (0) (.bool false) rfl rfl (binI_neq_t hb61) ?_)
    refine Run.go rfl rfl rfl (sem_move ((Value.bool false)) rfl ?_)
    refine Run.go rfl rfl rfl (sem_fieldAddr ⟨k23, 0, none⟩ 0 rfl TF.fld_51_0 ?_)
    obtain ⟨s62, hl, hS⟩ := hS
    refine Run.go rfl rfl rfl (sem_load1 ⟨k23, 0, none⟩ ((Value.string s62)) rfl TF.agg_9 hl ?_)
    refine Run.go rfl rfl rfl (sem_move ((Value.string s1)) rfl ?_)
    obtain ⟨hT, hF⟩ := hS
    by_cases hb63 : s62 = s1
    ·have hS := hT hb63; clear hT hF
     refine Run.go rfl rfl rfl (sem_strNeT s62 s1 rfl rfl hb63 ?_)
     refine Run.go rfl rfl rfl (sem_pick false ((Value.bool false)) rfl rfl ?_)
     refine Run.go rfl rfl rfl (sem_move ((Value.bool false)) rfl ?_)
     refine Run.go rfl rfl rfl (sem_move ((Value.pointer p17)) rfl ?_)
     refine Run.go rfl rfl rfl (sem_callL [(Value.pointer p17)] (TF.goes_38) rfl rfl (Spec.mono hS fun v h64 hv => ?_))
     obtain ⟨i65, rfl, hS⟩ := hv
     refine Run.go rfl rfl rfl (sem_move ((Value.int .i64 (i3))) rfl ?_)
     refine Run.go rfl rfl rfl (sem_binI .i64 (1099511627776) (i3) ((Value.int .i64 (IntKind.wrap .i64 ((1099511627776) - (i3))))) rfl rfl rfl ?_)
     obtain ⟨hT, hF⟩ := hS
     by_cases hb66 : (i65 : Int) = IntKind.wrap .i64 ((1099511627776) - (i3))
     ·have hS := hT hb66; clear hT hF
      refine Run.go rfl rfl rfl (sem_binI .i64 (i65) (IntKind.wrap .i64 ((1099511627776) - (i3))) (.bool false) rfl rfl (binI_neq_t hb66) ?_)
      refine Run.go rfl rfl rfl (sem_pick false ((Value.bool false)) rfl rfl ?_)
      refine Run.region_end ?_
      refine Run.condF rfl ?_
      refine Run.skip ?_
      exact Run.of_fin (hS.imp fun h' hS => j26 _ _ ⟨⟨rfl, rfl, rfl, rfl, rfl, trivial⟩, hS⟩)
     ·have hS := hF hb66; clear hT hF
      refine Run.go rfl rfl rfl (sem_binI .i64 (i65) (IntKind.wrap .i64 ((1099511627776) - (i3))) (.bool true) rfl rfl (binI_neq_f hb66) ?_)
      refine Run.go rfl rfl rfl (sem_pick false ((Value.bool true)) rfl rfl ?_)
      refine Run.region_end ?_
      refine Run.condT rfl ?_
      refine Run.seq ?_
      refine Run.ops0 (idx := [0]) rfl ?_
      refine Run.go rfl rfl rfl (sem_assign ((Value.bool false)) rfl ?_)
      refine Run.region_end ?_
      refine Run.ret ⟨.inr rfl, ?_⟩
      exact hS.imp fun h' hq => ⟨(false), rfl, hq⟩
    ·have hS := hF hb63; clear hT hF
     refine Run.go rfl rfl rfl (sem_strNeF s62 s1 rfl rfl hb63 ?_)
     refine Run.go rfl rfl rfl (sem_pick false ((Value.bool true)) rfl rfl ?_)
     refine Run.go rfl rfl rfl (sem_move ((Value.bool true)) rfl ?_)
     refine Run.no rfl rfl rfl ?_
     refine Run.no rfl rfl rfl ?_
     refine Run.no rfl rfl rfl ?_
     refine Run.no rfl rfl rfl ?_
     refine Run.no rfl rfl rfl ?_
     refine Run.go rfl rfl rfl (sem_pick true ((Value.bool true)) rfl rfl ?_)
     refine Run.region_end ?_
     refine Run.condT rfl ?_
     refine Run.seq ?_
     refine Run.ops0 (idx := [0]) rfl ?_
     refine Run.go rfl rfl rfl (sem_assign ((Value.bool false)) rfl ?_)
     refine Run.region_end ?_
     refine Run.ret ⟨.inr rfl, ?_⟩
     exact hS.imp fun h' hq => ⟨(false), rfl, hq⟩
   ·have hS := hF hb61; clear hT hF
    refine Run.go rfl rfl rfl (sem_binI .i64 (i22) (0) (.bool true) rfl rfl (binI_neq_f hb61) ?_)
    refine Run.go rfl rfl rfl (sem_move ((Value.bool true)) rfl ?_)
    refine Run.no rfl rfl rfl ?_
    refine Run.no rfl rfl rfl ?_
    refine Run.no rfl rfl rfl ?_
    refine Run.no rfl rfl rfl ?_
    refine Run.go rfl rfl rfl (sem_pick true ((Value.bool true)) rfl rfl ?_)
    refine Run.go rfl rfl rfl (sem_move ((Value.bool true)) rfl ?_)
    refine Run.no rfl rfl rfl ?_
    refine Run.no rfl rfl rfl ?_
    refine Run.no rfl rfl rfl ?_
    refine Run.no rfl rfl rfl ?_
    refine Run.no rfl rfl rfl ?_
    refine Run.go rfl rfl rfl (sem_pick true ((Value.bool true)) rfl rfl ?_)
    refine Run.region_end ?_
    refine Run.condT rfl ?_
    refine Run.seq ?_
    refine Run.ops0 (idx := [0]) rfl ?_
    refine Run.go rfl rfl rfl (sem_assign ((Value.bool false)) rfl ?_)
    refine Run.region_end ?_
    refine Run.ret ⟨.inr rfl, ?_⟩
    exact hS.imp fun h' hq => ⟨(false), rfl, hq⟩
  refine Run.seq ?_
  refine Run.ops0 (idx := [0, 1, 2, 3, 4, 5, 6, 7, 8, 9, 10, 11, 12, 13, 14, 15]) rfl ?_
  refine Run.go rfl rfl rfl (sem_move ((Value.string s1)) rfl ?_)
  refine Run.go rfl rfl rfl (sem_lenStr s1 rfl TF.isStr_9 ?_)
  obtain ⟨hT, hF⟩ := hS
  by_cases hb67 : ((ByteArray.size s1 : Nat) : Int) > (900)
  ·have hS := hT hb67; clear hT hF
   refine Run.go rfl rfl rfl (sem_binI .i64 ((ByteArray.size s1 : Nat)) (900) (.bool true) rfl rfl (binI_gtr_t hb67) ?_)
   refine Run.go rfl rfl rfl (sem_move ((Value.bool true)) rfl ?_)
   refine Run.no rfl rfl rfl ?_
   refine Run.no rfl rfl rfl ?_
   refine Run.no rfl rfl rfl ?_
   refine Run.go rfl rfl rfl (sem_pick true ((Value.bool true)) rfl rfl ?_)
   refine Run.go rfl rfl rfl (sem_move ((Value.bool true)) rfl ?_)
   refine Run.no rfl rfl rfl ?_
   refine Run.no rfl rfl rfl ?_
   refine Run.go rfl rfl rfl (sem_pick true ((Value.bool true)) rfl rfl ?_)
   refine Run.go rfl rfl rfl (sem_move ((Value.bool true)) rfl ?_)
   refine Run.no rfl rfl rfl ?_
   refine Run.no rfl rfl rfl ?_
   refine Run.go rfl rfl rfl (sem_pick true ((Value.bool true)) rfl rfl ?_)
   refine Run.region_end ?_
   refine Run.condT rfl ?_
   refine Run.seq ?_
   refine Run.ops0 (idx := [0]) rfl ?_
   refine Run.go rfl rfl rfl (sem_assign ((Value.bool true)) rfl ?_)
   refine Run.region_end ?_
   refine Run.ret ⟨.inr rfl, ?_⟩
   exact hS.imp fun h' hq => ⟨(true), rfl, hq⟩
  ·have hS := hF hb67; clear hT hF
   refine Run.go rfl rfl rfl (sem_binI .i64 ((ByteArray.size s1 : Nat)) (900) (.bool false) rfl rfl (binI_gtr_f hb67) ?_)
   refine Run.go rfl rfl rfl (sem_move ((Value.bool false)) rfl ?_)
   refine Run.go rfl rfl rfl (sem_move ((Value.string s2)) rfl ?_)
   refine Run.go rfl rfl rfl (sem_lenStr s2 rfl TF.isStr_9 ?_)
   obtain ⟨hT, hF⟩ := hS
   by_cases hb68 : ((ByteArray.size s2 : Nat) : Int) > (900)
   ·have hS := hT hb68; clear hT hF
    refine Run.go rfl rfl rfl (sem_binI .i64 ((ByteArray.size s2 : Nat)) (900) (.bool true) rfl rfl (binI_gtr_t hb68) ?_)
    refine Run.go rfl rfl rfl (sem_pick false ((Value.bool true)) rfl rfl ?_)
    refine Run.go rfl rfl rfl (sem_move ((Value.bool true)) rfl ?_)
    refine Run.no rfl rfl rfl ?_
    refine Run.no rfl rfl rfl ?_
    refine Run.go rfl rfl rfl (sem_pick true ((Value.bool true)) rfl rfl ?_)
    refine Run.go rfl rfl rfl (sem_move ((Value.bool true)) rfl ?_)
    refine Run.no rfl rfl rfl ?_
    refine Run.no rfl rfl rfl ?_
    refine Run.go rfl rfl rfl (sem_pick true ((Value.bool true)) rfl rfl ?_)
    refine Run.region_end ?_
    refine Run.condT rfl ?_
    refine Run.seq ?_
    refine Run.ops0 (idx := [0]) rfl ?_
    refine Run.go rfl rfl rfl (sem_assign ((Value.bool true)) rfl ?_)
    refine Run.region_end ?_
    refine Run.ret ⟨.inr rfl, ?_⟩
    exact hS.imp fun h' hq => ⟨(true), rfl, hq⟩
   ·have hS := hF hb68; clear hT hF
    refine Run.go rfl rfl rfl (sem_binI .i64 ((ByteArray.size s2 : Nat)) (900) (.bool false) rfl rfl (binI_gtr_f hb68) ?_)
    refine Run.go rfl rfl rfl (sem_pick false ((Value.bool false)) rfl rfl ?_)
    refine Run.go rfl rfl rfl (sem_move ((Value.bool false)) rfl ?_)
    refine Run.go rfl rfl rfl (sem_move ((Value.int .i64 (i3))) rfl ?_)
    obtain ⟨hT, hF⟩ := hS
    by_cases hb69 : (i3 : Int) < (0)
    ·have hS := hT hb69; clear hT hF
     refine Run.go rfl rfl rfl (sem_binI .i64 (i3) (0) (.bool true) rfl rfl (binI_lss_t hb69) ?_)
     refine Run.go rfl rfl rfl (sem_pick false ((Value.bool true)) rfl rfl ?_)
     refine Run.go rfl rfl rfl (sem_move ((Value.bool true)) rfl ?_)
     refine Run.no rfl rfl rfl ?_
     refine Run.no rfl rfl rfl ?_
     refine Run.go rfl rfl rfl (sem_pick true ((Value.bool true)) rfl rfl ?_)
     refine Run.region_end ?_
     refine Run.condT rfl ?_
     refine Run.seq ?_
     refine Run.ops0 (idx := [0]) rfl ?_
     refine Run.go rfl rfl rfl (sem_assign ((Value.bool true)) rfl ?_)
     refine Run.region_end ?_
     refine Run.ret ⟨.inr rfl, ?_⟩
     exact hS.imp fun h' hq => ⟨(true), rfl, hq⟩
    ·have hS := hF hb69; clear hT hF
     refine Run.go rfl rfl rfl (sem_binI .i64 (i3) (0) (.bool false) rfl rfl (binI_lss_f hb69) ?_)
     refine Run.go rfl rfl rfl (sem_pick false ((Value.bool false)) rfl rfl ?_)
     refine Run.go rfl rfl rfl (sem_move ((Value.bool false)) rfl ?_)
     refine Run.go rfl rfl rfl (sem_move ((Value.int .i64 (i3))) rfl ?_)
     obtain ⟨hT, hF⟩ := hS
     by_cases hb70 : (i3 : Int) > (3)
     ·have hS := hT hb70; clear hT hF
      refine Run.go rfl rfl rfl (sem_binI .i64 (i3) (3) (.bool true) rfl rfl (binI_gtr_t hb70) ?_)
      refine Run.go rfl rfl rfl (sem_pick false ((Value.bool true)) rfl rfl ?_)
      refine Run.region_end ?_
      refine Run.condT rfl ?_
      refine Run.seq ?_
      refine Run.ops0 (idx := [0]) rfl ?_
      refine Run.go rfl rfl rfl (sem_assign ((Value.bool true)) rfl ?_)
      refine Run.region_end ?_
      refine Run.ret ⟨.inr rfl, ?_⟩
      exact hS.imp fun h' hq => ⟨(true), rfl, hq⟩
     ·have hS := hF hb70; clear hT hF
      refine Run.go rfl rfl rfl (sem_binI .i64 (i3) (3) (.bool false) rfl rfl (binI_gtr_f hb70) ?_)
      refine Run.go rfl rfl rfl (sem_pick false ((Value.bool false)) rfl rfl ?_)
      refine Run.region_end ?_
      refine Run.condF rfl ?_
      refine Run.skip ?_
      exact Run.of_fin (hS.imp fun h' hS => j7 _ _ ⟨⟨rfl, rfl, rfl, trivial⟩, hS⟩)
set_option maxHeartbeats 4000000 in
theorem C_countermandlaw05_VaultNil.of {B : RO} {s1 : ByteArray} {h : Heap} {Q : Bool → Heap → Prop} (hS : S_countermandlaw05_VaultNil B s1 h Q) : C_countermandlaw05_VaultNil B s1 h Q := by
 unfold S_countermandlaw05_VaultNil at hS
 unfold C_countermandlaw05_VaultNil
 refine Spec.of_run Try.func8 (N := 52) (rs := [ResultVar.tmp 2]) rfl rfl rfl (Nat.le_of_ble_eq_true rfl) ?_
 refine Run.seq ?_
 refine Run.ops0 (idx := [0]) rfl ?_
 refine Run.go rfl rfl rfl (sem_assign ((Value.bool false)) rfl ?_)
 refine Run.region_end ?_
 refine Run.seq ?_
 refine Run.seq ?_
 refine Run.ops0 (idx := [0, 1]) rfl ?_
 refine Run.go rfl rfl rfl (sem_callL [] (TF.goes_24) rfl rfl (Spec.mono hS fun v h3 hv => ?_))
 obtain ⟨b4, rfl, hS⟩ := hv
 obtain ⟨hT, hF⟩ := hS
 cases b4
 ·have hS := hF rfl; clear hT hF
  refine Run.go rfl rfl rfl (sem_not false rfl ?_)
  refine Run.region_end ?_
  refine Run.condT rfl ?_
  refine Run.seq ?_
  refine Run.ops0 (idx := [0]) rfl ?_
  refine Run.go rfl rfl rfl (sem_assign ((Value.bool false)) rfl ?_)
  refine Run.region_end ?_
  refine Run.ret ⟨.inr rfl, ?_⟩
  exact hS.imp fun h' hq => ⟨(false), rfl, hq⟩
 ·have hS := hT rfl; clear hT hF
  refine Run.go rfl rfl rfl (sem_not true rfl ?_)
  refine Run.region_end ?_
  refine Run.condF rfl ?_
  refine Run.skip ?_
  refine Run.seq ?_
  refine Run.ops0 (idx := [0, 1, 2, 3, 4, 5, 6, 7, 8]) rfl ?_
  refine Run.go rfl rfl rfl (sem_callL [(Value.pointer none)] (TF.goes_27) rfl rfl (Spec.mono hS fun v h5 hv => ?_))
  obtain ⟨p6, s7, a8, n9, c10, i11, rfl, hS⟩ := hv
  refine Run.go rfl rfl rfl (sem_move ((Value.tuple #[(Value.pointer p6), (Value.agg #[(Value.string s7), (Value.slice a8 n9 c10)]), (Value.int .i64 (i11))])) rfl ?_)
  refine Run.go rfl rfl rfl (sem_extract #[(Value.pointer p6), (Value.agg #[(Value.string s7), (Value.slice a8 n9 c10)]), (Value.int .i64 (i11))] ((Value.pointer p6)) rfl rfl ?_)
  refine Run.go rfl rfl rfl (sem_extract #[(Value.pointer p6), (Value.agg #[(Value.string s7), (Value.slice a8 n9 c10)]), (Value.int .i64 (i11))] ((Value.agg #[(Value.string s7), (Value.slice a8 n9 c10)])) rfl rfl ?_)
  refine Run.go rfl rfl rfl (sem_extract #[(Value.pointer p6), (Value.agg #[(Value.string s7), (Value.slice a8 n9 c10)]), (Value.int .i64 (i11))] ((Value.int .i64 (i11))) rfl rfl ?_)
  refine Run.go rfl rfl rfl (sem_allocN [(Value.string ByteArray.empty), (Value.slice none 0 0)] TF.zero_51 (fun k12 hb1 hb2 h13 hb3 => ?_))
  have hS := hS k12 hb1 hb2 h13 hb3
  refine Run.go rfl rfl rfl (sem_assign ((Value.pointer p6)) rfl ?_)
  obtain ⟨h14, hst, hS⟩ := hS
  refine Run.go rfl rfl rfl (sem_storeN ⟨k12, 0, none⟩ [(Value.string s7), (Value.slice a8 n9 c10)] h14 rfl rfl TF.sz_51 hst ?_)
  refine Run.go rfl rfl rfl (sem_assign ((Value.int .i64 (i11))) rfl ?_)
  refine Run.region_end ?_
  refine Run.seq ?_
  refine Run.ops0 (idx := [0, 1]) rfl ?_
  refine Run.go rfl rfl rfl (sem_move ((Value.pointer p6)) rfl ?_)
  refine Run.go rfl rfl rfl (sem_callL [(Value.pointer p6)] (TF.goes_30) rfl rfl (Spec.mono hS fun v h15 hv => ?_))
  obtain ⟨rfl, hS⟩ := hv
  refine Run.region_end ?_
  refine Run.seq ?_
  refine Run.ops0 (idx := [0, 1, 2, 3, 4, 5, 6, 7, 8, 9, 10, 11, 12, 13, 14, 15, 16, 17, 18, 19, 20, 21, 22, 23, 24, 25, 26, 27, 28, 29, 30, 31, 32, 33, 34, 35, 36, 37]) rfl ?_
  refine Run.go rfl rfl rfl (sem_move ((Value.pointer p6)) rfl ?_)
  obtain ⟨hT, hF⟩ := hS
  by_cases hb16 : p6 = none
  ·have hS := hT hb16; clear hT hF
   refine Run.go rfl rfl rfl (sem_ptrNilT p6 (.inl rfl) true rfl rfl TF.ptr_49 hb16 rfl ?_)
   refine Run.go rfl rfl rfl (sem_move ((Value.bool true)) rfl ?_)
   refine Run.go rfl rfl rfl (sem_fieldAddr ⟨k12, 0, none⟩ 0 rfl TF.fld_51_0 ?_)
   obtain ⟨s17, hl, hS⟩ := hS
   refine Run.go rfl rfl rfl (sem_load1 ⟨k12, 0, none⟩ ((Value.string s17)) rfl TF.agg_9 hl ?_)
   obtain ⟨hT, hF⟩ := hS
   by_cases hb18 : s17 = (ByteArray.mk #[])
   ·have hS := hT hb18; clear hT hF
    refine Run.go rfl rfl rfl (sem_strEqT s17 (ByteArray.mk #[]) rfl rfl hb18 ?_)
    refine Run.go rfl rfl rfl (sem_pick true ((Value.bool true)) rfl rfl ?_)
    refine Run.go rfl rfl rfl (sem_move ((Value.bool true)) rfl ?_)
    refine Run.go rfl rfl rfl (sem_fieldAddr ⟨k12, 0, none⟩ 1 rfl TF.fld_51_1 ?_)
    refine Run.ldSl hS fun a19 n20 c21 h22 hl hS => ?_
    refine Run.go rfl rfl rfl (sem_load1 ⟨k12, 1, none⟩ ((Value.slice a19 n20 c21)) rfl TF.agg_45 hl ?_)
    refine Run.go rfl rfl rfl (sem_lenSl a19 n20 c21 rfl TF.sl_45 ?_)
    obtain ⟨hT, hF⟩ := hS
    by_cases hb23 : ((n20 : Nat) : Int) = 0
    ·have hS := hT hb23; clear hT hF
     refine Run.go rfl rfl rfl (sem_binI .i64 ((n20 : Nat)) (0) (.bool true) rfl rfl (binI_eql_t hb23) ?_)
     refine Run.go rfl rfl rfl (sem_pick true ((Value.bool true)) rfl rfl ?_)
     refine Run.go rfl rfl rfl (sem_move ((Value.bool true)) rfl ?_)
     refine Run.go rfl rfl rfl (sem_move ((Value.int .i64 (i11))) rfl ?_)
     obtain ⟨hT, hF⟩ := hS
     by_cases hb24 : (i11 : Int) = 2
     ·have hS := hT hb24; clear hT hF
      refine Run.go rfl rfl rfl (sem_binI .i64 (i11) (2) (.bool true) rfl rfl (binI_eql_t hb24) ?_)
      refine Run.go rfl rfl rfl (sem_pick true ((Value.bool true)) rfl rfl ?_)
      refine Run.go rfl rfl rfl (sem_move ((Value.bool true)) rfl ?_)
      refine Run.go rfl rfl rfl (sem_move ((Value.pointer p6)) rfl ?_)
      refine Run.go rfl rfl rfl (sem_move ((Value.string s1)) rfl ?_)
      refine Run.go rfl rfl rfl (sem_callL [(Value.pointer p6), (Value.string s1)] (TF.goes_28) rfl rfl (Spec.mono hS fun v h25 hv => ?_))
      obtain ⟨i26, rfl, hS⟩ := hv
      obtain ⟨hT, hF⟩ := hS
      by_cases hb27 : (i26 : Int) = 2
      ·have hS := hT hb27; clear hT hF
       refine Run.go rfl rfl rfl (sem_binI .i64 (i26) (2) (.bool true) rfl rfl (binI_eql_t hb27) ?_)
       refine Run.go rfl rfl rfl (sem_pick true ((Value.bool true)) rfl rfl ?_)
       refine Run.go rfl rfl rfl (sem_move ((Value.bool true)) rfl ?_)
       refine Run.go rfl rfl rfl (sem_move ((Value.pointer p6)) rfl ?_)
       refine Run.go rfl rfl rfl (sem_move ((Value.string s1)) rfl ?_)
       refine Run.go rfl rfl rfl (sem_callL [(Value.pointer p6), (Value.string s1)] (TF.goes_29) rfl rfl (Spec.mono hS fun v h28 hv => ?_))
       obtain ⟨i29, rfl, hS⟩ := hv
       obtain ⟨hT, hF⟩ := hS
       by_cases hb30 : (i29 : Int) = 2
       ·have hS := hT hb30; clear hT hF
        refine Run.go rfl rfl rfl (sem_binI .i64 (i29) (2) (.bool true) rfl rfl (binI_eql_t hb30) ?_)
        refine Run.go rfl rfl rfl (sem_pick true ((Value.bool true)) rfl rfl ?_)
        refine Run.go rfl rfl rfl (sem_move ((Value.bool true)) rfl ?_)
        refine Run.go rfl rfl rfl (sem_move ((Value.pointer p6)) rfl ?_)
        refine Run.go rfl rfl rfl (sem_callL [(Value.pointer p6)] (TF.goes_41) rfl rfl (Spec.mono hS fun v h31 hv => ?_))
        obtain ⟨i32, rfl, hS⟩ := hv
        refine Run.go rfl rfl rfl (sem_move ((Value.pointer p6)) rfl ?_)
        refine Run.go rfl rfl rfl (sem_callL [(Value.pointer p6)] (TF.goes_38) rfl rfl (Spec.mono hS fun v h33 hv => ?_))
        obtain ⟨i34, rfl, hS⟩ := hv
        refine Run.go rfl rfl rfl (sem_binI .i64 (i32) (i34) ((Value.int .i64 (IntKind.wrap .i64 ((i32) + (i34))))) rfl rfl rfl ?_)
        refine Run.go rfl rfl rfl (sem_binI .i64 (IntKind.wrap .i64 ((i32) + (i34))) (0) ((Value.bool ((IntKind.wrap .i64 ((i32) + (i34)) : Int) == (0)))) rfl rfl rfl ?_)
        refine Run.go rfl rfl rfl (sem_pick true ((Value.bool ((IntKind.wrap .i64 ((i32) + (i34)) : Int) == (0)))) rfl rfl ?_)
        refine Run.go rfl rfl rfl (sem_assign ((Value.bool ((IntKind.wrap .i64 ((i32) + (i34)) : Int) == (0)))) rfl ?_)
        refine Run.region_end ?_
        refine Run.ret ⟨.inr rfl, ?_⟩
        exact hS.imp fun h' hq => ⟨(((IntKind.wrap .i64 ((i32) + (i34)) : Int) == (0))), rfl, hq⟩
       ·have hS := hF hb30; clear hT hF
        refine Run.go rfl rfl rfl (sem_binI .i64 (i29) (2) (.bool false) rfl rfl (binI_eql_f hb30) ?_)
        refine Run.go rfl rfl rfl (sem_pick true ((Value.bool false)) rfl rfl ?_)
        refine Run.go rfl rfl rfl (sem_move ((Value.bool false)) rfl ?_)
        refine Run.no rfl rfl rfl ?_
        refine Run.no rfl rfl rfl ?_
        refine Run.no rfl rfl rfl ?_
        refine Run.no rfl rfl rfl ?_
        refine Run.no rfl rfl rfl ?_
        refine Run.no rfl rfl rfl ?_
        refine Run.go rfl rfl rfl (sem_pick false ((Value.bool false)) rfl rfl ?_)
        refine Run.go rfl rfl rfl (sem_assign ((Value.bool false)) rfl ?_)
        refine Run.region_end ?_
        refine Run.ret ⟨.inr rfl, ?_⟩
        exact hS.imp fun h' hq => ⟨(false), rfl, hq⟩
      ·have hS := hF hb27; clear hT hF
       refine Run.go rfl rfl rfl (sem_binI .i64 (i26) (2) (.bool false) rfl rfl (binI_eql_f hb27) ?_)
       refine Run.go rfl rfl rfl (sem_pick true ((Value.bool false)) rfl rfl ?_)
       refine Run.go rfl rfl rfl (sem_move ((Value.bool false)) rfl ?_)
       refine Run.no rfl rfl rfl ?_
       refine Run.no rfl rfl rfl ?_
       refine Run.no rfl rfl rfl ?_
       refine Run.no rfl rfl rfl ?_
       refine Run.go rfl rfl rfl (sem_pick false ((Value.bool false)) rfl rfl ?_)
       refine Run.go rfl rfl rfl (sem_move ((Value.bool false)) rfl ?_)
       refine Run.no rfl rfl rfl ?_
       refine Run.no rfl rfl rfl ?_
       refine Run.no rfl rfl rfl ?_
       refine Run.no rfl rfl rfl ?_
       refine Run.no rfl rfl rfl ?_
       refine Run.no rfl rfl rfl ?_
       refine Run.go rfl rfl rfl (sem_pick false ((Value.bool false)) rfl rfl ?_)
       refine Run.go rfl rfl rfl (sem_assign ((Value.bool false)) rfl ?_)
       refine Run.region_end ?_
       refine Run.ret ⟨.inr rfl, ?_⟩
       exact hS.imp fun h' hq => ⟨(false), rfl, hq⟩
     ·have hS := hF hb24; clear hT hF
      refine Run.go rfl rfl rfl (sem_binI .i64 (i11) (2) (.bool false) rfl rfl (binI_eql_f hb24) ?_)
      refine Run.go rfl rfl rfl (sem_pick true ((Value.bool false)) rfl rfl ?_)
      refine Run.go rfl rfl rfl (sem_move ((Value.bool false)) rfl ?_)
      refine Run.no rfl rfl rfl ?_
      refine Run.no rfl rfl rfl ?_
      refine Run.no rfl rfl rfl ?_
      refine Run.no rfl rfl rfl ?_
      refine Run.go rfl rfl rfl (sem_pick false ((Value.bool false)) rfl rfl ?_)
      refine Run.go rfl rfl rfl (sem_move ((Value.bool false)) rfl ?_)
      refine Run.no rfl rfl rfl ?_
      refine Run.no rfl rfl rfl ?_
      refine Run.no rfl rfl rfl ?_
      refine Run.no rfl rfl rfl ?_
      refine Run.go rfl rfl rfl (sem_pick false ((Value.bool false)) rfl rfl ?_)
      refine Run.go rfl rfl rfl (sem_move ((Value.bool false)) rfl ?_)
      refine Run.no rfl rfl rfl ?_
      refine Run.no rfl rfl rfl ?_
      refine Run.no rfl rfl rfl ?_
      refine Run.no rfl rfl rfl ?_
      refine Run.no rfl rfl rfl ?_
      refine Run.no rfl rfl rfl ?_
      refine Run.go rfl rfl rfl (sem_pick false ((Value.bool false)) rfl rfl ?_)
      refine Run.go rfl rfl rfl (sem_assign ((Value.bool false)) rfl ?_)
      refine Run.region_end ?_
      refine Run.ret ⟨.inr rfl, ?_⟩
      exact hS.imp fun h' hq => ⟨(false), rfl, hq⟩
    ·have hS := hF hb23; clear hT hF
     refine Run.go rfl rfl rfl (sem_binI .i64 ((n20 : Nat)) (0) (.bool false) rfl rfl (binI_eql_f hb23) ?_)
     refine Run.go rfl rfl rfl (sem_pick true ((Value.bool false)) rfl rfl ?_)
     refine Run.go rfl rfl rfl (sem_move ((Value.bool false)) rfl ?_)
     refine Run.no rfl rfl rfl ?_
     refine Run.no rfl rfl rfl ?_
     refine Run.go rfl rfl rfl (sem_pick false ((Value.bool false)) rfl rfl ?_)
     refine Run.go rfl rfl rfl (sem_move ((Value.bool false)) rfl ?_)
     refine Run.no rfl rfl rfl ?_
     refine Run.no rfl rfl rfl ?_
     refine Run.no rfl rfl rfl ?_
     refine Run.no rfl rfl rfl ?_
     refine Run.go rfl rfl rfl (sem_pick false ((Value.bool false)) rfl rfl ?_)
     refine Run.go rfl rfl rfl (sem_move ((Value.bool false)) rfl ?_)
     refine Run.no rfl rfl rfl ?_
     refine Run.no rfl rfl rfl ?_
     refine Run.no rfl rfl rfl ?_
     refine Run.no rfl rfl rfl ?_
     refine Run.go rfl rfl rfl (sem_pick false ((Value.bool false)) rfl rfl ?_)
     refine Run.go rfl rfl rfl (sem_move ((Value.bool false)) rfl ?_)
     refine Run.no rfl rfl rfl ?_
     refine Run.no rfl rfl rfl ?_
     refine Run.no rfl rfl rfl ?_
     refine Run.no rfl rfl rfl ?_
     refine Run.no rfl rfl rfl ?_
     refine Run.no rfl rfl rfl ?_
     refine Run.go rfl rfl rfl (sem_pick false ((Value.bool false)) rfl rfl ?_)
     refine Run.go rfl rfl rfl (sem_assign ((Value.bool false)) rfl ?_)
     refine Run.region_end ?_
     refine Run.ret ⟨.inr rfl, ?_⟩
     exact hS.imp fun h' hq => ⟨(false), rfl, hq⟩
   ·have hS := hF hb18; clear hT hF
    refine Run.go rfl rfl rfl (sem_strEqF s17 (ByteArray.mk #[]) rfl rfl hb18 ?_)
    refine Run.go rfl rfl rfl (sem_pick true ((Value.bool false)) rfl rfl ?_)
    refine Run.go rfl rfl rfl (sem_move ((Value.bool false)) rfl ?_)
    refine Run.no rfl rfl rfl ?_
    refine Run.no rfl rfl rfl ?_
    refine Run.no rfl rfl rfl ?_
    refine Run.no rfl rfl rfl ?_
    refine Run.go rfl rfl rfl (sem_pick false ((Value.bool false)) rfl rfl ?_)
    refine Run.go rfl rfl rfl (sem_move ((Value.bool false)) rfl ?_)
    refine Run.no rfl rfl rfl ?_
    refine Run.no rfl rfl rfl ?_
    refine Run.go rfl rfl rfl (sem_pick false ((Value.bool false)) rfl rfl ?_)
    refine Run.go rfl rfl rfl (sem_move ((Value.bool false)) rfl ?_)
    refine Run.no rfl rfl rfl ?_
    refine Run.no rfl rfl rfl ?_
    refine Run.no rfl rfl rfl ?_
    refine Run.no rfl rfl rfl ?_
    refine Run.go rfl rfl rfl (sem_pick false ((Value.bool false)) rfl rfl ?_)
    refine Run.go rfl rfl rfl (sem_move ((Value.bool false)) rfl ?_)
    refine Run.no rfl rfl rfl ?_
    refine Run.no rfl rfl rfl ?_
    refine Run.no rfl rfl rfl ?_
    refine Run.no rfl rfl rfl ?_
    refine Run.go rfl rfl rfl (sem_pick false ((Value.bool false)) rfl rfl ?_)
    refine Run.go rfl rfl rfl (sem_move ((Value.bool false)) rfl ?_)
    refine Run.no rfl rfl rfl ?_
    refine Run.no rfl rfl rfl ?_
    refine Run.no rfl rfl rfl ?_
    refine Run.no rfl rfl rfl ?_
    refine Run.no rfl rfl rfl ?_
    refine Run.no rfl rfl rfl ?_
    refine Run.go rfl rfl rfl (sem_pick false ((Value.bool false)) rfl rfl ?_)
    refine Run.go rfl rfl rfl (sem_assign ((Value.bool false)) rfl ?_)
    refine Run.region_end ?_
    refine Run.ret ⟨.inr rfl, ?_⟩
    exact hS.imp fun h' hq => ⟨(false), rfl, hq⟩
  ·have hS := hF hb16; clear hT hF
   refine Run.go rfl rfl rfl (sem_ptrNilF p6 (.inl rfl) false rfl rfl TF.ptr_49 hb16 rfl ?_)
   refine Run.go rfl rfl rfl (sem_move ((Value.bool false)) rfl ?_)
   refine Run.no rfl rfl rfl ?_
   refine Run.no rfl rfl rfl ?_
   refine Run.no rfl rfl rfl ?_
   refine Run.go rfl rfl rfl (sem_pick false ((Value.bool false)) rfl rfl ?_)
   refine Run.go rfl rfl rfl (sem_move ((Value.bool false)) rfl ?_)
   refine Run.no rfl rfl rfl ?_
   refine Run.no rfl rfl rfl ?_
   refine Run.no rfl rfl rfl ?_
   refine Run.no rfl rfl rfl ?_
   refine Run.go rfl rfl rfl (sem_pick false ((Value.bool false)) rfl rfl ?_)
   refine Run.go rfl rfl rfl (sem_move ((Value.bool false)) rfl ?_)
   refine Run.no rfl rfl rfl ?_
   refine Run.no rfl rfl rfl ?_
   refine Run.go rfl rfl rfl (sem_pick false ((Value.bool false)) rfl rfl ?_)
   refine Run.go rfl rfl rfl (sem_move ((Value.bool false)) rfl ?_)
   refine Run.no rfl rfl rfl ?_
   refine Run.no rfl rfl rfl ?_
   refine Run.no rfl rfl rfl ?_
   refine Run.no rfl rfl rfl ?_
   refine Run.go rfl rfl rfl (sem_pick false ((Value.bool false)) rfl rfl ?_)
   refine Run.go rfl rfl rfl (sem_move ((Value.bool false)) rfl ?_)
   refine Run.no rfl rfl rfl ?_
   refine Run.no rfl rfl rfl ?_
   refine Run.no rfl rfl rfl ?_
   refine Run.no rfl rfl rfl ?_
   refine Run.go rfl rfl rfl (sem_pick false ((Value.bool false)) rfl rfl ?_)
   refine Run.go rfl rfl rfl (sem_move ((Value.bool false)) rfl ?_)
   refine Run.no rfl rfl rfl ?_
   refine Run.no rfl rfl rfl ?_
   refine Run.no rfl rfl rfl ?_
   refine Run.no rfl rfl rfl ?_
   refine Run.no rfl rfl rfl ?_
   refine Run.no rfl rfl rfl ?_
   refine Run.go rfl rfl rfl (sem_pick false ((Value.bool false)) rfl rfl ?_)
   refine Run.go rfl rfl rfl (sem_assign ((Value.bool false)) rfl ?_)
   refine Run.region_end ?_
   refine Run.ret ⟨.inr rfl, ?_⟩
   exact hS.imp fun h' hq => ⟨(false), rfl, hq⟩
set_option maxHeartbeats 4000000 in
theorem C_countermandlaw05_VaultTwice.of {B : RO} {s1 : ByteArray} {s2 : ByteArray} {h : Heap} {Q : Bool → Heap → Prop} (hS : S_countermandlaw05_VaultTwice B s1 s2 h Q) : C_countermandlaw05_VaultTwice B s1 s2 h Q := by
 unfold S_countermandlaw05_VaultTwice at hS
 unfold C_countermandlaw05_VaultTwice
 refine Spec.of_run Try.func9 (N := 79) (rs := [ResultVar.tmp 4]) rfl rfl rfl (Nat.le_of_ble_eq_true rfl) ?_
 refine Run.seq ?_
 refine Run.ops0 (idx := [0]) rfl ?_
 refine Run.go rfl rfl rfl (sem_assign ((Value.bool false)) rfl ?_)
 refine Run.region_end ?_
 refine Run.seq ?_
 refine Run.seq ?_
 refine Run.ops0 (idx := [0, 1]) rfl ?_
 refine Run.go rfl rfl rfl (sem_callL [] (TF.goes_24) rfl rfl (Spec.mono hS fun v h4 hv => ?_))
 obtain ⟨b5, rfl, hS⟩ := hv
 obtain ⟨hT, hF⟩ := hS
 cases b5
 ·have hS := hF rfl; clear hT hF
  refine Run.go rfl rfl rfl (sem_not false rfl ?_)
  refine Run.region_end ?_
  refine Run.condT rfl ?_
  refine Run.seq ?_
  refine Run.ops0 (idx := [0]) rfl ?_
  refine Run.go rfl rfl rfl (sem_assign ((Value.bool false)) rfl ?_)
  refine Run.region_end ?_
  refine Run.ret ⟨.inr rfl, ?_⟩
  exact hS.imp fun h' hq => ⟨(false), rfl, hq⟩
 ·have hS := hT rfl; clear hT hF
  refine Run.go rfl rfl rfl (sem_not true rfl ?_)
  refine Run.region_end ?_
  refine Run.condF rfl ?_
  refine Run.skip ?_
  refine Run.seq ?_
  refine Run.seq ?_
  refine Run.ops0 (idx := [0, 1, 2, 3]) rfl ?_
  refine Run.go rfl rfl rfl (sem_move ((Value.string s1)) rfl ?_)
  refine Run.go rfl rfl rfl (sem_move ((Value.string s2)) rfl ?_)
  refine Run.go rfl rfl rfl (sem_buildSliceL [(0, (Value.string s1)), (1, (Value.string s2))] [(Value.string s1), (Value.string s2)] TF.slc_45 TF.zero_9 rfl (by decide) (by decide) rfl rfl (fun k6 hb1 hb2 h7 hb3 => ?_))
  have hS := hS k6 hb1 hb2 h7 hb3
  refine Run.go rfl rfl rfl (sem_callL [(Value.slice (some ⟨k6, 0, none⟩) 2 2)] (TF.goes_25) rfl rfl (Spec.mono hS fun v h8 hv => ?_))
  obtain ⟨b9, rfl, hS⟩ := hv
  obtain ⟨hT, hF⟩ := hS
  cases b9
  ·have hS := hF rfl; clear hT hF
   refine Run.region_end ?_
   refine Run.condF rfl ?_
   refine Run.skip ?_
   refine Run.seq ?_
   refine Run.ops0 (idx := [0, 1]) rfl ?_
   refine Run.go rfl rfl rfl (sem_callL [] (TF.goes_26) rfl rfl (Spec.mono hS fun v h10 hv => ?_))
   obtain ⟨p11, rfl, hS⟩ := hv
   refine Run.go rfl rfl rfl (sem_assign ((Value.pointer p11)) rfl ?_)
   refine Run.region_end ?_
   refine Run.seq ?_
   refine Run.ops0 (idx := [0, 1, 2]) rfl ?_
   refine Run.go rfl rfl rfl (sem_move ((Value.pointer p11)) rfl ?_)
   refine Run.go rfl rfl rfl (sem_move ((Value.string s1)) rfl ?_)
   refine Run.go rfl rfl rfl (sem_callL [(Value.pointer p11), (Value.int .i64 (0)), (Value.string s1)] (TF.goes_34) rfl rfl (Spec.mono hS fun v h12 hv => ?_))
   obtain ⟨i13, rfl, hS⟩ := hv
   refine Run.region_end ?_
   refine Run.seq ?_
   refine Run.ops0 (idx := [0, 1, 2]) rfl ?_
   refine Run.go rfl rfl rfl (sem_move ((Value.pointer p11)) rfl ?_)
   refine Run.go rfl rfl rfl (sem_move ((Value.string s2)) rfl ?_)
   refine Run.go rfl rfl rfl (sem_callL [(Value.pointer p11), (Value.int .i64 (1)), (Value.string s2)] (TF.goes_34) rfl rfl (Spec.mono hS fun v h14 hv => ?_))
   obtain ⟨i15, rfl, hS⟩ := hv
   refine Run.region_end ?_
   refine Run.seq ?_
   refine Run.ops0 (idx := [0, 1, 2, 3, 4, 5, 6, 7, 8, 9]) rfl ?_
   refine Run.go rfl rfl rfl (sem_move ((Value.pointer p11)) rfl ?_)
   refine Run.go rfl rfl rfl (sem_callL [(Value.pointer p11)] (TF.goes_27) rfl rfl (Spec.mono hS fun v h16 hv => ?_))
   obtain ⟨p17, s18, a19, n20, c21, i22, rfl, hS⟩ := hv
   refine Run.go rfl rfl rfl (sem_move ((Value.tuple #[(Value.pointer p17), (Value.agg #[(Value.string s18), (Value.slice a19 n20 c21)]), (Value.int .i64 (i22))])) rfl ?_)
   refine Run.go rfl rfl rfl (sem_extract #[(Value.pointer p17), (Value.agg #[(Value.string s18), (Value.slice a19 n20 c21)]), (Value.int .i64 (i22))] ((Value.pointer p17)) rfl rfl ?_)
   refine Run.go rfl rfl rfl (sem_extract #[(Value.pointer p17), (Value.agg #[(Value.string s18), (Value.slice a19 n20 c21)]), (Value.int .i64 (i22))] ((Value.agg #[(Value.string s18), (Value.slice a19 n20 c21)])) rfl rfl ?_)
   refine Run.go rfl rfl rfl (sem_extract #[(Value.pointer p17), (Value.agg #[(Value.string s18), (Value.slice a19 n20 c21)]), (Value.int .i64 (i22))] ((Value.int .i64 (i22))) rfl rfl ?_)
   refine Run.go rfl rfl rfl (sem_allocN [(Value.string ByteArray.empty), (Value.slice none 0 0)] TF.zero_51 (fun k23 hb1 hb2 h24 hb3 => ?_))
   have hS := hS k23 hb1 hb2 h24 hb3
   refine Run.go rfl rfl rfl (sem_assign ((Value.pointer p17)) rfl ?_)
   obtain ⟨h25, hst, hS⟩ := hS
   refine Run.go rfl rfl rfl (sem_storeN ⟨k23, 0, none⟩ [(Value.string s18), (Value.slice a19 n20 c21)] h25 rfl rfl TF.sz_51 hst ?_)
   refine Run.go rfl rfl rfl (sem_assign ((Value.int .i64 (i22))) rfl ?_)
   refine Run.region_end ?_
   refine Run.seq ?_
   refine Run.ops0 (idx := [0, 1, 2, 3, 4, 5, 6, 7, 8, 9]) rfl ?_
   refine Run.go rfl rfl rfl (sem_move ((Value.pointer p11)) rfl ?_)
   refine Run.go rfl rfl rfl (sem_callL [(Value.pointer p11)] (TF.goes_27) rfl rfl (Spec.mono hS fun v h26 hv => ?_))
   obtain ⟨p27, s28, a29, n30, c31, i32, rfl, hS⟩ := hv
   refine Run.go rfl rfl rfl (sem_move ((Value.tuple #[(Value.pointer p27), (Value.agg #[(Value.string s28), (Value.slice a29 n30 c31)]), (Value.int .i64 (i32))])) rfl ?_)
   refine Run.go rfl rfl rfl (sem_extract #[(Value.pointer p27), (Value.agg #[(Value.string s28), (Value.slice a29 n30 c31)]), (Value.int .i64 (i32))] ((Value.pointer p27)) rfl rfl ?_)
   refine Run.go rfl rfl rfl (sem_extract #[(Value.pointer p27), (Value.agg #[(Value.string s28), (Value.slice a29 n30 c31)]), (Value.int .i64 (i32))] ((Value.agg #[(Value.string s28), (Value.slice a29 n30 c31)])) rfl rfl ?_)
   refine Run.go rfl rfl rfl (sem_extract #[(Value.pointer p27), (Value.agg #[(Value.string s28), (Value.slice a29 n30 c31)]), (Value.int .i64 (i32))] ((Value.int .i64 (i32))) rfl rfl ?_)
   refine Run.go rfl rfl rfl (sem_allocN [(Value.string ByteArray.empty), (Value.slice none 0 0)] TF.zero_51 (fun k33 hb1 hb2 h34 hb3 => ?_))
   have hS := hS k33 hb1 hb2 h34 hb3
   refine Run.go rfl rfl rfl (sem_assign ((Value.pointer p27)) rfl ?_)
   obtain ⟨h35, hst, hS⟩ := hS
   refine Run.go rfl rfl rfl (sem_storeN ⟨k33, 0, none⟩ [(Value.string s28), (Value.slice a29 n30 c31)] h35 rfl rfl TF.sz_51 hst ?_)
   refine Run.go rfl rfl rfl (sem_assign ((Value.int .i64 (i32))) rfl ?_)
   refine Run.region_end ?_
   refine Run.seq ?_
   refine Run.ops0 (idx := [0, 1, 2, 3, 4, 5, 6, 7, 8, 9, 10, 11, 12, 13, 14, 15, 16, 17, 18, 19, 20, 21, 22, 23, 24, 25, 26, 27, 28, 29, 30, 31, 32, 33, 34, 35, 36, 37, 38, 39, 40, 41, 42]) rfl ?_
   refine Run.go rfl rfl rfl (sem_move ((Value.int .i64 (i32))) rfl ?_)
   obtain ⟨hT, hF⟩ := hS
   by_cases hb36 : (i32 : Int) = 0
   ·have hS := hT hb36; clear hT hF
    refine Run.go rfl rfl rfl (sem_binI .i64 (i32) (0) (.bool true) rfl rfl (binI_eql_t hb36) ?_)
    refine Run.go rfl rfl rfl (sem_move ((Value.bool true)) rfl ?_)
    refine Run.go rfl rfl rfl (sem_move ((Value.pointer p17)) rfl ?_)
    refine Run.go rfl rfl rfl (sem_callL [(Value.pointer p17)] (TF.goes_38) rfl rfl (Spec.mono hS fun v h37 hv => ?_))
    obtain ⟨i38, rfl, hS⟩ := hv
    refine Run.go rfl rfl rfl (sem_move ((Value.pointer p27)) rfl ?_)
    refine Run.go rfl rfl rfl (sem_callL [(Value.pointer p27)] (TF.goes_38) rfl rfl (Spec.mono hS fun v h39 hv => ?_))
    obtain ⟨i40, rfl, hS⟩ := hv
    obtain ⟨hT, hF⟩ := hS
    by_cases hb41 : (i38 : Int) = i40
    ·have hS := hT hb41; clear hT hF
     refine Run.go rfl rfl rfl (sem_binI .i64 (i38) (i40) (.bool true) rfl rfl (binI_eql_t hb41) ?_)
     refine Run.go rfl rfl rfl (sem_pick true ((Value.bool true)) rfl rfl ?_)
     refine Run.go rfl rfl rfl (sem_move ((Value.bool true)) rfl ?_)
     refine Run.go rfl rfl rfl (sem_move ((Value.pointer p17)) rfl ?_)
     refine Run.go rfl rfl rfl (sem_callL [(Value.pointer p17)] (TF.goes_41) rfl rfl (Spec.mono hS fun v h42 hv => ?_))
     obtain ⟨i43, rfl, hS⟩ := hv
     refine Run.go rfl rfl rfl (sem_move ((Value.pointer p27)) rfl ?_)
     refine Run.go rfl rfl rfl (sem_callL [(Value.pointer p27)] (TF.goes_41) rfl rfl (Spec.mono hS fun v h44 hv => ?_))
     obtain ⟨i45, rfl, hS⟩ := hv
     obtain ⟨hT, hF⟩ := hS
     by_cases hb46 : (i43 : Int) = i45
     ·have hS := hT hb46; clear hT hF
      refine Run.go rfl rfl rfl (sem_binI .i64 (i43) (i45) (.bool true) rfl rfl (binI_eql_t hb46) ?_)
      refine Run.go rfl rfl rfl (sem_pick true ((Value.bool true)) rfl rfl ?_)
      refine Run.go rfl rfl rfl (sem_move ((Value.bool true)) rfl ?_)
      refine Run.go rfl rfl rfl (sem_fieldAddr ⟨k23, 0, none⟩ 0 rfl TF.fld_51_0 ?_)
      obtain ⟨s47, hl, hS⟩ := hS
      refine Run.go rfl rfl rfl (sem_load1 ⟨k23, 0, none⟩ ((Value.string s47)) rfl TF.agg_9 hl ?_)
      refine Run.go rfl rfl rfl (sem_fieldAddr ⟨k33, 0, none⟩ 0 rfl TF.fld_51_0 ?_)
      obtain ⟨s48, hl, hS⟩ := hS
      refine Run.go rfl rfl rfl (sem_load1 ⟨k33, 0, none⟩ ((Value.string s48)) rfl TF.agg_9 hl ?_)
      obtain ⟨hT, hF⟩ := hS
      by_cases hb49 : s47 = s48
      ·have hS := hT hb49; clear hT hF
       refine Run.go rfl rfl rfl (sem_strEqT s47 s48 rfl rfl hb49 ?_)
       refine Run.go rfl rfl rfl (sem_pick true ((Value.bool true)) rfl rfl ?_)
       refine Run.go rfl rfl rfl (sem_move ((Value.bool true)) rfl ?_)
       refine Run.go rfl rfl rfl (sem_fieldAddr ⟨k23, 0, none⟩ 1 rfl TF.fld_51_1 ?_)
       refine Run.ldSl hS fun a50 n51 c52 h53 hl hS => ?_
       refine Run.go rfl rfl rfl (sem_load1 ⟨k23, 1, none⟩ ((Value.slice a50 n51 c52)) rfl TF.agg_45 hl ?_)
       refine Run.go rfl rfl rfl (sem_fieldAddr ⟨k33, 0, none⟩ 1 rfl TF.fld_51_1 ?_)
       refine Run.ldSl hS fun a54 n55 c56 h57 hl hS => ?_
       refine Run.go rfl rfl rfl (sem_load1 ⟨k33, 1, none⟩ ((Value.slice a54 n55 c56)) rfl TF.agg_45 hl ?_)
       refine Run.go rfl rfl rfl (sem_callL [(Value.slice a50 n51 c52), (Value.slice a54 n55 c56)] (TF.goes_36) rfl rfl (Spec.mono hS fun v h58 hv => ?_))
       obtain ⟨b59, rfl, hS⟩ := hv
       obtain ⟨hT, hF⟩ := hS
       cases b59
       ·have hS := hF rfl; clear hT hF
        refine Run.go rfl rfl rfl (sem_pick true ((Value.bool false)) rfl rfl ?_)
        refine Run.go rfl rfl rfl (sem_move ((Value.bool false)) rfl ?_)
        refine Run.no rfl rfl rfl ?_
        refine Run.no rfl rfl rfl ?_
        refine Run.no rfl rfl rfl ?_
        refine Run.no rfl rfl rfl ?_
        refine Run.go rfl rfl rfl (sem_pick false ((Value.bool false)) rfl rfl ?_)
        refine Run.go rfl rfl rfl (sem_move ((Value.bool false)) rfl ?_)
        refine Run.no rfl rfl rfl ?_
        refine Run.no rfl rfl rfl ?_
        refine Run.no rfl rfl rfl ?_
        refine Run.no rfl rfl rfl ?_
        refine Run.go rfl rfl rfl (sem_pick false ((Value.bool false)) rfl rfl ?_)
        refine Run.go rfl rfl rfl (sem_assign ((Value.bool false)) rfl ?_)
        refine Run.region_end ?_
        refine Run.ret ⟨.inr rfl, ?_⟩
        exact hS.imp fun h' hq => ⟨(false), rfl, hq⟩
       ·have hS := hT rfl; clear hT hF
        refine Run.go rfl rfl rfl (sem_pick true ((Value.bool true)) rfl rfl ?_)
        refine Run.go rfl rfl rfl (sem_move ((Value.bool true)) rfl ?_)
        refine Run.go rfl rfl rfl (sem_move ((Value.pointer p11)) rfl ?_)
        refine Run.go rfl rfl rfl (sem_callL [(Value.pointer p11), (Value.int .i64 (0))] (TF.goes_39) rfl rfl (Spec.mono hS fun v h60 hv => ?_))
        obtain ⟨s61, rfl, hS⟩ := hv
        refine Run.go rfl rfl rfl (sem_move ((Value.string s1)) rfl ?_)
        obtain ⟨hT, hF⟩ := hS
        by_cases hb62 : s61 = s1
        ·have hS := hT hb62; clear hT hF
         refine Run.go rfl rfl rfl (sem_strEqT s61 s1 rfl rfl hb62 ?_)
         refine Run.go rfl rfl rfl (sem_pick true ((Value.bool true)) rfl rfl ?_)
         refine Run.go rfl rfl rfl (sem_move ((Value.bool true)) rfl ?_)
         refine Run.go rfl rfl rfl (sem_move ((Value.pointer p11)) rfl ?_)
         refine Run.go rfl rfl rfl (sem_callL [(Value.pointer p11), (Value.int .i64 (1))] (TF.goes_39) rfl rfl (Spec.mono hS fun v h63 hv => ?_))
         obtain ⟨s64, rfl, hS⟩ := hv
         refine Run.go rfl rfl rfl (sem_move ((Value.string s2)) rfl ?_)
         refine Run.go rfl rfl rfl (sem_strEq s64 s2 rfl rfl ?_)
         refine Run.go rfl rfl rfl (sem_pick true ((Value.bool (decide (s64 = s2)))) rfl rfl ?_)
         refine Run.go rfl rfl rfl (sem_assign ((Value.bool (decide (s64 = s2)))) rfl ?_)
         refine Run.region_end ?_
         refine Run.ret ⟨.inr rfl, ?_⟩
         exact hS.imp fun h' hq => ⟨((decide (s64 = s2))), rfl, hq⟩
        ·have hS := hF hb62; clear hT hF
         refine Run.go rfl rfl rfl (sem_strEqF s61 s1 rfl rfl hb62 ?_)
         refine Run.go rfl rfl rfl (sem_pick true ((Value.bool false)) rfl rfl ?_)
         refine Run.go rfl rfl rfl (sem_move ((Value.bool false)) rfl ?_)
         refine Run.no rfl rfl rfl ?_
         refine Run.no rfl rfl rfl ?_
         refine Run.no rfl rfl rfl ?_
         refine Run.no rfl rfl rfl ?_
         refine Run.go rfl rfl rfl (sem_pick false ((Value.bool false)) rfl rfl ?_)
         refine Run.go rfl rfl rfl (sem_assign ((Value.bool false)) rfl ?_)
         refine Run.region_end ?_
         refine Run.ret ⟨.inr rfl, ?_⟩
         exact hS.imp fun h' hq => ⟨(false), rfl, hq⟩
      ·have hS := hF hb49; clear hT hF
       refine Run.go rfl rfl rfl (sem_strEqF s47 s48 rfl rfl hb49 ?_)
       refine Run.go rfl rfl rfl (sem_pick true ((Value.bool false)) rfl rfl ?_)
       refine Run.go rfl rfl rfl (sem_move ((Value.bool false)) rfl ?_)
       refine Run.no rfl rfl rfl ?_
       refine Run.no rfl rfl rfl ?_
       refine Run.no rfl rfl rfl ?_
       refine Run.no rfl rfl rfl ?_
       refine Run.no rfl rfl rfl ?_
       refine Run.go rfl rfl rfl (sem_pick false ((Value.bool false)) rfl rfl ?_)
       refine Run.go rfl rfl rfl (sem_move ((Value.bool false)) rfl ?_)
       refine Run.no rfl rfl rfl ?_
       refine Run.no rfl rfl rfl ?_
       refine Run.no rfl rfl rfl ?_
       refine Run.no rfl rfl rfl ?_
       refine Run.go rfl rfl rfl (sem_pick false ((Value.bool false)) rfl rfl ?_)
       refine Run.go rfl rfl rfl (sem_move ((Value.bool false)) rfl ?_)
       refine Run.no rfl rfl rfl ?_
       refine Run.no rfl rfl rfl ?_
       refine Run.no rfl rfl rfl ?_
       refine Run.no rfl rfl rfl ?_
       refine Run.go rfl rfl rfl (sem_pick false ((Value.bool false)) rfl rfl ?_)
       refine Run.go rfl rfl rfl (sem_assign ((Value.bool false)) rfl ?_)
       refine Run.region_end ?_
       refine Run.ret ⟨.inr rfl, ?_⟩
       exact hS.imp fun h' hq => ⟨(false), rfl, hq⟩
     ·have hS := hF hb46; clear hT hF
      refine Run.go rfl rfl rfl (sem_binI .i64 (i43) (i45) (.bool false) rfl rfl (binI_eql_f hb46) ?_)
      refine Run.go rfl rfl rfl (sem_pick true ((Value.bool false)) rfl rfl ?_)
      refine Run.go rfl rfl rfl (sem_move ((Value.bool false)) rfl ?_)
      refine Run.no rfl rfl rfl ?_
      refine Run.no rfl rfl rfl ?_
      refine Run.no rfl rfl rfl ?_
      refine Run.no rfl rfl rfl ?_
      refine Run.no rfl rfl rfl ?_
      refine Run.go rfl rfl rfl (sem_pick false ((Value.bool false)) rfl rfl ?_)
      refine Run.go rfl rfl rfl (sem_move ((Value.bool false)) rfl ?_)
      refine Run.no rfl rfl rfl ?_
      refine Run.no rfl rfl rfl ?_
      refine Run.no rfl rfl rfl ?_
      refine Run.no rfl rfl rfl ?_
      refine Run.no rfl rfl rfl ?_
      refine Run.go rfl rfl rfl (sem_pick false ((Value.bool false)) rfl rfl ?_)
      refine Run.go rfl rfl rfl (sem_move ((Value.bool false)) rfl ?_)
      refine Run.no rfl rfl rfl ?_
      refine Run.no rfl rfl rfl ?_
      refine Run.no rfl rfl rfl ?_
      refine Run.no rfl rfl rfl ?_
      refine Run.go rfl rfl rfl (sem_pick false ((Value.bool false)) rfl rfl ?_)
      refine Run.go rfl rfl rfl (sem_move ((Value.bool false)) rfl ?_)
      refine Run.no rfl rfl rfl ?_
      refine Run.no rfl rfl rfl ?_
      refine Run.no rfl rfl rfl ?_
      refine Run.no rfl rfl rfl ?_
      refine Run.go rfl rfl rfl (sem_pick false ((Value.bool false)) rfl rfl ?_)
      refine Run.go rfl rfl rfl (sem_assign ((Value.bool false)) rfl ?_)
      refine Run.region_end ?_
      refine Run.ret ⟨.inr rfl, ?_⟩
      exact hS.imp fun h' hq => ⟨(false), rfl, hq⟩
    ·have hS := hF hb41; clear hT hF
     refine Run.go rfl rfl rfl (sem_binI .i64 (i38) (i40) (.bool false) rfl rfl (binI_eql_f hb41) ?_)
     refine Run.go rfl rfl rfl (sem_pick true ((Value.bool false)) rfl rfl ?_)
     refine Run.go rfl rfl rfl (sem_move ((Value.bool false)) rfl ?_)
     refine Run.no rfl rfl rfl ?_
     refine Run.no rfl rfl rfl ?_
     refine Run.no rfl rfl rfl ?_
     refine Run.no rfl rfl rfl ?_
     refine Run.no rfl rfl rfl ?_
     refine Run.go rfl rfl rfl (sem_pick false ((Value.bool false)) rfl rfl ?_)
     refine Run.go rfl rfl rfl (sem_move ((Value.bool false)) rfl ?_)
     refine Run.no rfl rfl rfl ?_
     refine Run.no rfl rfl rfl ?_
     refine Run.no rfl rfl rfl ?_
     refine Run.no rfl rfl rfl ?_
     refine Run.no rfl rfl rfl ?_
     refine Run.go rfl rfl rfl (sem_pick false ((Value.bool false)) rfl rfl ?_)
     refine Run.go rfl rfl rfl (sem_move ((Value.bool false)) rfl ?_)
     refine Run.no rfl rfl rfl ?_
     refine Run.no rfl rfl rfl ?_
     refine Run.no rfl rfl rfl ?_
     refine Run.no rfl rfl rfl ?_
     refine Run.no rfl rfl rfl ?_
     refine Run.go rfl rfl rfl (sem_pick false ((Value.bool false)) rfl rfl ?_)
     refine Run.go rfl rfl rfl (sem_move ((Value.bool false)) rfl ?_)
     refine Run.no rfl rfl rfl ?_
     refine Run.no rfl rfl rfl ?_
     refine Run.no rfl rfl rfl ?_
     refine Run.no rfl rfl rfl ?_
     refine Run.go rfl rfl rfl (sem_pick false ((Value.bool false)) rfl rfl ?_)
     refine Run.go rfl rfl rfl (sem_move ((Value.bool false)) rfl ?_)
     refine Run.no rfl rfl rfl ?_
     refine Run.no rfl rfl rfl ?_
     refine Run.no rfl rfl rfl ?_
     refine Run.no rfl rfl rfl ?_
     refine Run.go rfl rfl rfl (sem_pick false ((Value.bool false)) rfl rfl ?_)
     refine Run.go rfl rfl rfl (sem_assign ((Value.bool false)) rfl ?_)
     refine Run.region_end ?_
     refine Run.ret ⟨.inr rfl, ?_⟩
     exact hS.imp fun h' hq => ⟨(false), rfl, hq⟩
   ·have hS := hF hb36; clear hT hF
    refine Run.go rfl rfl rfl (sem_binI .i64 (i32) (0) (.bool false) rfl rfl (binI_eql_f hb36) ?_)
    refine Run.go rfl rfl rfl (sem_move ((Value.bool false)) rfl ?_)
    refine Run.no rfl rfl rfl ?_
    refine Run.no rfl rfl rfl ?_
    refine Run.no rfl rfl rfl ?_
    refine Run.no rfl rfl rfl ?_
    refine Run.no rfl rfl rfl ?_
    refine Run.go rfl rfl rfl (sem_pick false ((Value.bool false)) rfl rfl ?_)
    refine Run.go rfl rfl rfl (sem_move ((Value.bool false)) rfl ?_)
    refine Run.no rfl rfl rfl ?_
    refine Run.no rfl rfl rfl ?_
    refine Run.no rfl rfl rfl ?_
    refine Run.no rfl rfl rfl ?_
    refine Run.no rfl rfl rfl ?_
    refine Run.go rfl rfl rfl (sem_pick false ((Value.bool false)) rfl rfl ?_)
    refine Run.go rfl rfl rfl (sem_move ((Value.bool false)) rfl ?_)
    refine Run.no rfl rfl rfl ?_
    refine Run.no rfl rfl rfl ?_
    refine Run.no rfl rfl rfl ?_
    refine Run.no rfl rfl rfl ?_
    refine Run.no rfl rfl rfl ?_
    refine Run.go rfl rfl rfl (sem_pick false ((Value.bool false)) rfl rfl ?_)
    refine Run.go rfl rfl rfl (sem_move ((Value.bool false)) rfl ?_)
    refine Run.no rfl rfl rfl ?_
    refine Run.no rfl rfl rfl ?_
    refine Run.no rfl rfl rfl ?_
    refine Run.no rfl rfl rfl ?_
    refine Run.no rfl rfl rfl ?_
    refine Run.go rfl rfl rfl (sem_pick false ((Value.bool false)) rfl rfl ?_)
    refine Run.go rfl rfl rfl (sem_move ((Value.bool false)) rfl ?_)
    refine Run.no rfl rfl rfl ?_
    refine Run.no rfl rfl rfl ?_
    refine Run.no rfl rfl rfl ?_
    refine Run.no rfl rfl rfl ?_
    refine Run.go rfl rfl rfl (sem_pick false ((Value.bool false)) rfl rfl ?_)
    refine Run.go rfl rfl rfl (sem_move ((Value.bool false)) rfl ?_)
    refine Run.no rfl rfl rfl ?_
    refine Run.no rfl rfl rfl ?_
    refine Run.no rfl rfl rfl ?_
    refine Run.no rfl rfl rfl ?_
    refine Run.go rfl rfl rfl (sem_pick false ((Value.bool false)) rfl rfl ?_)
    refine Run.go rfl rfl rfl (sem_assign ((Value.bool false)) rfl ?_)
    refine Run.region_end ?_
    refine Run.ret ⟨.inr rfl, ?_⟩
    exact hS.imp fun h' hq => ⟨(false), rfl, hq⟩
  ·have hS := hT rfl; clear hT hF
   refine Run.region_end ?_
   refine Run.condT rfl ?_
   refine Run.seq ?_
   refine Run.ops0 (idx := [0]) rfl ?_
   refine Run.go rfl rfl rfl (sem_assign ((Value.bool true)) rfl ?_)
   refine Run.region_end ?_
   refine Run.ret ⟨.inr rfl, ?_⟩
   exact hS.imp fun h' hq => ⟨(true), rfl, hq⟩
set_option maxHeartbeats 4000000 in
theorem C_countermandlaw05_alive.of {B : RO} {h : Heap} {Q : Bool → Heap → Prop} (hS : S_countermandlaw05_alive B h Q) : C_countermandlaw05_alive B h Q := by
 unfold S_countermandlaw05_alive at hS
 unfold C_countermandlaw05_alive
 refine Spec.of_run Try.func24 (N := 57) (rs := [ResultVar.tmp 0]) rfl rfl rfl (Nat.le_of_ble_eq_true rfl) ?_
 refine Run.seq ?_
 refine Run.ops0 (idx := [0]) rfl ?_
 refine Run.go rfl rfl rfl (sem_assign ((Value.bool false)) rfl ?_)
 refine Run.region_end ?_
 refine Run.seq ?_
 refine Run.ops0 (idx := [0, 1]) rfl ?_
 refine Run.go rfl rfl rfl (sem_callL [] (TF.goes_26) rfl rfl (Spec.mono hS fun v h2 hv => ?_))
 obtain ⟨p3, rfl, hS⟩ := hv
 refine Run.go rfl rfl rfl (sem_assign ((Value.pointer p3)) rfl ?_)
 refine Run.region_end ?_
 refine Run.seq ?_
 refine Run.ops0 (idx := [0, 1, 2, 3, 4, 5, 6, 7, 8, 9]) rfl ?_
 refine Run.go rfl rfl rfl (sem_move ((Value.pointer p3)) rfl ?_)
 refine Run.go rfl rfl rfl (sem_callL [(Value.pointer p3)] (TF.goes_27) rfl rfl (Spec.mono hS fun v h4 hv => ?_))
 obtain ⟨p5, s6, a7, n8, c9, i10, rfl, hS⟩ := hv
 refine Run.go rfl rfl rfl (sem_move ((Value.tuple #[(Value.pointer p5), (Value.agg #[(Value.string s6), (Value.slice a7 n8 c9)]), (Value.int .i64 (i10))])) rfl ?_)
 refine Run.go rfl rfl rfl (sem_extract #[(Value.pointer p5), (Value.agg #[(Value.string s6), (Value.slice a7 n8 c9)]), (Value.int .i64 (i10))] ((Value.pointer p5)) rfl rfl ?_)
 refine Run.go rfl rfl rfl (sem_extract #[(Value.pointer p5), (Value.agg #[(Value.string s6), (Value.slice a7 n8 c9)]), (Value.int .i64 (i10))] ((Value.agg #[(Value.string s6), (Value.slice a7 n8 c9)])) rfl rfl ?_)
 refine Run.go rfl rfl rfl (sem_extract #[(Value.pointer p5), (Value.agg #[(Value.string s6), (Value.slice a7 n8 c9)]), (Value.int .i64 (i10))] ((Value.int .i64 (i10))) rfl rfl ?_)
 refine Run.go rfl rfl rfl (sem_allocN [(Value.string ByteArray.empty), (Value.slice none 0 0)] TF.zero_51 (fun k11 hb1 hb2 h12 hb3 => ?_))
 have hS := hS k11 hb1 hb2 h12 hb3
 refine Run.go rfl rfl rfl (sem_assign ((Value.pointer p5)) rfl ?_)
 obtain ⟨h13, hst, hS⟩ := hS
 refine Run.go rfl rfl rfl (sem_storeN ⟨k11, 0, none⟩ [(Value.string s6), (Value.slice a7 n8 c9)] h13 rfl rfl TF.sz_51 hst ?_)
 refine Run.go rfl rfl rfl (sem_assign ((Value.int .i64 (i10))) rfl ?_)
 refine Run.region_end ?_
 refine Run.seqJ (fun e h15 => Agree [(1, (Value.pointer p3)), (2, (Value.pointer p5))] e ∧ S_countermandlaw05_alive_J1 B p3 p5 h15 Q) ?_ fun j14 => ?_
 ·rintro e h15 ⟨hag, hS⟩
  refine Run.env hag ?_; clear hag
  refine Run.seq ?_
  refine Run.ops0 (idx := [0, 1]) rfl ?_
  refine Run.go rfl rfl rfl (sem_move ((Value.pointer p5)) rfl ?_)
  refine Run.go rfl rfl rfl (sem_callL [(Value.pointer p5)] (TF.goes_30) rfl rfl (Spec.mono hS fun v h16 hv => ?_))
  obtain ⟨rfl, hS⟩ := hv
  refine Run.region_end ?_
  refine Run.seq ?_
  refine Run.ops0 (idx := [0, 1]) rfl ?_
  refine Run.go rfl rfl rfl (sem_move ((Value.pointer p3)) rfl ?_)
  refine Run.go rfl rfl rfl (sem_callL [(Value.pointer p3), (Value.int .i64 (0)), (Value.int .i64 (0))] (TF.goes_35) rfl rfl (Spec.mono hS fun v h17 hv => ?_))
  obtain ⟨rfl, hS⟩ := hv
  refine Run.region_end ?_
  refine Run.seq ?_
  refine Run.ops0 (idx := [0, 1, 2, 3, 4, 5, 6, 7, 8, 9]) rfl ?_
  refine Run.go rfl rfl rfl (sem_move ((Value.pointer p3)) rfl ?_)
  refine Run.go rfl rfl rfl (sem_callL [(Value.pointer p3)] (TF.goes_27) rfl rfl (Spec.mono hS fun v h18 hv => ?_))
  obtain ⟨p19, s20, a21, n22, c23, i24, rfl, hS⟩ := hv
  refine Run.go rfl rfl rfl (sem_move ((Value.tuple #[(Value.pointer p19), (Value.agg #[(Value.string s20), (Value.slice a21 n22 c23)]), (Value.int .i64 (i24))])) rfl ?_)
  refine Run.go rfl rfl rfl (sem_extract #[(Value.pointer p19), (Value.agg #[(Value.string s20), (Value.slice a21 n22 c23)]), (Value.int .i64 (i24))] ((Value.pointer p19)) rfl rfl ?_)
  refine Run.go rfl rfl rfl (sem_extract #[(Value.pointer p19), (Value.agg #[(Value.string s20), (Value.slice a21 n22 c23)]), (Value.int .i64 (i24))] ((Value.agg #[(Value.string s20), (Value.slice a21 n22 c23)])) rfl rfl ?_)
  refine Run.go rfl rfl rfl (sem_extract #[(Value.pointer p19), (Value.agg #[(Value.string s20), (Value.slice a21 n22 c23)]), (Value.int .i64 (i24))] ((Value.int .i64 (i24))) rfl rfl ?_)
  refine Run.go rfl rfl rfl (sem_allocN [(Value.string ByteArray.empty), (Value.slice none 0 0)] TF.zero_51 (fun k25 hb1 hb2 h26 hb3 => ?_))
  have hS := hS k25 hb1 hb2 h26 hb3
  refine Run.go rfl rfl rfl (sem_assign ((Value.pointer p19)) rfl ?_)
  obtain ⟨h27, hst, hS⟩ := hS
  refine Run.go rfl rfl rfl (sem_storeN ⟨k25, 0, none⟩ [(Value.string s20), (Value.slice a21 n22 c23)] h27 rfl rfl TF.sz_51 hst ?_)
  refine Run.go rfl rfl rfl (sem_assign ((Value.int .i64 (i24))) rfl ?_)
  refine Run.region_end ?_
  refine Run.seq ?_
  refine Run.ops0 (idx := [0, 1, 2, 3, 4, 5, 6, 7, 8, 9, 10, 11, 12, 13, 14, 15, 16, 17, 18, 19, 20]) rfl ?_
  refine Run.go rfl rfl rfl (sem_move ((Value.int .i64 (i24))) rfl ?_)
  obtain ⟨hT, hF⟩ := hS
  by_cases hb28 : (i24 : Int) = 0
  ·have hS := hT hb28; clear hT hF
   refine Run.go rfl rfl rfl (sem_binI .i64 (i24) (0) (.bool true) rfl rfl (binI_eql_t hb28) ?_)
   refine Run.go rfl rfl rfl (sem_move ((Value.bool true)) rfl ?_)
   refine Run.go rfl rfl rfl (sem_fieldAddr ⟨k25, 0, none⟩ 0 rfl TF.fld_51_0 ?_)
   obtain ⟨s29, hl, hS⟩ := hS
   refine Run.go rfl rfl rfl (sem_load1 ⟨k25, 0, none⟩ ((Value.string s29)) rfl TF.agg_9 hl ?_)
   obtain ⟨hT, hF⟩ := hS
   by_cases hb30 : s29 = (ByteArray.mk #[105])
   ·have hS := hT hb30; clear hT hF
    refine Run.go rfl rfl rfl (sem_strEqT s29 (ByteArray.mk #[105]) rfl rfl hb30 ?_)
    refine Run.go rfl rfl rfl (sem_pick true ((Value.bool true)) rfl rfl ?_)
    refine Run.go rfl rfl rfl (sem_move ((Value.bool true)) rfl ?_)
    refine Run.go rfl rfl rfl (sem_fieldAddr ⟨k25, 0, none⟩ 1 rfl TF.fld_51_1 ?_)
    refine Run.ldSl hS fun a31 n32 c33 h34 hl hS => ?_
    refine Run.go rfl rfl rfl (sem_load1 ⟨k25, 1, none⟩ ((Value.slice a31 n32 c33)) rfl TF.agg_45 hl ?_)
    refine Run.go rfl rfl rfl (sem_lenSl a31 n32 c33 rfl TF.sl_45 ?_)
    obtain ⟨hT, hF⟩ := hS
    by_cases hb35 : ((n32 : Nat) : Int) = 1
    ·have hS := hT hb35; clear hT hF
     refine Run.go rfl rfl rfl (sem_binI .i64 ((n32 : Nat)) (1) (.bool true) rfl rfl (binI_eql_t hb35) ?_)
     refine Run.go rfl rfl rfl (sem_pick true ((Value.bool true)) rfl rfl ?_)
     refine Run.go rfl rfl rfl (sem_move ((Value.bool true)) rfl ?_)
     refine Run.go rfl rfl rfl (sem_fieldAddr ⟨k25, 0, none⟩ 1 rfl TF.fld_51_1 ?_)
     refine Run.ldSl hS fun a36 n37 c38 h39 hl hS => ?_
     refine Run.go rfl rfl rfl (sem_load1 ⟨k25, 1, none⟩ ((Value.slice a36 n37 c38)) rfl TF.agg_45 hl ?_)
     obtain ⟨A40, e41, hi0, hi1, hS⟩ := hS
     refine Run.go rfl rfl rfl (sem_indexAddrS A40 n37 c38 .i64 (0) (congrArg (fun a => Value.slice a n37 c38) e41) rfl TF.slc_45 hi0 hi1 ?_)
     obtain ⟨s42, hl, hS⟩ := hS
     refine Run.go rfl rfl rfl (sem_load1 (Addr.add A40 (Int.toNat (0) * 1)) ((Value.string s42)) rfl TF.agg_9 hl ?_)
     refine Run.go rfl rfl rfl (sem_strEq s42 (ByteArray.mk #[97]) rfl rfl ?_)
     refine Run.go rfl rfl rfl (sem_pick true ((Value.bool (decide (s42 = (ByteArray.mk #[97]))))) rfl rfl ?_)
     refine Run.go rfl rfl rfl (sem_assign ((Value.bool (decide (s42 = (ByteArray.mk #[97]))))) rfl ?_)
     refine Run.region_end ?_
     refine Run.ret ⟨.inr rfl, ?_⟩
     exact hS.imp fun h' hq => ⟨((decide (s42 = (ByteArray.mk #[97])))), rfl, hq⟩
    ·have hS := hF hb35; clear hT hF
     refine Run.go rfl rfl rfl (sem_binI .i64 ((n32 : Nat)) (1) (.bool false) rfl rfl (binI_eql_f hb35) ?_)
     refine Run.go rfl rfl rfl (sem_pick true ((Value.bool false)) rfl rfl ?_)
     refine Run.go rfl rfl rfl (sem_move ((Value.bool false)) rfl ?_)
     refine Run.no rfl rfl rfl ?_
     refine Run.no rfl rfl rfl ?_
     refine Run.no rfl rfl rfl ?_
     refine Run.no rfl rfl rfl ?_
     refine Run.no rfl rfl rfl ?_
     refine Run.go rfl rfl rfl (sem_pick false ((Value.bool false)) rfl rfl ?_)
     refine Run.go rfl rfl rfl (sem_assign ((Value.bool false)) rfl ?_)
     refine Run.region_end ?_
     refine Run.ret ⟨.inr rfl, ?_⟩
     exact hS.imp fun h' hq => ⟨(false), rfl, hq⟩
   ·have hS := hF hb30; clear hT hF
    refine Run.go rfl rfl rfl (sem_strEqF s29 (ByteArray.mk #[105]) rfl rfl hb30 ?_)
    refine Run.go rfl rfl rfl (sem_pick true ((Value.bool false)) rfl rfl ?_)
    refine Run.go rfl rfl rfl (sem_move ((Value.bool false)) rfl ?_)
    refine Run.no rfl rfl rfl ?_
    refine Run.no rfl rfl rfl ?_
    refine Run.no rfl rfl rfl ?_
    refine Run.no rfl rfl rfl ?_
    refine Run.go rfl rfl rfl (sem_pick false ((Value.bool false)) rfl rfl ?_)
    refine Run.go rfl rfl rfl (sem_move ((Value.bool false)) rfl ?_)
    refine Run.no rfl rfl rfl ?_
    refine Run.no rfl rfl rfl ?_
    refine Run.no rfl rfl rfl ?_
    refine Run.no rfl rfl rfl ?_
    refine Run.no rfl rfl rfl ?_
    refine Run.go rfl rfl rfl (sem_pick false ((Value.bool false)) rfl rfl ?_)
    refine Run.go rfl rfl rfl (sem_assign ((Value.bool false)) rfl ?_)
    refine Run.region_end ?_
    refine Run.ret ⟨.inr rfl, ?_⟩
    exact hS.imp fun h' hq => ⟨(false), rfl, hq⟩
  ·have hS := hF hb28; clear hT hF
   refine Run.go rfl rfl rfl (sem_binI .i64 (i24) (0) (.bool false) rfl rfl (binI_eql_f hb28) ?_)
   refine Run.go rfl rfl rfl (sem_move ((Value.bool false)) rfl ?_)
   refine Run.no rfl rfl rfl ?_
   refine Run.no rfl rfl rfl ?_
   refine Run.no rfl rfl rfl ?_
   refine Run.go rfl rfl rfl (sem_pick false ((Value.bool false)) rfl rfl ?_)
   refine Run.go rfl rfl rfl (sem_move ((Value.bool false)) rfl ?_)
   refine Run.no rfl rfl rfl ?_
   refine Run.no rfl rfl rfl ?_
   refine Run.no rfl rfl rfl ?_
   refine Run.no rfl rfl rfl ?_
   refine Run.go rfl rfl rfl (sem_pick false ((Value.bool false)) rfl rfl ?_)
   refine Run.go rfl rfl rfl (sem_move ((Value.bool false)) rfl ?_)
   refine Run.no rfl rfl rfl ?_
   refine Run.no rfl rfl rfl ?_
   refine Run.no rfl rfl rfl ?_
   refine Run.no rfl rfl rfl ?_
   refine Run.no rfl rfl rfl ?_
   refine Run.go rfl rfl rfl (sem_pick false ((Value.bool false)) rfl rfl ?_)
   refine Run.go rfl rfl rfl (sem_assign ((Value.bool false)) rfl ?_)
   refine Run.region_end ?_
   refine Run.ret ⟨.inr rfl, ?_⟩
   exact hS.imp fun h' hq => ⟨(false), rfl, hq⟩
 refine Run.seq ?_
 refine Run.ops0 (idx := [0, 1, 2, 3, 4, 5, 6, 7, 8, 9, 10, 11]) rfl ?_
 refine Run.go rfl rfl rfl (sem_move ((Value.int .i64 (i10))) rfl ?_)
 obtain ⟨hT, hF⟩ := hS
 by_cases hb43 : (i10 : Int) = 0
 ·have hS := hT hb43; clear hT hF
  refine Run.go rfl rfl rfl (sem_binI .i64 (i10) (0) (.bool false) rfl rfl (binI_neq_t hb43) ?_)
  refine Run.go rfl rfl rfl (sem_move ((Value.bool false)) rfl ?_)
  refine Run.go rfl rfl rfl (sem_move ((Value.pointer p5)) rfl ?_)
  refine Run.go rfl rfl rfl (sem_callL [(Value.pointer p5), (Value.string (ByteArray.mk #[105]))] (TF.goes_28) rfl rfl (Spec.mono hS fun v h44 hv => ?_))
  obtain ⟨i45, rfl, hS⟩ := hv
  obtain ⟨hT, hF⟩ := hS
  by_cases hb46 : (i45 : Int) = 0
  ·have hS := hT hb46; clear hT hF
   refine Run.go rfl rfl rfl (sem_binI .i64 (i45) (0) (.bool false) rfl rfl (binI_neq_t hb46) ?_)
   refine Run.go rfl rfl rfl (sem_pick false ((Value.bool false)) rfl rfl ?_)
   refine Run.go rfl rfl rfl (sem_move ((Value.bool false)) rfl ?_)
   refine Run.go rfl rfl rfl (sem_move ((Value.pointer p5)) rfl ?_)
   refine Run.go rfl rfl rfl (sem_callL [(Value.pointer p5), (Value.string (ByteArray.mk #[97]))] (TF.goes_29) rfl rfl (Spec.mono hS fun v h47 hv => ?_))
   obtain ⟨i48, rfl, hS⟩ := hv
   obtain ⟨hT, hF⟩ := hS
   by_cases hb49 : (i48 : Int) = 0
   ·have hS := hT hb49; clear hT hF
    refine Run.go rfl rfl rfl (sem_binI .i64 (i48) (0) (.bool false) rfl rfl (binI_neq_t hb49) ?_)
    refine Run.go rfl rfl rfl (sem_pick false ((Value.bool false)) rfl rfl ?_)
    refine Run.region_end ?_
    refine Run.condF rfl ?_
    refine Run.skip ?_
    exact Run.of_fin (hS.imp fun h' hS => j14 _ _ ⟨⟨rfl, rfl, trivial⟩, hS⟩)
   ·have hS := hF hb49; clear hT hF
    refine Run.go rfl rfl rfl (sem_binI .i64 (i48) (0) (.bool true) rfl rfl (binI_neq_f hb49) ?_)
    refine Run.go rfl rfl rfl (sem_pick false ((Value.bool true)) rfl rfl ?_)
    refine Run.region_end ?_
    refine Run.condT rfl ?_
    refine Run.seq ?_
    refine Run.ops0 (idx := [0]) rfl ?_
    refine Run.go rfl rfl rfl (sem_assign ((Value.bool false)) rfl ?_)
    refine Run.region_end ?_
    refine Run.ret ⟨.inr rfl, ?_⟩
    exact hS.imp fun h' hq => ⟨(false), rfl, hq⟩
  ·have hS := hF hb46; clear hT hF
   refine Run.go rfl rfl rfl (sem_binI .i64 (i45) (0) (.bool true) rfl rfl (binI_neq_f hb46) ?_)
   refine Run.go rfl rfl rfl (sem_pick false ((Value.bool true)) rfl rfl ?_)
   refine Run.go rfl rfl rfl (sem_move ((Value.bool true)) rfl ?_)
   refine Run.no rfl rfl rfl ?_
   refine Run.no rfl rfl rfl ?_
   refine Run.no rfl rfl rfl ?_
   refine Run.go rfl rfl rfl (sem_pick true ((Value.bool true)) rfl rfl ?_)
   refine Run.region_end ?_
   refine Run.condT rfl ?_
   refine Run.seq ?_
   refine Run.ops0 (idx := [0]) rfl ?_
   refine Run.go rfl rfl rfl (sem_assign ((Value.bool false)) rfl ?_)
   refine Run.region_end ?_
   refine Run.ret ⟨.inr rfl, ?_⟩
   exact hS.imp fun h' hq => ⟨(false), rfl, hq⟩
 ·have hS := hF hb43; clear hT hF
  refine Run.go rfl rfl rfl (sem_binI .i64 (i10) (0) (.bool true) rfl rfl (binI_neq_f hb43) ?_)
  refine Run.go rfl rfl rfl (sem_move ((Value.bool true)) rfl ?_)
  refine Run.no rfl rfl rfl ?_
  refine Run.no rfl rfl rfl ?_
  refine Run.no rfl rfl rfl ?_
  refine Run.go rfl rfl rfl (sem_pick true ((Value.bool true)) rfl rfl ?_)
  refine Run.go rfl rfl rfl (sem_move ((Value.bool true)) rfl ?_)
  refine Run.no rfl rfl rfl ?_
  refine Run.no rfl rfl rfl ?_
  refine Run.no rfl rfl rfl ?_
  refine Run.go rfl rfl rfl (sem_pick true ((Value.bool true)) rfl rfl ?_)
  refine Run.region_end ?_
  refine Run.condT rfl ?_
  refine Run.seq ?_
  refine Run.ops0 (idx := [0]) rfl ?_
  refine Run.go rfl rfl rfl (sem_assign ((Value.bool false)) rfl ?_)
  refine Run.region_end ?_
  refine Run.ret ⟨.inr rfl, ?_⟩
  exact hS.imp fun h' hq => ⟨(false), rfl, hq⟩
set_option maxHeartbeats 4000000 in
theorem C_countermandlaw05_great.of {B : RO} {a1 : Option Addr} {n2 : Nat} {c3 : Nat} {h : Heap} {Q : Bool → Heap → Prop} (hS : S_countermandlaw05_great B a1 n2 c3 h Q) : C_countermandlaw05_great B a1 n2 c3 h Q := by
 unfold S_countermandlaw05_great at hS
 unfold C_countermandlaw05_great
 refine Spec.of_run Try.func25 (N := 25) (rs := [ResultVar.tmp 2]) rfl rfl rfl (Nat.le_of_ble_eq_true rfl) ?_
 refine Run.seq ?_
 refine Run.ops0 (idx := [0]) rfl ?_
 refine Run.go rfl rfl rfl (sem_assign ((Value.bool false)) rfl ?_)
 refine Run.region_end ?_
 refine Run.seq ?_
 refine Run.seq ?_
 refine Run.ops0 (idx := [0, 1, 2]) rfl ?_
 refine Run.go rfl rfl rfl (sem_move ((Value.slice a1 n2 c3)) rfl ?_)
 refine Run.go rfl rfl rfl (sem_lenSl a1 n2 c3 rfl TF.sl_45 ?_)
 obtain ⟨hT, hF⟩ := hS
 by_cases hb5 : ((n2 : Nat) : Int) > (40)
 ·have hS := hT hb5; clear hT hF
  refine Run.go rfl rfl rfl (sem_binI .i64 ((n2 : Nat)) (40) (.bool true) rfl rfl (binI_gtr_t hb5) ?_)
  refine Run.region_end ?_
  refine Run.condT rfl ?_
  refine Run.seq ?_
  refine Run.ops0 (idx := [0]) rfl ?_
  refine Run.go rfl rfl rfl (sem_assign ((Value.bool true)) rfl ?_)
  refine Run.region_end ?_
  refine Run.ret ⟨.inr rfl, ?_⟩
  exact hS.imp fun h' hq => ⟨(true), rfl, hq⟩
 ·have hS := hF hb5; clear hT hF
  refine Run.go rfl rfl rfl (sem_binI .i64 ((n2 : Nat)) (40) (.bool false) rfl rfl (binI_gtr_f hb5) ?_)
  refine Run.region_end ?_
  refine Run.condF rfl ?_
  refine Run.skip ?_
  refine Run.seq ?_
  refine Run.ops0 (idx := [0]) rfl ?_
  refine Run.go rfl rfl rfl (sem_assign ((Value.int .i64 (0))) rfl ?_)
  refine Run.region_end ?_
  refine Run.seq ?_
  refine Run.seq ?_
  refine Run.ops0 (idx := [0, 1, 2]) rfl ?_
  refine Run.go rfl rfl rfl (sem_move ((Value.slice a1 n2 c3)) rfl ?_)
  refine Run.go rfl rfl rfl (sem_lenSl a1 n2 c3 rfl TF.sl_45 ?_)
  refine Run.go rfl rfl rfl (sem_move ((Value.int .i64 (0))) rfl ?_)
  refine Run.region_end ?_
  refine Run.block ?_
  obtain ⟨J12, m10, h0, hS⟩ := hS
  refine Run.of_fin (h0.imp fun h' h0 => ?_)
  refine Run.loop (σ := Int × Int × Nat) (fun x e h => J12 x.1 x.2.1 x.2.2 h ∧ Agree [(3, (Value.int .i64 (x.1))), (9, (Value.slice a1 n2 c3)), (10, (Value.int .i64 ((n2 : Nat)))), (11, (Value.int .i64 (x.2.1)))] e) (fun x => x.2.2) ((0), (0), m10) ⟨h0, ⟨rfl, rfl, rfl, rfl, trivial⟩⟩ ?_; clear h0
  rintro ⟨i6, i7, m9⟩ e h8 ⟨hJ, hag⟩ ih11
  have hS := hS i6 i7 m9 h8 hJ; clear hJ
  refine Run.env hag ?_; clear hag
  refine Run.seq ?_
  refine Run.ops0 (idx := [0]) rfl ?_
  obtain ⟨hT, hF⟩ := hS
  by_cases hb13 : (i7 : Int) < ((n2 : Nat))
  ·have hS := hT hb13; clear hT hF
   refine Run.go rfl rfl rfl (sem_binI .i64 (i7) ((n2 : Nat)) (.bool true) rfl rfl (binI_lss_t hb13) ?_)
   refine Run.region_end ?_
   refine Run.seq ?_
   refine Run.condT rfl ?_
   refine Run.skip ?_
   refine Run.seq ?_
   refine Run.block ?_
   refine Run.seq ?_
   refine Run.ops0 (idx := [0, 1, 2]) rfl ?_
   obtain ⟨A14, e15, hi0, hi1, hS⟩ := hS
   refine Run.go rfl rfl rfl (sem_indexAddrS A14 n2 c3 .i64 (i7) (congrArg (fun a => Value.slice a n2 c3) e15) rfl TF.slc_45 hi0 hi1 ?_)
   obtain ⟨s16, hl, hS⟩ := hS
   refine Run.go rfl rfl rfl (sem_load1 (Addr.add A14 (Int.toNat (i7) * 1)) ((Value.string s16)) rfl TF.agg_9 hl ?_)
   refine Run.go rfl rfl rfl (sem_assign ((Value.string s16)) rfl ?_)
   refine Run.region_end ?_
   refine Run.seq ?_
   refine Run.seq ?_
   refine Run.ops0 (idx := [0, 1, 2]) rfl ?_
   refine Run.go rfl rfl rfl (sem_move ((Value.string s16)) rfl ?_)
   refine Run.go rfl rfl rfl (sem_lenStr s16 rfl TF.isStr_9 ?_)
   obtain ⟨hT, hF⟩ := hS
   by_cases hb17 : ((ByteArray.size s16 : Nat) : Int) > (4096)
   ·have hS := hT hb17; clear hT hF
    refine Run.go rfl rfl rfl (sem_binI .i64 ((ByteArray.size s16 : Nat)) (4096) (.bool true) rfl rfl (binI_gtr_t hb17) ?_)
    refine Run.region_end ?_
    refine Run.condT rfl ?_
    refine Run.seq ?_
    refine Run.ops0 (idx := [0]) rfl ?_
    refine Run.go rfl rfl rfl (sem_assign ((Value.bool true)) rfl ?_)
    refine Run.region_end ?_
    refine Run.ret ⟨.inr rfl, ?_⟩
    exact hS.imp fun h' hq => ⟨(true), rfl, hq⟩
   ·have hS := hF hb17; clear hT hF
    refine Run.go rfl rfl rfl (sem_binI .i64 ((ByteArray.size s16 : Nat)) (4096) (.bool false) rfl rfl (binI_gtr_f hb17) ?_)
    refine Run.region_end ?_
    refine Run.condF rfl ?_
    refine Run.skip ?_
    refine Run.seq ?_
    refine Run.ops0 (idx := [0, 1, 2, 3, 4]) rfl ?_
    refine Run.go rfl rfl rfl (sem_move ((Value.int .i64 (i6))) rfl ?_)
    refine Run.go rfl rfl rfl (sem_move ((Value.string s16)) rfl ?_)
    refine Run.go rfl rfl rfl (sem_lenStr s16 rfl TF.isStr_9 ?_)
    refine Run.go rfl rfl rfl (sem_binI .i64 (i6) ((ByteArray.size s16 : Nat)) ((Value.int .i64 (IntKind.wrap .i64 ((i6) + ((ByteArray.size s16 : Nat)))))) rfl rfl rfl ?_)
    refine Run.go rfl rfl rfl (sem_assign ((Value.int .i64 (IntKind.wrap .i64 ((i6) + ((ByteArray.size s16 : Nat)))))) rfl ?_)
    refine Run.region_end ?_
    refine Run.seq ?_
    refine Run.ops0 (idx := [0, 1]) rfl ?_
    refine Run.go rfl rfl rfl (sem_move ((Value.int .i64 (IntKind.wrap .i64 ((i6) + ((ByteArray.size s16 : Nat)))))) rfl ?_)
    obtain ⟨hT, hF⟩ := hS
    by_cases hb18 : (IntKind.wrap .i64 ((i6) + ((ByteArray.size s16 : Nat))) : Int) > (4096)
    ·have hS := hT hb18; clear hT hF
     refine Run.go rfl rfl rfl (sem_binI .i64 (IntKind.wrap .i64 ((i6) + ((ByteArray.size s16 : Nat)))) (4096) (.bool true) rfl rfl (binI_gtr_t hb18) ?_)
     refine Run.region_end ?_
     refine Run.condT rfl ?_
     refine Run.seq ?_
     refine Run.ops0 (idx := [0]) rfl ?_
     refine Run.go rfl rfl rfl (sem_assign ((Value.bool true)) rfl ?_)
     refine Run.region_end ?_
     refine Run.ret ⟨.inr rfl, ?_⟩
     exact hS.imp fun h' hq => ⟨(true), rfl, hq⟩
    ·have hS := hF hb18; clear hT hF
     refine Run.go rfl rfl rfl (sem_binI .i64 (IntKind.wrap .i64 ((i6) + ((ByteArray.size s16 : Nat)))) (4096) (.bool false) rfl rfl (binI_gtr_f hb18) ?_)
     refine Run.region_end ?_
     refine Run.condF rfl ?_
     refine Run.skip ?_
     refine Run.inBlock ?_
     refine Run.ops0 (idx := [0, 1]) rfl ?_
     refine Run.go rfl rfl rfl (sem_binI .i64 (i7) (1) ((Value.int .i64 (IntKind.wrap .i64 ((i7) + (1))))) rfl rfl rfl ?_)
     refine Run.go rfl rfl rfl (sem_move ((Value.int .i64 (IntKind.wrap .i64 ((i7) + (1))))) rfl ?_)
     refine Run.region_end ?_
     exact Run.of_fin (hS.imp fun h' ⟨m', hm, hS⟩ => ih11 ((IntKind.wrap .i64 ((i6) + ((ByteArray.size s16 : Nat)))), (IntKind.wrap .i64 ((i7) + (1))), m') _ _ ⟨hS, ⟨rfl, rfl, rfl, rfl, trivial⟩⟩ hm)
  ·have hS := hF hb13; clear hT hF
   refine Run.go rfl rfl rfl (sem_binI .i64 (i7) ((n2 : Nat)) (.bool false) rfl rfl (binI_lss_f hb13) ?_)
   refine Run.region_end ?_
   refine Run.seq ?_
   refine Run.condF rfl ?_
   refine Run.exit rfl ?_
   refine Run.seq ?_
   refine Run.ops0 (idx := [0]) rfl ?_
   refine Run.go rfl rfl rfl (sem_assign ((Value.bool false)) rfl ?_)
   refine Run.region_end ?_
   refine Run.ret ⟨.inr rfl, ?_⟩
   exact hS.imp fun h' hq => ⟨(false), rfl, hq⟩
set_option maxHeartbeats 4000000 in
theorem C_disk_New.of {B : RO} {h : Heap} {Q : Option Addr → Heap → Prop} (hS : S_disk_New B h Q) : C_disk_New B h Q := by
 unfold S_disk_New at hS
 unfold C_disk_New
 refine Spec.of_run Try.func26 (N := 3) (rs := [ResultVar.tmp 0]) rfl rfl rfl (Nat.le_of_ble_eq_true rfl) ?_
 refine Run.seq ?_
 refine Run.ops0 (idx := [0]) rfl ?_
 refine Run.go rfl rfl rfl (sem_assign ((Value.pointer none)) rfl ?_)
 refine Run.region_end ?_
 refine Run.seq ?_
 refine Run.ops0 (idx := [0, 1, 2]) rfl ?_
 refine Run.go rfl rfl rfl (sem_buildSL [] [(Value.string ByteArray.empty), (Value.string ByteArray.empty), (Value.string ByteArray.empty), (Value.string ByteArray.empty), (Value.slice none 0 0)] TF.zero_135 TF.places_135 rfl rfl ?_)
 refine Run.go rfl rfl rfl (sem_boxNN [(Value.string ByteArray.empty), (Value.string ByteArray.empty), (Value.string ByteArray.empty), (Value.string ByteArray.empty), (Value.slice none 0 0)] rfl (fun k2 hb1 hb2 h3 hb3 => ?_))
 have hS := hS k2 hb1 hb2 h3 hb3
 refine Run.go rfl rfl rfl (sem_assign ((Value.pointer (some ⟨k2, 0, none⟩))) rfl ?_)
 refine Run.region_end ?_
 refine Run.ret ⟨.inr rfl, ?_⟩
 exact hS.imp fun h' hq => ⟨(some ⟨k2, 0, none⟩), rfl, hq⟩
end Go.Proofs.Ytcncdfmnpmmikaa.H
