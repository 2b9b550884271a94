/- The functions do what they ask for. No condition. -/
import Derived.Test.YtoajfmmomgpjcaaXaS
namespace Go.Proofs.Ytoajfmmomgpjcaa.H
open Go
set_option linter.unusedVariables false
set_option maxRecDepth 100000

set_option maxHeartbeats 4000000 in
theorem C_countermandlaw01_StylusReads.of {B : RO} {s1 : ByteArray} {a2 : Option Addr} {n3 : Nat} {c4 : Nat} {h : Heap} {Q : Bool → Heap → Prop} (hS : S_countermandlaw01_StylusReads B s1 a2 n3 c4 h Q) : C_countermandlaw01_StylusReads B s1 a2 n3 c4 h Q := by
  unfold S_countermandlaw01_StylusReads at hS
  unfold C_countermandlaw01_StylusReads
  refine Spec.of_run Try.func3 (N := 195) (rs := [ResultVar.tmp 4]) rfl rfl rfl (Nat.le_of_ble_eq_true rfl) ?_
  refine Run.seq ?_
  refine Run.ops0 (idx := [0]) rfl ?_
  refine Run.go rfl rfl rfl (sem_assign ((Value.bool false)) rfl ?_)
  refine Run.region_end ?_
  refine Run.seq ?_
  refine Run.seq ?_
  refine Run.ops0 (idx := [0, 1]) rfl ?_
  refine Run.go rfl rfl rfl (sem_callL [] (TF.goes_15) rfl rfl (Spec.mono hS fun v h6 hv => ?_))
  obtain ⟨b7, rfl, hS⟩ := hv
  obtain ⟨hT, hF⟩ := hS
  cases b7
  · have hS := hF rfl; clear hT hF
    refine Run.go rfl rfl rfl (sem_not false rfl ?_)
    refine Run.region_end ?_
    refine Run.condT rfl ?_
    refine Run.seq ?_
    refine Run.ops0 (idx := [0]) rfl ?_
    refine Run.go rfl rfl rfl (sem_assign ((Value.bool false)) rfl ?_)
    refine Run.region_end ?_
    refine Run.ret ⟨.inr rfl, ?_⟩
    exact hS.imp fun h' hq => ⟨(false), rfl, hq⟩
  · have hS := hT rfl; clear hT hF
    refine Run.go rfl rfl rfl (sem_not true rfl ?_)
    refine Run.region_end ?_
    refine Run.condF rfl ?_
    refine Run.skip ?_
    refine Run.seqJ (fun e h9 => Agree [(0, (Value.string s1)), (1, (Value.slice a2 n3 c4))] e ∧ S_countermandlaw01_StylusReads_J1 B s1 a2 n3 c4 h9 Q) ?_ fun j8 => ?_
    · rintro e h9 ⟨hag, hS⟩
      refine Run.env hag ?_; clear hag
      refine Run.seq ?_
      refine Run.ops0 (idx := [0, 1, 2]) rfl ?_
      refine Run.go rfl rfl rfl (sem_move ((Value.string s1)) rfl ?_)
      refine Run.go rfl rfl rfl (sem_callL [(Value.string s1)] (TF.goes_16) rfl rfl (Spec.mono hS fun v h10 hv => ?_))
      obtain ⟨p11, rfl, hS⟩ := hv
      refine Run.go rfl rfl rfl (sem_assign ((Value.pointer p11)) rfl ?_)
      refine Run.region_end ?_
      refine Run.seq ?_
      refine Run.ops0 (idx := [0]) rfl ?_
      refine Run.go rfl rfl rfl (sem_assign ((Value.bool false)) rfl ?_)
      refine Run.region_end ?_
      refine Run.seqJ (fun e h13 => Agree [] e ∧ S_countermandlaw01_StylusReads_J2 B h13 Q) ?_ fun j12 => ?_
      · rintro e h13 ⟨hag, hS⟩
        refine Run.env hag ?_; clear hag
        refine Run.seq ?_
        refine Run.ops0 (idx := [0]) rfl ?_
        refine Run.go rfl rfl rfl (sem_assign ((Value.pointer none)) rfl ?_)
        refine Run.region_end ?_
        refine Run.seq ?_
        refine Run.ops0 (idx := [0, 1]) rfl ?_
        refine Run.go rfl rfl rfl (sem_move ((Value.pointer none)) rfl ?_)
        refine Run.go rfl rfl rfl (sem_callL [(Value.pointer none)] (TF.goes_26) rfl rfl (Spec.mono hS fun v h14 hv => ?_))
        obtain ⟨rfl, hS⟩ := hv
        refine Run.region_end ?_
        refine Run.seq ?_
        refine Run.ops0 (idx := [0, 1, 2, 3, 4, 5, 6, 7, 8, 9, 10, 11, 12, 13, 14, 15, 16, 17, 18, 19, 20, 21, 22, 23, 24, 25, 26, 27, 28, 29, 30, 31, 32]) rfl ?_
        refine Run.go rfl rfl rfl (sem_move ((Value.pointer none)) rfl ?_)
        refine Run.go rfl rfl rfl (sem_callL [(Value.pointer none), (Value.int .i64 (0))] (TF.goes_21) rfl rfl (Spec.mono hS fun v h15 hv => ?_))
        obtain ⟨s16, rfl, hS⟩ := hv
        obtain ⟨hT, hF⟩ := hS
        by_cases hb17 : s16 = (ByteArray.mk #[])
        · have hS := hT hb17; clear hT hF
          refine Run.go rfl rfl rfl (sem_strEqT s16 (ByteArray.mk #[]) rfl rfl hb17 ?_)
          refine Run.go rfl rfl rfl (sem_move ((Value.bool true)) rfl ?_)
          refine Run.go rfl rfl rfl (sem_move ((Value.pointer none)) rfl ?_)
          refine Run.go rfl rfl rfl (sem_callL [(Value.pointer none), (Value.int .i64 (9))] (TF.goes_18) rfl rfl (Spec.mono hS fun v h18 hv => ?_))
          obtain ⟨i19, rfl, hS⟩ := hv
          obtain ⟨hT, hF⟩ := hS
          by_cases hb20 : (i19 : Int) = 0
          · have hS := hT hb20; clear hT hF
            refine Run.go rfl rfl rfl (sem_binI .i64 (i19) (0) (.bool true) rfl rfl (binI_eql_t hb20) ?_)
            refine Run.go rfl rfl rfl (sem_pick true ((Value.bool true)) rfl rfl ?_)
            refine Run.go rfl rfl rfl (sem_move ((Value.bool true)) rfl ?_)
            refine Run.go rfl rfl rfl (sem_move ((Value.pointer none)) rfl ?_)
            refine Run.go rfl rfl rfl (sem_callL [(Value.pointer none)] (TF.goes_19) rfl rfl (Spec.mono hS fun v h21 hv => ?_))
            obtain ⟨i22, rfl, hS⟩ := hv
            obtain ⟨hT, hF⟩ := hS
            by_cases hb23 : (i22 : Int) = 0
            · have hS := hT hb23; clear hT hF
              refine Run.go rfl rfl rfl (sem_binI .i64 (i22) (0) (.bool true) rfl rfl (binI_eql_t hb23) ?_)
              refine Run.go rfl rfl rfl (sem_pick true ((Value.bool true)) rfl rfl ?_)
              refine Run.go rfl rfl rfl (sem_move ((Value.bool true)) rfl ?_)
              refine Run.go rfl rfl rfl (sem_move ((Value.pointer none)) rfl ?_)
              refine Run.go rfl rfl rfl (sem_callL [(Value.pointer none), (Value.int .i64 (9))] (TF.goes_22) rfl rfl (Spec.mono hS fun v h24 hv => ?_))
              obtain ⟨s25, rfl, hS⟩ := hv
              obtain ⟨hT, hF⟩ := hS
              by_cases hb26 : s25 = (ByteArray.mk #[])
              · have hS := hT hb26; clear hT hF
                refine Run.go rfl rfl rfl (sem_strEqT s25 (ByteArray.mk #[]) rfl rfl hb26 ?_)
                refine Run.go rfl rfl rfl (sem_pick true ((Value.bool true)) rfl rfl ?_)
                refine Run.go rfl rfl rfl (sem_move ((Value.bool true)) rfl ?_)
                refine Run.go rfl rfl rfl (sem_move ((Value.pointer none)) rfl ?_)
                refine Run.go rfl rfl rfl (sem_callL [(Value.pointer none)] (TF.goes_23) rfl rfl (Spec.mono hS fun v h27 hv => ?_))
                obtain ⟨b28, rfl, hS⟩ := hv
                obtain ⟨hT, hF⟩ := hS
                cases b28
                · have hS := hF rfl; clear hT hF
                  refine Run.go rfl rfl rfl (sem_pick true ((Value.bool false)) rfl rfl ?_)
                  refine Run.go rfl rfl rfl (sem_move ((Value.bool false)) rfl ?_)
                  refine Run.no rfl rfl rfl ?_
                  refine Run.no rfl rfl rfl ?_
                  refine Run.no rfl rfl rfl ?_
                  refine Run.go rfl rfl rfl (sem_pick false ((Value.bool false)) rfl rfl ?_)
                  refine Run.go rfl rfl rfl (sem_move ((Value.bool false)) rfl ?_)
                  refine Run.no rfl rfl rfl ?_
                  refine Run.no rfl rfl rfl ?_
                  refine Run.no rfl rfl rfl ?_
                  refine Run.go rfl rfl rfl (sem_pick false ((Value.bool false)) rfl rfl ?_)
                  refine Run.go rfl rfl rfl (sem_assign ((Value.bool false)) rfl ?_)
                  refine Run.region_end ?_
                  refine Run.ret ⟨.inr rfl, ?_⟩
                  exact hS.imp fun h' hq => ⟨(false), rfl, hq⟩
                · have hS := hT rfl; clear hT hF
                  refine Run.go rfl rfl rfl (sem_pick true ((Value.bool true)) rfl rfl ?_)
                  refine Run.go rfl rfl rfl (sem_move ((Value.bool true)) rfl ?_)
                  refine Run.go rfl rfl rfl (sem_move ((Value.pointer none)) rfl ?_)
                  refine Run.go rfl rfl rfl (sem_callL [(Value.pointer none)] (TF.goes_25) rfl rfl (Spec.mono hS fun v h29 hv => ?_))
                  obtain ⟨b30, rfl, hS⟩ := hv
                  obtain ⟨hT, hF⟩ := hS
                  cases b30
                  · have hS := hF rfl; clear hT hF
                    refine Run.go rfl rfl rfl (sem_not false rfl ?_)
                    refine Run.go rfl rfl rfl (sem_pick true ((Value.bool true)) rfl rfl ?_)
                    refine Run.go rfl rfl rfl (sem_move ((Value.bool true)) rfl ?_)
                    refine Run.go rfl rfl rfl (sem_move ((Value.pointer none)) rfl ?_)
                    refine Run.go rfl rfl rfl (sem_callL [(Value.pointer none)] (TF.goes_24) rfl rfl (Spec.mono hS fun v h31 hv => ?_))
                    obtain ⟨i32, rfl, hS⟩ := hv
                    refine Run.go rfl rfl rfl (sem_binI .i64 (i32) (0) ((Value.bool ((i32 : Int) == (0)))) rfl rfl rfl ?_)
                    refine Run.go rfl rfl rfl (sem_pick true ((Value.bool ((i32 : Int) == (0)))) rfl rfl ?_)
                    refine Run.go rfl rfl rfl (sem_assign ((Value.bool ((i32 : Int) == (0)))) rfl ?_)
                    refine Run.region_end ?_
                    refine Run.ret ⟨.inr rfl, ?_⟩
                    exact hS.imp fun h' hq => ⟨(((i32 : Int) == (0))), rfl, hq⟩
                  · have hS := hT rfl; clear hT hF
                    refine Run.go rfl rfl rfl (sem_not true rfl ?_)
                    refine Run.go rfl rfl rfl (sem_pick true ((Value.bool false)) rfl rfl ?_)
                    refine Run.go rfl rfl rfl (sem_move ((Value.bool false)) rfl ?_)
                    refine Run.no rfl rfl rfl ?_
                    refine Run.no rfl rfl rfl ?_
                    refine Run.no rfl rfl rfl ?_
                    refine Run.go rfl rfl rfl (sem_pick false ((Value.bool false)) rfl rfl ?_)
                    refine Run.go rfl rfl rfl (sem_assign ((Value.bool false)) rfl ?_)
                    refine Run.region_end ?_
                    refine Run.ret ⟨.inr rfl, ?_⟩
                    exact hS.imp fun h' hq => ⟨(false), rfl, hq⟩
              · have hS := hF hb26; clear hT hF
                refine Run.go rfl rfl rfl (sem_strEqF s25 (ByteArray.mk #[]) rfl rfl hb26 ?_)
                refine Run.go rfl rfl rfl (sem_pick true ((Value.bool false)) rfl rfl ?_)
                refine Run.go rfl rfl rfl (sem_move ((Value.bool false)) rfl ?_)
                refine Run.no rfl rfl rfl ?_
                refine Run.no rfl rfl rfl ?_
                refine Run.go rfl rfl rfl (sem_pick false ((Value.bool false)) rfl rfl ?_)
                refine Run.go rfl rfl rfl (sem_move ((Value.bool false)) rfl ?_)
                refine Run.no rfl rfl rfl ?_
                refine Run.no rfl rfl rfl ?_
                refine Run.no rfl rfl rfl ?_
                refine Run.go rfl rfl rfl (sem_pick false ((Value.bool false)) rfl rfl ?_)
                refine Run.go rfl rfl rfl (sem_move ((Value.bool false)) rfl ?_)
                refine Run.no rfl rfl rfl ?_
                refine Run.no rfl rfl rfl ?_
                refine Run.no rfl rfl rfl ?_
                refine Run.go rfl rfl rfl (sem_pick false ((Value.bool false)) rfl rfl ?_)
                refine Run.go rfl rfl rfl (sem_assign ((Value.bool false)) rfl ?_)
                refine Run.region_end ?_
                refine Run.ret ⟨.inr rfl, ?_⟩
                exact hS.imp fun h' hq => ⟨(false), rfl, hq⟩
            · have hS := hF hb23; clear hT hF
              refine Run.go rfl rfl rfl (sem_binI .i64 (i22) (0) (.bool false) rfl rfl (binI_eql_f hb23) ?_)
              refine Run.go rfl rfl rfl (sem_pick true ((Value.bool false)) rfl rfl ?_)
              refine Run.go rfl rfl rfl (sem_move ((Value.bool false)) rfl ?_)
              refine Run.no rfl rfl rfl ?_
              refine Run.no rfl rfl rfl ?_
              refine Run.no rfl rfl rfl ?_
              refine Run.go rfl rfl rfl (sem_pick false ((Value.bool false)) rfl rfl ?_)
              refine Run.go rfl rfl rfl (sem_move ((Value.bool false)) rfl ?_)
              refine Run.no rfl rfl rfl ?_
              refine Run.no rfl rfl rfl ?_
              refine Run.go rfl rfl rfl (sem_pick false ((Value.bool false)) rfl rfl ?_)
              refine Run.go rfl rfl rfl (sem_move ((Value.bool false)) rfl ?_)
              refine Run.no rfl rfl rfl ?_
              refine Run.no rfl rfl rfl ?_
              refine Run.no rfl rfl rfl ?_
              refine Run.go rfl rfl rfl (sem_pick false ((Value.bool false)) rfl rfl ?_)
              refine Run.go rfl rfl rfl (sem_move ((Value.bool false)) rfl ?_)
              refine Run.no rfl rfl rfl ?_
              refine Run.no rfl rfl rfl ?_
              refine Run.no rfl rfl rfl ?_
              refine Run.go rfl rfl rfl (sem_pick false ((Value.bool false)) rfl rfl ?_)
              refine Run.go rfl rfl rfl (sem_assign ((Value.bool false)) rfl ?_)
              refine Run.region_end ?_
              refine Run.ret ⟨.inr rfl, ?_⟩
              exact hS.imp fun h' hq => ⟨(false), rfl, hq⟩
          · have hS := hF hb20; clear hT hF
            refine Run.go rfl rfl rfl (sem_binI .i64 (i19) (0) (.bool false) rfl rfl (binI_eql_f hb20) ?_)
            refine Run.go rfl rfl rfl (sem_pick true ((Value.bool false)) rfl rfl ?_)
            refine Run.go rfl rfl rfl (sem_move ((Value.bool false)) rfl ?_)
            refine Run.no rfl rfl rfl ?_
            refine Run.no rfl rfl rfl ?_
            refine Run.no rfl rfl rfl ?_
            refine Run.go rfl rfl rfl (sem_pick false ((Value.bool false)) rfl rfl ?_)
            refine Run.go rfl rfl rfl (sem_move ((Value.bool false)) rfl ?_)
            refine Run.no rfl rfl rfl ?_
            refine Run.no rfl rfl rfl ?_
            refine Run.no rfl rfl rfl ?_
            refine Run.go rfl rfl rfl (sem_pick false ((Value.bool false)) rfl rfl ?_)
            refine Run.go rfl rfl rfl (sem_move ((Value.bool false)) rfl ?_)
            refine Run.no rfl rfl rfl ?_
            refine Run.no rfl rfl rfl ?_
            refine Run.go rfl rfl rfl (sem_pick false ((Value.bool false)) rfl rfl ?_)
            refine Run.go rfl rfl rfl (sem_move ((Value.bool false)) rfl ?_)
            refine Run.no rfl rfl rfl ?_
            refine Run.no rfl rfl rfl ?_
            refine Run.no rfl rfl rfl ?_
            refine Run.go rfl rfl rfl (sem_pick false ((Value.bool false)) rfl rfl ?_)
            refine Run.go rfl rfl rfl (sem_move ((Value.bool false)) rfl ?_)
            refine Run.no rfl rfl rfl ?_
            refine Run.no rfl rfl rfl ?_
            refine Run.no rfl rfl rfl ?_
            refine Run.go rfl rfl rfl (sem_pick false ((Value.bool false)) rfl rfl ?_)
            refine Run.go rfl rfl rfl (sem_assign ((Value.bool false)) rfl ?_)
            refine Run.region_end ?_
            refine Run.ret ⟨.inr rfl, ?_⟩
            exact hS.imp fun h' hq => ⟨(false), rfl, hq⟩
        · have hS := hF hb17; clear hT hF
          refine Run.go rfl rfl rfl (sem_strEqF s16 (ByteArray.mk #[]) rfl rfl hb17 ?_)
          refine Run.go rfl rfl rfl (sem_move ((Value.bool false)) rfl ?_)
          refine Run.no rfl rfl rfl ?_
          refine Run.no rfl rfl rfl ?_
          refine Run.no rfl rfl rfl ?_
          refine Run.go rfl rfl rfl (sem_pick false ((Value.bool false)) rfl rfl ?_)
          refine Run.go rfl rfl rfl (sem_move ((Value.bool false)) rfl ?_)
          refine Run.no rfl rfl rfl ?_
          refine Run.no rfl rfl rfl ?_
          refine Run.no rfl rfl rfl ?_
          refine Run.go rfl rfl rfl (sem_pick false ((Value.bool false)) rfl rfl ?_)
          refine Run.go rfl rfl rfl (sem_move ((Value.bool false)) rfl ?_)
          refine Run.no rfl rfl rfl ?_
          refine Run.no rfl rfl rfl ?_
          refine Run.no rfl rfl rfl ?_
          refine Run.go rfl rfl rfl (sem_pick false ((Value.bool false)) rfl rfl ?_)
          refine Run.go rfl rfl rfl (sem_move ((Value.bool false)) rfl ?_)
          refine Run.no rfl rfl rfl ?_
          refine Run.no rfl rfl rfl ?_
          refine Run.go rfl rfl rfl (sem_pick false ((Value.bool false)) rfl rfl ?_)
          refine Run.go rfl rfl rfl (sem_move ((Value.bool false)) rfl ?_)
          refine Run.no rfl rfl rfl ?_
          refine Run.no rfl rfl rfl ?_
          refine Run.no rfl rfl rfl ?_
          refine Run.go rfl rfl rfl (sem_pick false ((Value.bool false)) rfl rfl ?_)
          refine Run.go rfl rfl rfl (sem_move ((Value.bool false)) rfl ?_)
          refine Run.no rfl rfl rfl ?_
          refine Run.no rfl rfl rfl ?_
          refine Run.no rfl rfl rfl ?_
          refine Run.go rfl rfl rfl (sem_pick false ((Value.bool false)) rfl rfl ?_)
          refine Run.go rfl rfl rfl (sem_assign ((Value.bool false)) rfl ?_)
          refine Run.region_end ?_
          refine Run.ret ⟨.inr rfl, ?_⟩
          exact hS.imp fun h' hq => ⟨(false), rfl, hq⟩
      refine Run.seq ?_
      refine Run.ops0 (idx := [0, 1, 2]) rfl ?_
      refine Run.go rfl rfl rfl (sem_move ((Value.slice a2 n3 c4)) rfl ?_)
      refine Run.go rfl rfl rfl (sem_lenSl a2 n3 c4 rfl TF.sl_22 ?_)
      refine Run.go rfl rfl rfl (sem_move ((Value.int .i64 (0))) rfl ?_)
      refine Run.region_end ?_
      refine Run.block ?_
      obtain ⟨J40, m38, h0, hS⟩ := hS
      refine Run.of_fin (h0.imp fun h' h0 => ?_)
      refine Run.loop (σ := ByteArray × Bool × Int × Nat) (fun x e h => J40 x.1 x.2.1 x.2.2.1 x.2.2.2 h ∧ Agree [(0, (Value.string x.1)), (5, (Value.pointer p11)), (6, (Value.bool x.2.1)), (28, (Value.slice a2 n3 c4)), (29, (Value.int .i64 ((n3 : Nat)))), (30, (Value.int .i64 (x.2.2.1)))] e) (fun x => x.2.2.2) (s1, (false), (0), m38) ⟨h0, ⟨rfl, rfl, rfl, rfl, rfl, rfl, trivial⟩⟩ ?_; clear h0
      rintro ⟨s33, b34, i35, m37⟩ e h36 ⟨hJ, hag⟩ ih39
      have hS := hS s33 b34 i35 m37 h36 hJ; clear hJ
      refine Run.env hag ?_; clear hag
      refine Run.seq ?_
      refine Run.ops0 (idx := [0]) rfl ?_
      obtain ⟨hT, hF⟩ := hS
      by_cases hb41 : (i35 : Int) < ((n3 : Nat))
      · have hS := hT hb41; clear hT hF
        refine Run.go rfl rfl rfl (sem_binI .i64 (i35) ((n3 : Nat)) (.bool true) rfl rfl (binI_lss_t hb41) ?_)
        refine Run.region_end ?_
        refine Run.seq ?_
        refine Run.condT rfl ?_
        refine Run.skip ?_
        refine Run.seq ?_
        refine Run.block ?_
        refine Run.seq ?_
        refine Run.ops0 (idx := [0, 1, 2, 3]) rfl ?_
        obtain ⟨A42, e43, hi0, hi1, hS⟩ := hS
        refine Run.go rfl rfl rfl (sem_indexAddrS A42 n3 c4 .i64 (i35) (congrArg (fun a => Value.slice a n3 c4) e43) rfl TF.slc_22 hi0 hi1 ?_)
        obtain ⟨i44, i45, hl, hS⟩ := hS
        refine Run.go rfl rfl rfl (sem_loadN (Addr.add A42 (Int.toNat (i35) * 2)) [(Value.int .i64 (i44)), (Value.int .i64 (i45))] rfl TF.agg_27 TF.sz_27 hl ?_)
        refine Run.go rfl rfl rfl (sem_allocN [(Value.int .i64 (0)), (Value.int .i64 (0))] TF.zero_27 (fun k46 hb1 hb2 h47 hb3 => ?_))
        have hS := hS k46 hb1 hb2 h47 hb3
        obtain ⟨h48, hst, hS⟩ := hS
        refine Run.go rfl rfl rfl (sem_storeN ⟨k46, 0, none⟩ [(Value.int .i64 (i44)), (Value.int .i64 (i45))] h48 rfl rfl TF.sz_27 hst ?_)
        refine Run.region_end ?_
        refine Run.seq ?_
        refine Run.ops0 (idx := [0]) rfl ?_
        refine Run.go rfl rfl rfl (sem_assign ((Value.int .u64 (0))) rfl ?_)
        refine Run.region_end ?_
        refine Run.seq ?_
        refine Run.ops0 (idx := [0]) rfl ?_
        refine Run.go rfl rfl rfl (sem_assign ((Value.string (ByteArray.mk #[]))) rfl ?_)
        refine Run.region_end ?_
        refine Run.seqJ (fun e h53 => ∃ s50 : ByteArray, ∃ b51 : Bool, ∃ i52 : Int, Agree [(0, (Value.string s50)), (5, (Value.pointer p11)), (6, (Value.bool b51)), (8, (Value.pointer (some ⟨k46, 0, none⟩))), (9, (Value.int .u64 (i52))), (10, (Value.string (ByteArray.mk #[]))), (28, (Value.slice a2 n3 c4)), (29, (Value.int .i64 ((n3 : Nat)))), (30, (Value.int .i64 (i35)))] e ∧ S_countermandlaw01_StylusReads_J3 B a2 n3 c4 p11 i35 m37 J40 k46 s50 b51 i52 h53 Q) ?_ fun j49 => ?_
        · rintro e h53 ⟨s50, b51, i52, hag, hS⟩
          refine Run.env hag ?_; clear hag
          refine Run.seq ?_
          refine Run.ops0 (idx := [0, 1, 2]) rfl ?_
          refine Run.go rfl rfl rfl (sem_fieldAddr ⟨k46, 0, none⟩ 1 rfl TF.fld_27_1 ?_)
          obtain ⟨i54, hl, hS⟩ := hS
          refine Run.go rfl rfl rfl (sem_load1 ⟨k46, 1, none⟩ ((Value.int .i64 (i54))) rfl TF.agg_3 hl ?_)
          refine Run.go rfl rfl rfl (sem_assign ((Value.int .i64 (i54))) rfl ?_)
          refine Run.region_end ?_
          refine Run.seqJ (fun e h57 => ∃ i56 : Int, Agree [(0, (Value.string s50)), (5, (Value.pointer p11)), (6, (Value.bool b51)), (8, (Value.pointer (some ⟨k46, 0, none⟩))), (9, (Value.int .u64 (i52))), (10, (Value.string (ByteArray.mk #[]))), (13, (Value.int .i64 (i56))), (28, (Value.slice a2 n3 c4)), (29, (Value.int .i64 ((n3 : Nat)))), (30, (Value.int .i64 (i35)))] e ∧ S_countermandlaw01_StylusReads_J4 B a2 n3 c4 p11 i35 m37 J40 k46 s50 b51 i52 i56 h57 Q) ?_ fun j55 => ?_
          · rintro e h57 ⟨i56, hag, hS⟩
            refine Run.env hag ?_; clear hag
            refine Run.seqJ (fun e h62 => ∃ s59 : ByteArray, ∃ b60 : Bool, ∃ s61 : ByteArray, Agree [(0, (Value.string s59)), (5, (Value.pointer p11)), (6, (Value.bool b60)), (8, (Value.pointer (some ⟨k46, 0, none⟩))), (9, (Value.int .u64 (i52))), (10, (Value.string s61)), (28, (Value.slice a2 n3 c4)), (29, (Value.int .i64 ((n3 : Nat)))), (30, (Value.int .i64 (i35)))] e ∧ S_countermandlaw01_StylusReads_J5 B a2 n3 c4 p11 i35 m37 J40 k46 i52 s59 b60 s61 h62 Q) ?_ fun j58 => ?_
            · rintro e h62 ⟨s59, b60, s61, hag, hS⟩
              refine Run.env hag ?_; clear hag
              refine Run.seqJ (fun e h66 => ∃ s64 : ByteArray, ∃ i65 : Int, Agree [(0, (Value.string s64)), (5, (Value.pointer p11)), (6, (Value.bool b60)), (8, (Value.pointer (some ⟨k46, 0, none⟩))), (9, (Value.int .u64 (i65))), (10, (Value.string s61)), (28, (Value.slice a2 n3 c4)), (29, (Value.int .i64 ((n3 : Nat)))), (30, (Value.int .i64 (i35)))] e ∧ S_countermandlaw01_StylusReads_J6 B a2 n3 c4 p11 i35 m37 J40 k46 b60 s61 s64 i65 h66 Q) ?_ fun j63 => ?_
              · rintro e h66 ⟨s64, i65, hag, hS⟩
                refine Run.env hag ?_; clear hag
                refine Run.seq ?_
                refine Run.ops0 (idx := [0]) rfl ?_
                refine Run.go rfl rfl rfl (sem_assign ((Value.bool true)) rfl ?_)
                refine Run.region_end ?_
                refine Run.seqJ (fun e h69 => ∃ b68 : Bool, Agree [(0, (Value.string s64)), (5, (Value.pointer p11)), (6, (Value.bool b60)), (14, (Value.bool b68)), (28, (Value.slice a2 n3 c4)), (29, (Value.int .i64 ((n3 : Nat)))), (30, (Value.int .i64 (i35)))] e ∧ S_countermandlaw01_StylusReads_J7 B a2 n3 c4 p11 i35 m37 J40 b60 s64 b68 h69 Q) ?_ fun j67 => ?_
                · rintro e h69 ⟨b68, hag, hS⟩
                  refine Run.env hag ?_; clear hag
                  refine Run.seq ?_
                  refine Run.ops0 (idx := [0, 1, 2, 3, 4, 5, 6, 7, 8, 9, 10, 11, 12, 13, 14, 15, 16, 17, 18, 19, 20, 21, 22, 23, 24, 25]) rfl ?_
                  obtain ⟨hT, hF⟩ := hS
                  cases b68
                  · have hS := hF rfl; clear hT hF
                    refine Run.go rfl rfl rfl (sem_move (.bool false) rfl ?_)
                    refine Run.go rfl rfl rfl (sem_not false rfl ?_)
                    refine Run.go rfl rfl rfl (sem_move ((Value.bool true)) rfl ?_)
                    refine Run.no rfl rfl rfl ?_
                    refine Run.no rfl rfl rfl ?_
                    refine Run.no rfl rfl rfl ?_
                    refine Run.no rfl rfl rfl ?_
                    refine Run.go rfl rfl rfl (sem_pick true ((Value.bool true)) rfl rfl ?_)
                    refine Run.go rfl rfl rfl (sem_move ((Value.bool true)) rfl ?_)
                    refine Run.no rfl rfl rfl ?_
                    refine Run.no rfl rfl rfl ?_
                    refine Run.no rfl rfl rfl ?_
                    refine Run.no rfl rfl rfl ?_
                    refine Run.no rfl rfl rfl ?_
                    refine Run.go rfl rfl rfl (sem_pick true ((Value.bool true)) rfl rfl ?_)
                    refine Run.go rfl rfl rfl (sem_move ((Value.bool true)) rfl ?_)
                    refine Run.no rfl rfl rfl ?_
                    refine Run.no rfl rfl rfl ?_
                    refine Run.no rfl rfl rfl ?_
                    refine Run.no rfl rfl rfl ?_
                    refine Run.no rfl rfl rfl ?_
                    refine Run.no rfl rfl rfl ?_
                    refine Run.no rfl rfl rfl ?_
                    refine Run.no rfl rfl rfl ?_
                    refine Run.no rfl rfl rfl ?_
                    refine Run.go rfl rfl rfl (sem_pick true ((Value.bool true)) rfl rfl ?_)
                    refine Run.region_end ?_
                    refine Run.condT rfl ?_
                    refine Run.seq ?_
                    refine Run.ops0 (idx := [0]) rfl ?_
                    refine Run.go rfl rfl rfl (sem_assign ((Value.bool false)) rfl ?_)
                    refine Run.region_end ?_
                    refine Run.ret ⟨.inr rfl, ?_⟩
                    exact hS.imp fun h' hq => ⟨(false), rfl, hq⟩
                  · have hS := hT rfl; clear hT hF
                    refine Run.go rfl rfl rfl (sem_move (.bool true) rfl ?_)
                    refine Run.go rfl rfl rfl (sem_not true rfl ?_)
                    refine Run.go rfl rfl rfl (sem_move ((Value.bool false)) rfl ?_)
                    refine Run.go rfl rfl rfl (sem_move ((Value.pointer p11)) rfl ?_)
                    refine Run.go rfl rfl rfl (sem_callL [(Value.pointer p11)] (TF.goes_23) rfl rfl (Spec.mono hS fun v h70 hv => ?_))
                    obtain ⟨b71, rfl, hS⟩ := hv
                    refine Run.go rfl rfl rfl (sem_move ((Value.bool b60)) rfl ?_)
                    obtain ⟨hT, hF⟩ := hS
                    by_cases hb72 : b71 = b60
                    · have hS := hT hb72; clear hT hF
                      refine Run.go rfl rfl rfl (sem_boolEqT b71 b60 (.inr rfl) false rfl rfl TF.bool_4 hb72 rfl ?_)
                      refine Run.go rfl rfl rfl (sem_pick false ((Value.bool false)) rfl rfl ?_)
                      refine Run.go rfl rfl rfl (sem_move ((Value.bool false)) rfl ?_)
                      refine Run.go rfl rfl rfl (sem_move ((Value.pointer p11)) rfl ?_)
                      refine Run.go rfl rfl rfl (sem_callL [(Value.pointer p11)] (TF.goes_24) rfl rfl (Spec.mono hS fun v h73 hv => ?_))
                      obtain ⟨i74, rfl, hS⟩ := hv
                      refine Run.go rfl rfl rfl (sem_move ((Value.string s64)) rfl ?_)
                      refine Run.go rfl rfl rfl (sem_lenStr s64 rfl TF.isStr_9 ?_)
                      obtain ⟨hT, hF⟩ := hS
                      by_cases hb75 : (i74 : Int) = (ByteArray.size s64 : Nat)
                      · have hS := hT hb75; clear hT hF
                        refine Run.go rfl rfl rfl (sem_binI .i64 (i74) ((ByteArray.size s64 : Nat)) (.bool false) rfl rfl (binI_neq_t hb75) ?_)
                        refine Run.go rfl rfl rfl (sem_pick false ((Value.bool false)) rfl rfl ?_)
                        refine Run.go rfl rfl rfl (sem_move ((Value.bool false)) rfl ?_)
                        refine Run.go rfl rfl rfl (sem_move ((Value.pointer p11)) rfl ?_)
                        refine Run.go rfl rfl rfl (sem_callL [(Value.pointer p11)] (TF.goes_25) rfl rfl (Spec.mono hS fun v h76 hv => ?_))
                        obtain ⟨b77, rfl, hS⟩ := hv
                        obtain ⟨hT, hF⟩ := hS
                        cases b60
                        · have hS := hF rfl; clear hT hF
                          refine Run.go rfl rfl rfl (sem_move (.bool false) rfl ?_)
                          refine Run.go rfl rfl rfl (sem_not false rfl ?_)
                          refine Run.go rfl rfl rfl (sem_move ((Value.bool true)) rfl ?_)
                          refine Run.go rfl rfl rfl (sem_move ((Value.string s64)) rfl ?_)
                          refine Run.go rfl rfl rfl (sem_strEq s64 (ByteArray.mk #[]) rfl rfl ?_)
                          refine Run.go rfl rfl rfl (sem_pick true ((Value.bool (decide (s64 = (ByteArray.mk #[]))))) rfl rfl ?_)
                          obtain ⟨hT, hF⟩ := hS
                          by_cases hb78 : b77 = (decide (s64 = (ByteArray.mk #[])))
                          · have hS := hT hb78; clear hT hF
                            refine Run.go rfl rfl rfl (sem_boolEqT b77 (decide (s64 = (ByteArray.mk #[]))) (.inr rfl) false rfl rfl TF.bool_4 hb78 rfl ?_)
                            refine Run.go rfl rfl rfl (sem_pick false ((Value.bool false)) rfl rfl ?_)
                            refine Run.region_end ?_
                            refine Run.condF rfl ?_
                            refine Run.skip ?_
                            refine Run.inBlock ?_
                            refine Run.ops0 (idx := [0, 1]) rfl ?_
                            refine Run.go rfl rfl rfl (sem_binI .i64 (i35) (1) ((Value.int .i64 (IntKind.wrap .i64 ((i35) + (1))))) rfl rfl rfl ?_)
                            refine Run.go rfl rfl rfl (sem_move ((Value.int .i64 (IntKind.wrap .i64 ((i35) + (1))))) rfl ?_)
                            refine Run.region_end ?_
                            exact Run.of_fin (hS.imp fun h' ⟨m', hm, hS⟩ => ih39 (s64, (false), (IntKind.wrap .i64 ((i35) + (1))), m') _ _ ⟨hS, ⟨rfl, rfl, rfl, rfl, rfl, rfl, trivial⟩⟩ hm)
                          · have hS := hF hb78; clear hT hF
                            refine Run.go rfl rfl rfl (sem_boolEqF b77 (decide (s64 = (ByteArray.mk #[]))) (.inr rfl) true rfl rfl TF.bool_4 hb78 rfl ?_)
                            refine Run.go rfl rfl rfl (sem_pick false ((Value.bool true)) rfl rfl ?_)
                            refine Run.region_end ?_
                            refine Run.condT rfl ?_
                            refine Run.seq ?_
                            refine Run.ops0 (idx := [0]) rfl ?_
                            refine Run.go rfl rfl rfl (sem_assign ((Value.bool false)) rfl ?_)
                            refine Run.region_end ?_
                            refine Run.ret ⟨.inr rfl, ?_⟩
                            exact hS.imp fun h' hq => ⟨(false), rfl, hq⟩
                        · have hS := hT rfl; clear hT hF
                          refine Run.go rfl rfl rfl (sem_move (.bool true) rfl ?_)
                          refine Run.go rfl rfl rfl (sem_not true rfl ?_)
                          refine Run.go rfl rfl rfl (sem_move ((Value.bool false)) rfl ?_)
                          refine Run.no rfl rfl rfl ?_
                          refine Run.no rfl rfl rfl ?_
                          refine Run.go rfl rfl rfl (sem_pick false ((Value.bool false)) rfl rfl ?_)
                          obtain ⟨hT, hF⟩ := hS
                          by_cases hb79 : b77 = false
                          · have hS := hT hb79; clear hT hF
                            refine Run.go rfl rfl rfl (sem_boolEqT b77 false (.inr rfl) false rfl rfl TF.bool_4 hb79 rfl ?_)
                            refine Run.go rfl rfl rfl (sem_pick false ((Value.bool false)) rfl rfl ?_)
                            refine Run.region_end ?_
                            refine Run.condF rfl ?_
                            refine Run.skip ?_
                            refine Run.inBlock ?_
                            refine Run.ops0 (idx := [0, 1]) rfl ?_
                            refine Run.go rfl rfl rfl (sem_binI .i64 (i35) (1) ((Value.int .i64 (IntKind.wrap .i64 ((i35) + (1))))) rfl rfl rfl ?_)
                            refine Run.go rfl rfl rfl (sem_move ((Value.int .i64 (IntKind.wrap .i64 ((i35) + (1))))) rfl ?_)
                            refine Run.region_end ?_
                            exact Run.of_fin (hS.imp fun h' ⟨m', hm, hS⟩ => ih39 (s64, (true), (IntKind.wrap .i64 ((i35) + (1))), m') _ _ ⟨hS, ⟨rfl, rfl, rfl, rfl, rfl, rfl, trivial⟩⟩ hm)
                          · have hS := hF hb79; clear hT hF
                            refine Run.go rfl rfl rfl (sem_boolEqF b77 false (.inr rfl) true rfl rfl TF.bool_4 hb79 rfl ?_)
                            refine Run.go rfl rfl rfl (sem_pick false ((Value.bool true)) rfl rfl ?_)
                            refine Run.region_end ?_
                            refine Run.condT rfl ?_
                            refine Run.seq ?_
                            refine Run.ops0 (idx := [0]) rfl ?_
                            refine Run.go rfl rfl rfl (sem_assign ((Value.bool false)) rfl ?_)
                            refine Run.region_end ?_
                            refine Run.ret ⟨.inr rfl, ?_⟩
                            exact hS.imp fun h' hq => ⟨(false), rfl, hq⟩
                      · have hS := hF hb75; clear hT hF
                        refine Run.go rfl rfl rfl (sem_binI .i64 (i74) ((ByteArray.size s64 : Nat)) (.bool true) rfl rfl (binI_neq_f hb75) ?_)
                        refine Run.go rfl rfl rfl (sem_pick false ((Value.bool true)) rfl rfl ?_)
                        refine Run.go rfl rfl rfl (sem_move ((Value.bool true)) rfl ?_)
                        refine Run.no rfl rfl rfl ?_
                        refine Run.no rfl rfl rfl ?_
                        refine Run.no rfl rfl rfl ?_
                        refine Run.no rfl rfl rfl ?_
                        refine Run.no rfl rfl rfl ?_
                        refine Run.no rfl rfl rfl ?_
                        refine Run.no rfl rfl rfl ?_
                        refine Run.no rfl rfl rfl ?_
                        refine Run.no rfl rfl rfl ?_
                        refine Run.go rfl rfl rfl (sem_pick true ((Value.bool true)) rfl rfl ?_)
                        refine Run.region_end ?_
                        refine Run.condT rfl ?_
                        refine Run.seq ?_
                        refine Run.ops0 (idx := [0]) rfl ?_
                        refine Run.go rfl rfl rfl (sem_assign ((Value.bool false)) rfl ?_)
                        refine Run.region_end ?_
                        refine Run.ret ⟨.inr rfl, ?_⟩
                        exact hS.imp fun h' hq => ⟨(false), rfl, hq⟩
                    · have hS := hF hb72; clear hT hF
                      refine Run.go rfl rfl rfl (sem_boolEqF b71 b60 (.inr rfl) true rfl rfl TF.bool_4 hb72 rfl ?_)
                      refine Run.go rfl rfl rfl (sem_pick false ((Value.bool true)) rfl rfl ?_)
                      refine Run.go rfl rfl rfl (sem_move ((Value.bool true)) rfl ?_)
                      refine Run.no rfl rfl rfl ?_
                      refine Run.no rfl rfl rfl ?_
                      refine Run.no rfl rfl rfl ?_
                      refine Run.no rfl rfl rfl ?_
                      refine Run.no rfl rfl rfl ?_
                      refine Run.go rfl rfl rfl (sem_pick true ((Value.bool true)) rfl rfl ?_)
                      refine Run.go rfl rfl rfl (sem_move ((Value.bool true)) rfl ?_)
                      refine Run.no rfl rfl rfl ?_
                      refine Run.no rfl rfl rfl ?_
                      refine Run.no rfl rfl rfl ?_
                      refine Run.no rfl rfl rfl ?_
                      refine Run.no rfl rfl rfl ?_
                      refine Run.no rfl rfl rfl ?_
                      refine Run.no rfl rfl rfl ?_
                      refine Run.no rfl rfl rfl ?_
                      refine Run.no rfl rfl rfl ?_
                      refine Run.go rfl rfl rfl (sem_pick true ((Value.bool true)) rfl rfl ?_)
                      refine Run.region_end ?_
                      refine Run.condT rfl ?_
                      refine Run.seq ?_
                      refine Run.ops0 (idx := [0]) rfl ?_
                      refine Run.go rfl rfl rfl (sem_assign ((Value.bool false)) rfl ?_)
                      refine Run.region_end ?_
                      refine Run.ret ⟨.inr rfl, ?_⟩
                      exact hS.imp fun h' hq => ⟨(false), rfl, hq⟩
                refine Run.seq ?_
                refine Run.ops0 (idx := [0, 1]) rfl ?_
                refine Run.go rfl rfl rfl (sem_fieldAddr ⟨k46, 0, none⟩ 0 rfl TF.fld_27_0 ?_)
                obtain ⟨i80, hl, hS⟩ := hS
                refine Run.go rfl rfl rfl (sem_load1 ⟨k46, 0, none⟩ ((Value.int .i64 (i80))) rfl TF.agg_3 hl ?_)
                refine Run.region_end ?_
                refine Run.block ?_
                refine Run.seq ?_
                refine Run.ops0 (idx := [0, 1]) rfl ?_
                obtain ⟨hT, hF⟩ := hS
                by_cases hb81 : (i80 : Int) = 0
                · have hS := hT hb81; clear hT hF
                  refine Run.go rfl rfl rfl (sem_binI .i64 (i80) (0) (.bool true) rfl rfl (binI_eql_t hb81) ?_)
                  refine Run.go rfl rfl rfl (sem_assign ((Value.bool true)) rfl ?_)
                  refine Run.region_end ?_
                  refine Run.condT rfl ?_
                  refine Run.ops0 (idx := [0, 1, 2, 3, 4, 5, 6, 7]) rfl ?_
                  refine Run.go rfl rfl rfl (sem_move ((Value.pointer p11)) rfl ?_)
                  refine Run.go rfl rfl rfl (sem_fieldAddr ⟨k46, 0, none⟩ 1 rfl TF.fld_27_1 ?_)
                  obtain ⟨i82, hl, hS⟩ := hS
                  refine Run.go rfl rfl rfl (sem_load1 ⟨k46, 1, none⟩ ((Value.int .i64 (i82))) rfl TF.agg_3 hl ?_)
                  refine Run.go rfl rfl rfl (sem_callL [(Value.pointer p11), (Value.int .i64 (i82))] (TF.goes_18) rfl rfl (Spec.mono hS fun v h83 hv => ?_))
                  obtain ⟨i84, rfl, hS⟩ := hv
                  refine Run.go rfl rfl rfl (sem_move ((Value.int .u64 (i65))) rfl ?_)
                  refine Run.go rfl rfl rfl (sem_convI .u64 .i64 (i65) rfl TF.int_28 TF.int_3 ?_)
                  obtain ⟨hT, hF⟩ := hS
                  by_cases hb85 : (i84 : Int) = IntKind.wrap .i64 (i65)
                  · have hS := hT hb85; clear hT hF
                    refine Run.go rfl rfl rfl (sem_binI .i64 (i84) (IntKind.wrap .i64 (i65)) (.bool true) rfl rfl (binI_eql_t hb85) ?_)
                    refine Run.go rfl rfl rfl (sem_assign ((Value.bool true)) rfl ?_)
                    refine Run.region_end ?_
                    refine Run.inBlock ?_
                    exact Run.of_fin (hS.imp fun h' hS => j67 _ _ ⟨(true), ⟨rfl, rfl, rfl, rfl, rfl, rfl, rfl, trivial⟩, hS⟩)
                  · have hS := hF hb85; clear hT hF
                    refine Run.go rfl rfl rfl (sem_binI .i64 (i84) (IntKind.wrap .i64 (i65)) (.bool false) rfl rfl (binI_eql_f hb85) ?_)
                    refine Run.go rfl rfl rfl (sem_assign ((Value.bool false)) rfl ?_)
                    refine Run.region_end ?_
                    refine Run.inBlock ?_
                    exact Run.of_fin (hS.imp fun h' hS => j67 _ _ ⟨(false), ⟨rfl, rfl, rfl, rfl, rfl, rfl, rfl, trivial⟩, hS⟩)
                · have hS := hF hb81; clear hT hF
                  refine Run.go rfl rfl rfl (sem_binI .i64 (i80) (0) (.bool false) rfl rfl (binI_eql_f hb81) ?_)
                  refine Run.go rfl rfl rfl (sem_assign ((Value.bool false)) rfl ?_)
                  refine Run.region_end ?_
                  refine Run.condF rfl ?_
                  refine Run.seq ?_
                  refine Run.ops0 (idx := [0, 1]) rfl ?_
                  obtain ⟨hT, hF⟩ := hS
                  by_cases hb86 : (i80 : Int) = 1
                  · have hS := hT hb86; clear hT hF
                    refine Run.go rfl rfl rfl (sem_binI .i64 (i80) (1) (.bool true) rfl rfl (binI_eql_t hb86) ?_)
                    refine Run.go rfl rfl rfl (sem_assign ((Value.bool true)) rfl ?_)
                    refine Run.region_end ?_
                    refine Run.condT rfl ?_
                    refine Run.ops0 (idx := [0, 1, 2, 3, 4, 5]) rfl ?_
                    refine Run.go rfl rfl rfl (sem_move ((Value.pointer p11)) rfl ?_)
                    refine Run.go rfl rfl rfl (sem_callL [(Value.pointer p11)] (TF.goes_19) rfl rfl (Spec.mono hS fun v h87 hv => ?_))
                    obtain ⟨i88, rfl, hS⟩ := hv
                    refine Run.go rfl rfl rfl (sem_move ((Value.int .u64 (i65))) rfl ?_)
                    refine Run.go rfl rfl rfl (sem_callL [(Value.int .u64 (i65))] (TF.goes_20) rfl rfl (Spec.mono hS fun v h89 hv => ?_))
                    obtain ⟨i90, rfl, hS⟩ := hv
                    obtain ⟨hT, hF⟩ := hS
                    by_cases hb91 : (i88 : Int) = i90
                    · have hS := hT hb91; clear hT hF
                      refine Run.go rfl rfl rfl (sem_binI .i64 (i88) (i90) (.bool true) rfl rfl (binI_eql_t hb91) ?_)
                      refine Run.go rfl rfl rfl (sem_assign ((Value.bool true)) rfl ?_)
                      refine Run.region_end ?_
                      refine Run.inBlock ?_
                      exact Run.of_fin (hS.imp fun h' hS => j67 _ _ ⟨(true), ⟨rfl, rfl, rfl, rfl, rfl, rfl, rfl, trivial⟩, hS⟩)
                    · have hS := hF hb91; clear hT hF
                      refine Run.go rfl rfl rfl (sem_binI .i64 (i88) (i90) (.bool false) rfl rfl (binI_eql_f hb91) ?_)
                      refine Run.go rfl rfl rfl (sem_assign ((Value.bool false)) rfl ?_)
                      refine Run.region_end ?_
                      refine Run.inBlock ?_
                      exact Run.of_fin (hS.imp fun h' hS => j67 _ _ ⟨(false), ⟨rfl, rfl, rfl, rfl, rfl, rfl, rfl, trivial⟩, hS⟩)
                  · have hS := hF hb86; clear hT hF
                    refine Run.go rfl rfl rfl (sem_binI .i64 (i80) (1) (.bool false) rfl rfl (binI_eql_f hb86) ?_)
                    refine Run.go rfl rfl rfl (sem_assign ((Value.bool false)) rfl ?_)
                    refine Run.region_end ?_
                    refine Run.condF rfl ?_
                    refine Run.seq ?_
                    refine Run.ops0 (idx := [0, 1]) rfl ?_
                    obtain ⟨hT, hF⟩ := hS
                    by_cases hb92 : (i80 : Int) = 2
                    · have hS := hT hb92; clear hT hF
                      refine Run.go rfl rfl rfl (sem_binI .i64 (i80) (2) (.bool true) rfl rfl (binI_eql_t hb92) ?_)
                      refine Run.go rfl rfl rfl (sem_assign ((Value.bool true)) rfl ?_)
                      refine Run.region_end ?_
                      refine Run.condT rfl ?_
                      refine Run.ops0 (idx := [0, 1, 2, 3, 4, 5, 6]) rfl ?_
                      refine Run.go rfl rfl rfl (sem_move ((Value.pointer p11)) rfl ?_)
                      refine Run.go rfl rfl rfl (sem_fieldAddr ⟨k46, 0, none⟩ 1 rfl TF.fld_27_1 ?_)
                      obtain ⟨i93, hl, hS⟩ := hS
                      refine Run.go rfl rfl rfl (sem_load1 ⟨k46, 1, none⟩ ((Value.int .i64 (i93))) rfl TF.agg_3 hl ?_)
                      refine Run.go rfl rfl rfl (sem_callL [(Value.pointer p11), (Value.int .i64 (i93))] (TF.goes_21) rfl rfl (Spec.mono hS fun v h94 hv => ?_))
                      obtain ⟨s95, rfl, hS⟩ := hv
                      refine Run.go rfl rfl rfl (sem_move ((Value.string s61)) rfl ?_)
                      obtain ⟨hT, hF⟩ := hS
                      by_cases hb96 : s95 = s61
                      · have hS := hT hb96; clear hT hF
                        refine Run.go rfl rfl rfl (sem_strEqT s95 s61 rfl rfl hb96 ?_)
                        refine Run.go rfl rfl rfl (sem_assign ((Value.bool true)) rfl ?_)
                        refine Run.region_end ?_
                        refine Run.inBlock ?_
                        exact Run.of_fin (hS.imp fun h' hS => j67 _ _ ⟨(true), ⟨rfl, rfl, rfl, rfl, rfl, rfl, rfl, trivial⟩, hS⟩)
                      · have hS := hF hb96; clear hT hF
                        refine Run.go rfl rfl rfl (sem_strEqF s95 s61 rfl rfl hb96 ?_)
                        refine Run.go rfl rfl rfl (sem_assign ((Value.bool false)) rfl ?_)
                        refine Run.region_end ?_
                        refine Run.inBlock ?_
                        exact Run.of_fin (hS.imp fun h' hS => j67 _ _ ⟨(false), ⟨rfl, rfl, rfl, rfl, rfl, rfl, rfl, trivial⟩, hS⟩)
                    · have hS := hF hb92; clear hT hF
                      refine Run.go rfl rfl rfl (sem_binI .i64 (i80) (2) (.bool false) rfl rfl (binI_eql_f hb92) ?_)
                      refine Run.go rfl rfl rfl (sem_assign ((Value.bool false)) rfl ?_)
                      refine Run.region_end ?_
                      refine Run.condF rfl ?_
                      refine Run.seq ?_
                      refine Run.ops0 (idx := [0, 1]) rfl ?_
                      obtain ⟨hT, hF⟩ := hS
                      by_cases hb97 : (i80 : Int) = 3
                      · have hS := hT hb97; clear hT hF
                        refine Run.go rfl rfl rfl (sem_binI .i64 (i80) (3) (.bool true) rfl rfl (binI_eql_t hb97) ?_)
                        refine Run.go rfl rfl rfl (sem_assign ((Value.bool true)) rfl ?_)
                        refine Run.region_end ?_
                        refine Run.condT rfl ?_
                        refine Run.ops0 (idx := [0, 1, 2, 3, 4, 5, 6]) rfl ?_
                        refine Run.go rfl rfl rfl (sem_move ((Value.pointer p11)) rfl ?_)
                        refine Run.go rfl rfl rfl (sem_fieldAddr ⟨k46, 0, none⟩ 1 rfl TF.fld_27_1 ?_)
                        obtain ⟨i98, hl, hS⟩ := hS
                        refine Run.go rfl rfl rfl (sem_load1 ⟨k46, 1, none⟩ ((Value.int .i64 (i98))) rfl TF.agg_3 hl ?_)
                        refine Run.go rfl rfl rfl (sem_callL [(Value.pointer p11), (Value.int .i64 (i98))] (TF.goes_22) rfl rfl (Spec.mono hS fun v h99 hv => ?_))
                        obtain ⟨s100, rfl, hS⟩ := hv
                        refine Run.go rfl rfl rfl (sem_move ((Value.string s61)) rfl ?_)
                        obtain ⟨hT, hF⟩ := hS
                        by_cases hb101 : s100 = s61
                        · have hS := hT hb101; clear hT hF
                          refine Run.go rfl rfl rfl (sem_strEqT s100 s61 rfl rfl hb101 ?_)
                          refine Run.go rfl rfl rfl (sem_assign ((Value.bool true)) rfl ?_)
                          refine Run.region_end ?_
                          refine Run.inBlock ?_
                          exact Run.of_fin (hS.imp fun h' hS => j67 _ _ ⟨(true), ⟨rfl, rfl, rfl, rfl, rfl, rfl, rfl, trivial⟩, hS⟩)
                        · have hS := hF hb101; clear hT hF
                          refine Run.go rfl rfl rfl (sem_strEqF s100 s61 rfl rfl hb101 ?_)
                          refine Run.go rfl rfl rfl (sem_assign ((Value.bool false)) rfl ?_)
                          refine Run.region_end ?_
                          refine Run.inBlock ?_
                          exact Run.of_fin (hS.imp fun h' hS => j67 _ _ ⟨(false), ⟨rfl, rfl, rfl, rfl, rfl, rfl, rfl, trivial⟩, hS⟩)
                      · have hS := hF hb97; clear hT hF
                        refine Run.go rfl rfl rfl (sem_binI .i64 (i80) (3) (.bool false) rfl rfl (binI_eql_f hb97) ?_)
                        refine Run.go rfl rfl rfl (sem_assign ((Value.bool false)) rfl ?_)
                        refine Run.region_end ?_
                        refine Run.condF rfl ?_
                        refine Run.seq ?_
                        refine Run.ops0 (idx := [0]) rfl ?_
                        refine Run.go rfl rfl rfl (sem_assign ((Value.bool true)) rfl ?_)
                        refine Run.region_end ?_
                        refine Run.ret ⟨.inr rfl, ?_⟩
                        exact hS.imp fun h' hq => ⟨(true), rfl, hq⟩
              refine Run.seq ?_
              refine Run.ops0 (idx := [0]) rfl ?_
              obtain ⟨hT, hF⟩ := hS
              cases b60
              · have hS := hF rfl; clear hT hF
                refine Run.go rfl rfl rfl (sem_move (.bool false) rfl ?_)
                refine Run.region_end ?_
                refine Run.condF rfl ?_
                refine Run.skip ?_
                exact Run.of_fin (hS.imp fun h' hS => j63 _ _ ⟨s59, (i52), ⟨rfl, rfl, rfl, rfl, rfl, rfl, rfl, rfl, rfl, trivial⟩, hS⟩)
              · have hS := hT rfl; clear hT hF
                refine Run.go rfl rfl rfl (sem_move (.bool true) rfl ?_)
                refine Run.region_end ?_
                refine Run.condT rfl ?_
                refine Run.seq ?_
                refine Run.ops0 (idx := [0]) rfl ?_
                refine Run.go rfl rfl rfl (sem_assign ((Value.string (ByteArray.mk #[]))) rfl ?_)
                refine Run.region_end ?_
                refine Run.ops0 (idx := [0]) rfl ?_
                refine Run.go rfl rfl rfl (sem_assign ((Value.int .u64 (0))) rfl ?_)
                refine Run.region_end ?_
                exact Run.of_fin (hS.imp fun h' hS => j63 _ _ ⟨(ByteArray.mk #[]), (0), ⟨rfl, rfl, rfl, rfl, rfl, rfl, rfl, rfl, rfl, trivial⟩, hS⟩)
            refine Run.seq ?_
            refine Run.ops0 (idx := [0, 1, 2]) rfl ?_
            refine Run.go rfl rfl rfl (sem_fieldAddr ⟨k46, 0, none⟩ 0 rfl TF.fld_27_0 ?_)
            obtain ⟨i102, hl, hS⟩ := hS
            refine Run.go rfl rfl rfl (sem_load1 ⟨k46, 0, none⟩ ((Value.int .i64 (i102))) rfl TF.agg_3 hl ?_)
            obtain ⟨hT, hF⟩ := hS
            by_cases hb103 : (i102 : Int) > (1)
            · have hS := hT hb103; clear hT hF
              refine Run.go rfl rfl rfl (sem_binI .i64 (i102) (1) (.bool true) rfl rfl (binI_gtr_t hb103) ?_)
              refine Run.region_end ?_
              refine Run.condT rfl ?_
              refine Run.seqJ (fun e h106 => ∃ b105 : Bool, Agree [(0, (Value.string s50)), (5, (Value.pointer p11)), (6, (Value.bool b105)), (8, (Value.pointer (some ⟨k46, 0, none⟩))), (9, (Value.int .u64 (i52))), (10, (Value.string (ByteArray.mk #[]))), (13, (Value.int .i64 (i56))), (28, (Value.slice a2 n3 c4)), (29, (Value.int .i64 ((n3 : Nat)))), (30, (Value.int .i64 (i35)))] e ∧ S_countermandlaw01_StylusReads_J8 B a2 n3 c4 p11 i35 m37 J40 k46 s50 i52 i56 b105 h106 Q) ?_ fun j104 => ?_
              · rintro e h106 ⟨b105, hag, hS⟩
                refine Run.env hag ?_; clear hag
                refine Run.seq ?_
                refine Run.ops0 (idx := [0, 1]) rfl ?_
                obtain ⟨hT, hF⟩ := hS
                cases b105
                · have hS := hF rfl; clear hT hF
                  refine Run.go rfl rfl rfl (sem_move (.bool false) rfl ?_)
                  refine Run.go rfl rfl rfl (sem_not false rfl ?_)
                  refine Run.region_end ?_
                  refine Run.condT rfl ?_
                  refine Run.seq ?_
                  refine Run.ops0 (idx := [0, 1, 2, 3]) rfl ?_
                  refine Run.go rfl rfl rfl (sem_move ((Value.string s50)) rfl ?_)
                  refine Run.go rfl rfl rfl (sem_move ((Value.int .i64 (i56))) rfl ?_)
                  obtain ⟨hi0, hi1, hi2, hS⟩ := hS
                  refine Run.go rfl rfl rfl (sem_sliceStrI s50 (0) (i56) rfl TF.isStr_9 rfl ⟨_, rfl⟩ hi0 hi1 hi2 ?_)
                  refine Run.go rfl rfl rfl (sem_assign ((Value.string (ByteArray.extract s50 (Int.toNat (0)) (Int.toNat (i56))))) rfl ?_)
                  refine Run.region_end ?_
                  refine Run.ops0 (idx := [0, 1, 2, 3]) rfl ?_
                  refine Run.go rfl rfl rfl (sem_move ((Value.string s50)) rfl ?_)
                  refine Run.go rfl rfl rfl (sem_move ((Value.int .i64 (i56))) rfl ?_)
                  obtain ⟨hi0, hi1, hi2, hS⟩ := hS
                  refine Run.go rfl rfl rfl (sem_sliceStrI s50 (i56) ((ByteArray.size s50 : Nat)) rfl TF.isStr_9 ⟨_, rfl⟩ rfl hi0 hi1 hi2 ?_)
                  refine Run.go rfl rfl rfl (sem_assign ((Value.string (ByteArray.extract s50 (Int.toNat (i56)) (Int.toNat ((ByteArray.size s50 : Nat)))))) rfl ?_)
                  refine Run.region_end ?_
                  exact Run.of_fin (hS.imp fun h' hS => j58 _ _ ⟨(ByteArray.extract s50 (Int.toNat (i56)) (Int.toNat ((ByteArray.size s50 : Nat)))), (false), (ByteArray.extract s50 (Int.toNat (0)) (Int.toNat (i56))), ⟨rfl, rfl, rfl, rfl, rfl, rfl, rfl, rfl, rfl, trivial⟩, hS⟩)
                · have hS := hT rfl; clear hT hF
                  refine Run.go rfl rfl rfl (sem_move (.bool true) rfl ?_)
                  refine Run.go rfl rfl rfl (sem_not true rfl ?_)
                  refine Run.region_end ?_
                  refine Run.condF rfl ?_
                  refine Run.skip ?_
                  exact Run.of_fin (hS.imp fun h' hS => j58 _ _ ⟨s50, (true), (ByteArray.mk #[]), ⟨rfl, rfl, rfl, rfl, rfl, rfl, rfl, rfl, rfl, trivial⟩, hS⟩)
              refine Run.ops0 (idx := [0, 1, 2, 3, 4, 5, 6, 7, 8, 9, 10, 11]) rfl ?_
              obtain ⟨hT, hF⟩ := hS
              cases b51
              · have hS := hF rfl; clear hT hF
                refine Run.go rfl rfl rfl (sem_move (.bool false) rfl ?_)
                refine Run.go rfl rfl rfl (sem_move ((Value.bool false)) rfl ?_)
                refine Run.go rfl rfl rfl (sem_move ((Value.int .i64 (i56))) rfl ?_)
                obtain ⟨hT, hF⟩ := hS
                by_cases hb107 : (i56 : Int) < (0)
                · have hS := hT hb107; clear hT hF
                  refine Run.go rfl rfl rfl (sem_binI .i64 (i56) (0) (.bool true) rfl rfl (binI_lss_t hb107) ?_)
                  refine Run.go rfl rfl rfl (sem_pick false ((Value.bool true)) rfl rfl ?_)
                  refine Run.go rfl rfl rfl (sem_move ((Value.bool true)) rfl ?_)
                  refine Run.no rfl rfl rfl ?_
                  refine Run.no rfl rfl rfl ?_
                  refine Run.no rfl rfl rfl ?_
                  refine Run.no rfl rfl rfl ?_
                  refine Run.go rfl rfl rfl (sem_pick true ((Value.bool true)) rfl rfl ?_)
                  refine Run.go rfl rfl rfl (sem_assign ((Value.bool true)) rfl ?_)
                  refine Run.region_end ?_
                  exact Run.of_fin (hS.imp fun h' hS => j104 _ _ ⟨(true), ⟨rfl, rfl, rfl, rfl, rfl, rfl, rfl, rfl, rfl, rfl, trivial⟩, hS⟩)
                · have hS := hF hb107; clear hT hF
                  refine Run.go rfl rfl rfl (sem_binI .i64 (i56) (0) (.bool false) rfl rfl (binI_lss_f hb107) ?_)
                  refine Run.go rfl rfl rfl (sem_pick false ((Value.bool false)) rfl rfl ?_)
                  refine Run.go rfl rfl rfl (sem_move ((Value.bool false)) rfl ?_)
                  refine Run.go rfl rfl rfl (sem_move ((Value.int .i64 (i56))) rfl ?_)
                  refine Run.go rfl rfl rfl (sem_move ((Value.string s50)) rfl ?_)
                  refine Run.go rfl rfl rfl (sem_lenStr s50 rfl TF.isStr_9 ?_)
                  obtain ⟨hT, hF⟩ := hS
                  by_cases hb108 : (i56 : Int) > ((ByteArray.size s50 : Nat))
                  · have hS := hT hb108; clear hT hF
                    refine Run.go rfl rfl rfl (sem_binI .i64 (i56) ((ByteArray.size s50 : Nat)) (.bool true) rfl rfl (binI_gtr_t hb108) ?_)
                    refine Run.go rfl rfl rfl (sem_pick false ((Value.bool true)) rfl rfl ?_)
                    refine Run.go rfl rfl rfl (sem_assign ((Value.bool true)) rfl ?_)
                    refine Run.region_end ?_
                    exact Run.of_fin (hS.imp fun h' hS => j104 _ _ ⟨(true), ⟨rfl, rfl, rfl, rfl, rfl, rfl, rfl, rfl, rfl, rfl, trivial⟩, hS⟩)
                  · have hS := hF hb108; clear hT hF
                    refine Run.go rfl rfl rfl (sem_binI .i64 (i56) ((ByteArray.size s50 : Nat)) (.bool false) rfl rfl (binI_gtr_f hb108) ?_)
                    refine Run.go rfl rfl rfl (sem_pick false ((Value.bool false)) rfl rfl ?_)
                    refine Run.go rfl rfl rfl (sem_assign ((Value.bool false)) rfl ?_)
                    refine Run.region_end ?_
                    exact Run.of_fin (hS.imp fun h' hS => j104 _ _ ⟨(false), ⟨rfl, rfl, rfl, rfl, rfl, rfl, rfl, rfl, rfl, rfl, trivial⟩, hS⟩)
              · have hS := hT rfl; clear hT hF
                refine Run.go rfl rfl rfl (sem_move (.bool true) rfl ?_)
                refine Run.go rfl rfl rfl (sem_move ((Value.bool true)) rfl ?_)
                refine Run.no rfl rfl rfl ?_
                refine Run.no rfl rfl rfl ?_
                refine Run.go rfl rfl rfl (sem_pick true ((Value.bool true)) rfl rfl ?_)
                refine Run.go rfl rfl rfl (sem_move ((Value.bool true)) rfl ?_)
                refine Run.no rfl rfl rfl ?_
                refine Run.no rfl rfl rfl ?_
                refine Run.no rfl rfl rfl ?_
                refine Run.no rfl rfl rfl ?_
                refine Run.go rfl rfl rfl (sem_pick true ((Value.bool true)) rfl rfl ?_)
                refine Run.go rfl rfl rfl (sem_assign ((Value.bool true)) rfl ?_)
                refine Run.region_end ?_
                exact Run.of_fin (hS.imp fun h' hS => j104 _ _ ⟨(true), ⟨rfl, rfl, rfl, rfl, rfl, rfl, rfl, rfl, rfl, rfl, trivial⟩, hS⟩)
            · have hS := hF hb103; clear hT hF
              refine Run.go rfl rfl rfl (sem_binI .i64 (i102) (1) (.bool false) rfl rfl (binI_gtr_f hb103) ?_)
              refine Run.region_end ?_
              refine Run.condF rfl ?_
              refine Run.skip ?_
              exact Run.of_fin (hS.imp fun h' hS => j58 _ _ ⟨s50, (b51), (ByteArray.mk #[]), ⟨rfl, rfl, rfl, rfl, rfl, rfl, rfl, rfl, rfl, trivial⟩, hS⟩)
          refine Run.seq ?_
          refine Run.ops0 (idx := [0, 1, 2]) rfl ?_
          refine Run.go rfl rfl rfl (sem_fieldAddr ⟨k46, 0, none⟩ 0 rfl TF.fld_27_0 ?_)
          obtain ⟨i109, hl, hS⟩ := hS
          refine Run.go rfl rfl rfl (sem_load1 ⟨k46, 0, none⟩ ((Value.int .i64 (i109))) rfl TF.agg_3 hl ?_)
          obtain ⟨hT, hF⟩ := hS
          by_cases hb110 : (i109 : Int) = 3
          · have hS := hT hb110; clear hT hF
            refine Run.go rfl rfl rfl (sem_binI .i64 (i109) (3) (.bool true) rfl rfl (binI_eql_t hb110) ?_)
            refine Run.region_end ?_
            refine Run.condT rfl ?_
            refine Run.ops0 (idx := [0, 1, 2]) rfl ?_
            refine Run.go rfl rfl rfl (sem_move ((Value.int .u64 (i52))) rfl ?_)
            refine Run.go rfl rfl rfl (sem_convI .u64 .i64 (i52) rfl TF.int_28 TF.int_3 ?_)
            refine Run.go rfl rfl rfl (sem_assign ((Value.int .i64 (IntKind.wrap .i64 (i52)))) rfl ?_)
            refine Run.region_end ?_
            exact Run.of_fin (hS.imp fun h' hS => j55 _ _ ⟨(IntKind.wrap .i64 (i52)), ⟨rfl, rfl, rfl, rfl, rfl, rfl, rfl, rfl, rfl, rfl, trivial⟩, hS⟩)
          · have hS := hF hb110; clear hT hF
            refine Run.go rfl rfl rfl (sem_binI .i64 (i109) (3) (.bool false) rfl rfl (binI_eql_f hb110) ?_)
            refine Run.region_end ?_
            refine Run.condF rfl ?_
            refine Run.skip ?_
            exact Run.of_fin (hS.imp fun h' hS => j55 _ _ ⟨(i54), ⟨rfl, rfl, rfl, rfl, rfl, rfl, rfl, rfl, rfl, rfl, trivial⟩, hS⟩)
        refine Run.seq ?_
        refine Run.ops0 (idx := [0, 1, 2]) rfl ?_
        refine Run.go rfl rfl rfl (sem_fieldAddr ⟨k46, 0, none⟩ 0 rfl TF.fld_27_0 ?_)
        obtain ⟨i111, hl, hS⟩ := hS
        refine Run.go rfl rfl rfl (sem_load1 ⟨k46, 0, none⟩ ((Value.int .i64 (i111))) rfl TF.agg_3 hl ?_)
        obtain ⟨hT, hF⟩ := hS
        by_cases hb112 : (i111 : Int) = 2
        · have hS := hT hb112; clear hT hF
          refine Run.go rfl rfl rfl (sem_binI .i64 (i111) (2) (.bool false) rfl rfl (binI_neq_t hb112) ?_)
          refine Run.region_end ?_
          refine Run.condF rfl ?_
          refine Run.skip ?_
          exact Run.of_fin (hS.imp fun h' hS => j49 _ _ ⟨s33, (b34), (0), ⟨rfl, rfl, rfl, rfl, rfl, rfl, rfl, rfl, rfl, trivial⟩, hS⟩)
        · have hS := hF hb112; clear hT hF
          refine Run.go rfl rfl rfl (sem_binI .i64 (i111) (2) (.bool true) rfl rfl (binI_neq_f hb112) ?_)
          refine Run.region_end ?_
          refine Run.condT rfl ?_
          refine Run.seq ?_
          refine Run.ops0 (idx := [0, 1, 2, 3, 4, 5, 6]) rfl ?_
          refine Run.go rfl rfl rfl (sem_move ((Value.string s33)) rfl ?_)
          refine Run.go rfl rfl rfl (sem_callL [(Value.string s33)] (TF.goes_17) rfl rfl (Spec.mono hS fun v h113 hv => ?_))
          obtain ⟨i114, i115, rfl, hS⟩ := hv
          refine Run.go rfl rfl rfl (sem_move ((Value.tuple #[(Value.int .u64 (i114)), (Value.int .i64 (i115))])) rfl ?_)
          refine Run.go rfl rfl rfl (sem_extract #[(Value.int .u64 (i114)), (Value.int .i64 (i115))] ((Value.int .u64 (i114))) rfl rfl ?_)
          refine Run.go rfl rfl rfl (sem_extract #[(Value.int .u64 (i114)), (Value.int .i64 (i115))] ((Value.int .i64 (i115))) rfl rfl ?_)
          refine Run.go rfl rfl rfl (sem_assign ((Value.int .u64 (i114))) rfl ?_)
          refine Run.go rfl rfl rfl (sem_assign ((Value.int .i64 (i115))) rfl ?_)
          refine Run.region_end ?_
          refine Run.seqJ (fun e h118 => ∃ b117 : Bool, Agree [(0, (Value.string s33)), (5, (Value.pointer p11)), (6, (Value.bool b117)), (8, (Value.pointer (some ⟨k46, 0, none⟩))), (9, (Value.int .u64 (0))), (10, (Value.string (ByteArray.mk #[]))), (11, (Value.int .u64 (i114))), (12, (Value.int .i64 (i115))), (28, (Value.slice a2 n3 c4)), (29, (Value.int .i64 ((n3 : Nat)))), (30, (Value.int .i64 (i35)))] e ∧ S_countermandlaw01_StylusReads_J9 B a2 n3 c4 p11 s33 i35 m37 J40 k46 i114 i115 b117 h118 Q) ?_ fun j116 => ?_
          · rintro e h118 ⟨b117, hag, hS⟩
            refine Run.env hag ?_; clear hag
            refine Run.seq ?_
            refine Run.ops0 (idx := [0, 1]) rfl ?_
            obtain ⟨hT, hF⟩ := hS
            cases b117
            · have hS := hF rfl; clear hT hF
              refine Run.go rfl rfl rfl (sem_move (.bool false) rfl ?_)
              refine Run.go rfl rfl rfl (sem_not false rfl ?_)
              refine Run.region_end ?_
              refine Run.condT rfl ?_
              refine Run.seq ?_
              refine Run.ops0 (idx := [0, 1]) rfl ?_
              refine Run.go rfl rfl rfl (sem_move ((Value.int .u64 (i114))) rfl ?_)
              refine Run.go rfl rfl rfl (sem_assign ((Value.int .u64 (i114))) rfl ?_)
              refine Run.region_end ?_
              refine Run.ops0 (idx := [0, 1, 2, 3]) rfl ?_
              refine Run.go rfl rfl rfl (sem_move ((Value.string s33)) rfl ?_)
              refine Run.go rfl rfl rfl (sem_move ((Value.int .i64 (i115))) rfl ?_)
              obtain ⟨hi0, hi1, hi2, hS⟩ := hS
              refine Run.go rfl rfl rfl (sem_sliceStrI s33 (i115) ((ByteArray.size s33 : Nat)) rfl TF.isStr_9 ⟨_, rfl⟩ rfl hi0 hi1 hi2 ?_)
              refine Run.go rfl rfl rfl (sem_assign ((Value.string (ByteArray.extract s33 (Int.toNat (i115)) (Int.toNat ((ByteArray.size s33 : Nat)))))) rfl ?_)
              refine Run.region_end ?_
              exact Run.of_fin (hS.imp fun h' hS => j49 _ _ ⟨(ByteArray.extract s33 (Int.toNat (i115)) (Int.toNat ((ByteArray.size s33 : Nat)))), (false), (i114), ⟨rfl, rfl, rfl, rfl, rfl, rfl, rfl, rfl, rfl, trivial⟩, hS⟩)
            · have hS := hT rfl; clear hT hF
              refine Run.go rfl rfl rfl (sem_move (.bool true) rfl ?_)
              refine Run.go rfl rfl rfl (sem_not true rfl ?_)
              refine Run.region_end ?_
              refine Run.condF rfl ?_
              refine Run.skip ?_
              exact Run.of_fin (hS.imp fun h' hS => j49 _ _ ⟨s33, (true), (0), ⟨rfl, rfl, rfl, rfl, rfl, rfl, rfl, rfl, rfl, trivial⟩, hS⟩)
          refine Run.ops0 (idx := [0, 1, 2, 3, 4, 5, 6, 7, 8, 9, 10, 11, 12, 13, 14, 15, 16, 17, 18, 19, 20, 21, 22]) rfl ?_
          obtain ⟨hT, hF⟩ := hS
          cases b34
          · have hS := hF rfl; clear hT hF
            refine Run.go rfl rfl rfl (sem_move (.bool false) rfl ?_)
            refine Run.go rfl rfl rfl (sem_move ((Value.bool false)) rfl ?_)
            refine Run.go rfl rfl rfl (sem_move ((Value.int .i64 (i115))) rfl ?_)
            obtain ⟨hT, hF⟩ := hS
            by_cases hb119 : (i115 : Int) = 0
            · have hS := hT hb119; clear hT hF
              refine Run.go rfl rfl rfl (sem_binI .i64 (i115) (0) (.bool true) rfl rfl (binI_eql_t hb119) ?_)
              refine Run.go rfl rfl rfl (sem_pick false ((Value.bool true)) rfl rfl ?_)
              refine Run.go rfl rfl rfl (sem_move ((Value.bool true)) rfl ?_)
              refine Run.no rfl rfl rfl ?_
              refine Run.no rfl rfl rfl ?_
              refine Run.no rfl rfl rfl ?_
              refine Run.no rfl rfl rfl ?_
              refine Run.no rfl rfl rfl ?_
              refine Run.no rfl rfl rfl ?_
              refine Run.no rfl rfl rfl ?_
              refine Run.no rfl rfl rfl ?_
              refine Run.no rfl rfl rfl ?_
              refine Run.no rfl rfl rfl ?_
              refine Run.no rfl rfl rfl ?_
              refine Run.no rfl rfl rfl ?_
              refine Run.no rfl rfl rfl ?_
              refine Run.no rfl rfl rfl ?_
              refine Run.no rfl rfl rfl ?_
              refine Run.go rfl rfl rfl (sem_pick true ((Value.bool true)) rfl rfl ?_)
              refine Run.go rfl rfl rfl (sem_assign ((Value.bool true)) rfl ?_)
              refine Run.region_end ?_
              exact Run.of_fin (hS.imp fun h' hS => j116 _ _ ⟨(true), ⟨rfl, rfl, rfl, rfl, rfl, rfl, rfl, rfl, rfl, rfl, rfl, trivial⟩, hS⟩)
            · have hS := hF hb119; clear hT hF
              refine Run.go rfl rfl rfl (sem_binI .i64 (i115) (0) (.bool false) rfl rfl (binI_eql_f hb119) ?_)
              refine Run.go rfl rfl rfl (sem_pick false ((Value.bool false)) rfl rfl ?_)
              refine Run.go rfl rfl rfl (sem_move ((Value.bool false)) rfl ?_)
              refine Run.go rfl rfl rfl (sem_fieldAddr ⟨k46, 0, none⟩ 0 rfl TF.fld_27_0 ?_)
              obtain ⟨i120, hl, hS⟩ := hS
              refine Run.go rfl rfl rfl (sem_load1 ⟨k46, 0, none⟩ ((Value.int .i64 (i120))) rfl TF.agg_3 hl ?_)
              obtain ⟨hT, hF⟩ := hS
              by_cases hb121 : (i120 : Int) = 1
              · have hS := hT hb121; clear hT hF
                refine Run.go rfl rfl rfl (sem_binI .i64 (i120) (1) (.bool false) rfl rfl (binI_neq_t hb121) ?_)
                refine Run.go rfl rfl rfl (sem_move ((Value.bool false)) rfl ?_)
                refine Run.no rfl rfl rfl ?_
                refine Run.no rfl rfl rfl ?_
                refine Run.no rfl rfl rfl ?_
                refine Run.no rfl rfl rfl ?_
                refine Run.no rfl rfl rfl ?_
                refine Run.no rfl rfl rfl ?_
                refine Run.no rfl rfl rfl ?_
                refine Run.no rfl rfl rfl ?_
                refine Run.no rfl rfl rfl ?_
                refine Run.no rfl rfl rfl ?_
                refine Run.go rfl rfl rfl (sem_pick false ((Value.bool false)) rfl rfl ?_)
                refine Run.go rfl rfl rfl (sem_pick false ((Value.bool false)) rfl rfl ?_)
                refine Run.go rfl rfl rfl (sem_assign ((Value.bool false)) rfl ?_)
                refine Run.region_end ?_
                exact Run.of_fin (hS.imp fun h' hS => j116 _ _ ⟨(false), ⟨rfl, rfl, rfl, rfl, rfl, rfl, rfl, rfl, rfl, rfl, rfl, trivial⟩, hS⟩)
              · have hS := hF hb121; clear hT hF
                refine Run.go rfl rfl rfl (sem_binI .i64 (i120) (1) (.bool true) rfl rfl (binI_neq_f hb121) ?_)
                refine Run.go rfl rfl rfl (sem_move ((Value.bool true)) rfl ?_)
                refine Run.go rfl rfl rfl (sem_fieldAddr ⟨k46, 0, none⟩ 1 rfl TF.fld_27_1 ?_)
                obtain ⟨i122, hl, hS⟩ := hS
                refine Run.go rfl rfl rfl (sem_load1 ⟨k46, 1, none⟩ ((Value.int .i64 (i122))) rfl TF.agg_3 hl ?_)
                obtain ⟨hT, hF⟩ := hS
                by_cases hb123 : (i122 : Int) < (0)
                · have hS := hT hb123; clear hT hF
                  refine Run.go rfl rfl rfl (sem_binI .i64 (i122) (0) (.bool true) rfl rfl (binI_lss_t hb123) ?_)
                  refine Run.go rfl rfl rfl (sem_move ((Value.bool true)) rfl ?_)
                  refine Run.no rfl rfl rfl ?_
                  refine Run.no rfl rfl rfl ?_
                  refine Run.no rfl rfl rfl ?_
                  refine Run.no rfl rfl rfl ?_
                  refine Run.no rfl rfl rfl ?_
                  refine Run.go rfl rfl rfl (sem_pick true ((Value.bool true)) rfl rfl ?_)
                  refine Run.go rfl rfl rfl (sem_pick true ((Value.bool true)) rfl rfl ?_)
                  refine Run.go rfl rfl rfl (sem_pick false ((Value.bool true)) rfl rfl ?_)
                  refine Run.go rfl rfl rfl (sem_assign ((Value.bool true)) rfl ?_)
                  refine Run.region_end ?_
                  exact Run.of_fin (hS.imp fun h' hS => j116 _ _ ⟨(true), ⟨rfl, rfl, rfl, rfl, rfl, rfl, rfl, rfl, rfl, rfl, rfl, trivial⟩, hS⟩)
                · have hS := hF hb123; clear hT hF
                  refine Run.go rfl rfl rfl (sem_binI .i64 (i122) (0) (.bool false) rfl rfl (binI_lss_f hb123) ?_)
                  refine Run.go rfl rfl rfl (sem_move ((Value.bool false)) rfl ?_)
                  refine Run.go rfl rfl rfl (sem_move ((Value.int .u64 (i114))) rfl ?_)
                  refine Run.go rfl rfl rfl (sem_fieldAddr ⟨k46, 0, none⟩ 1 rfl TF.fld_27_1 ?_)
                  obtain ⟨i124, hl, hS⟩ := hS
                  refine Run.go rfl rfl rfl (sem_load1 ⟨k46, 1, none⟩ ((Value.int .i64 (i124))) rfl TF.agg_3 hl ?_)
                  refine Run.go rfl rfl rfl (sem_convI .i64 .u64 (i124) rfl TF.int_3 TF.int_28 ?_)
                  obtain ⟨hT, hF⟩ := hS
                  by_cases hb125 : (i114 : Int) > (IntKind.wrap .u64 (i124))
                  · have hS := hT hb125; clear hT hF
                    refine Run.go rfl rfl rfl (sem_binI .u64 (i114) (IntKind.wrap .u64 (i124)) (.bool true) rfl rfl (binI_gtr_t hb125) ?_)
                    refine Run.go rfl rfl rfl (sem_pick false ((Value.bool true)) rfl rfl ?_)
                    refine Run.go rfl rfl rfl (sem_pick true ((Value.bool true)) rfl rfl ?_)
                    refine Run.go rfl rfl rfl (sem_pick false ((Value.bool true)) rfl rfl ?_)
                    refine Run.go rfl rfl rfl (sem_assign ((Value.bool true)) rfl ?_)
                    refine Run.region_end ?_
                    exact Run.of_fin (hS.imp fun h' hS => j116 _ _ ⟨(true), ⟨rfl, rfl, rfl, rfl, rfl, rfl, rfl, rfl, rfl, rfl, rfl, trivial⟩, hS⟩)
                  · have hS := hF hb125; clear hT hF
                    refine Run.go rfl rfl rfl (sem_binI .u64 (i114) (IntKind.wrap .u64 (i124)) (.bool false) rfl rfl (binI_gtr_f hb125) ?_)
                    refine Run.go rfl rfl rfl (sem_pick false ((Value.bool false)) rfl rfl ?_)
                    refine Run.go rfl rfl rfl (sem_pick true ((Value.bool false)) rfl rfl ?_)
                    refine Run.go rfl rfl rfl (sem_pick false ((Value.bool false)) rfl rfl ?_)
                    refine Run.go rfl rfl rfl (sem_assign ((Value.bool false)) rfl ?_)
                    refine Run.region_end ?_
                    exact Run.of_fin (hS.imp fun h' hS => j116 _ _ ⟨(false), ⟨rfl, rfl, rfl, rfl, rfl, rfl, rfl, rfl, rfl, rfl, rfl, trivial⟩, hS⟩)
          · have hS := hT rfl; clear hT hF
            refine Run.go rfl rfl rfl (sem_move (.bool true) rfl ?_)
            refine Run.go rfl rfl rfl (sem_move ((Value.bool true)) rfl ?_)
            refine Run.no rfl rfl rfl ?_
            refine Run.no rfl rfl rfl ?_
            refine Run.go rfl rfl rfl (sem_pick true ((Value.bool true)) rfl rfl ?_)
            refine Run.go rfl rfl rfl (sem_move ((Value.bool true)) rfl ?_)
            refine Run.no rfl rfl rfl ?_
            refine Run.no rfl rfl rfl ?_
            refine Run.no rfl rfl rfl ?_
            refine Run.no rfl rfl rfl ?_
            refine Run.no rfl rfl rfl ?_
            refine Run.no rfl rfl rfl ?_
            refine Run.no rfl rfl rfl ?_
            refine Run.no rfl rfl rfl ?_
            refine Run.no rfl rfl rfl ?_
            refine Run.no rfl rfl rfl ?_
            refine Run.no rfl rfl rfl ?_
            refine Run.no rfl rfl rfl ?_
            refine Run.no rfl rfl rfl ?_
            refine Run.no rfl rfl rfl ?_
            refine Run.no rfl rfl rfl ?_
            refine Run.go rfl rfl rfl (sem_pick true ((Value.bool true)) rfl rfl ?_)
            refine Run.go rfl rfl rfl (sem_assign ((Value.bool true)) rfl ?_)
            refine Run.region_end ?_
            exact Run.of_fin (hS.imp fun h' hS => j116 _ _ ⟨(true), ⟨rfl, rfl, rfl, rfl, rfl, rfl, rfl, rfl, rfl, rfl, rfl, trivial⟩, hS⟩)
      · have hS := hF hb41; clear hT hF
        refine Run.go rfl rfl rfl (sem_binI .i64 (i35) ((n3 : Nat)) (.bool false) rfl rfl (binI_lss_f hb41) ?_)
        refine Run.region_end ?_
        refine Run.seq ?_
        refine Run.condF rfl ?_
        refine Run.exit rfl ?_
        exact Run.of_fin (hS.imp fun h' hS => j12 _ _ ⟨trivial, hS⟩)
    refine Run.seq ?_
    refine Run.ops0 (idx := [0, 1, 2, 3, 4, 5, 6, 7]) rfl ?_
    refine Run.go rfl rfl rfl (sem_move ((Value.slice a2 n3 c4)) rfl ?_)
    refine Run.go rfl rfl rfl (sem_lenSl a2 n3 c4 rfl TF.sl_22 ?_)
    obtain ⟨hT, hF⟩ := hS
    by_cases hb126 : ((n3 : Nat) : Int) > (50)
    · have hS := hT hb126; clear hT hF
      refine Run.go rfl rfl rfl (sem_binI .i64 ((n3 : Nat)) (50) (.bool true) rfl rfl (binI_gtr_t hb126) ?_)
      refine Run.go rfl rfl rfl (sem_move ((Value.bool true)) rfl ?_)
      refine Run.no rfl rfl rfl ?_
      refine Run.no rfl rfl rfl ?_
      refine Run.no rfl rfl rfl ?_
      refine Run.go rfl rfl rfl (sem_pick true ((Value.bool true)) rfl rfl ?_)
      refine Run.region_end ?_
      refine Run.condT rfl ?_
      refine Run.seq ?_
      refine Run.ops0 (idx := [0]) rfl ?_
      refine Run.go rfl rfl rfl (sem_assign ((Value.bool true)) rfl ?_)
      refine Run.region_end ?_
      refine Run.ret ⟨.inr rfl, ?_⟩
      exact hS.imp fun h' hq => ⟨(true), rfl, hq⟩
    · have hS := hF hb126; clear hT hF
      refine Run.go rfl rfl rfl (sem_binI .i64 ((n3 : Nat)) (50) (.bool false) rfl rfl (binI_gtr_f hb126) ?_)
      refine Run.go rfl rfl rfl (sem_move ((Value.bool false)) rfl ?_)
      refine Run.go rfl rfl rfl (sem_move ((Value.string s1)) rfl ?_)
      refine Run.go rfl rfl rfl (sem_lenStr s1 rfl TF.isStr_9 ?_)
      obtain ⟨hT, hF⟩ := hS
      by_cases hb127 : ((ByteArray.size s1 : Nat) : Int) > (2048)
      · have hS := hT hb127; clear hT hF
        refine Run.go rfl rfl rfl (sem_binI .i64 ((ByteArray.size s1 : Nat)) (2048) (.bool true) rfl rfl (binI_gtr_t hb127) ?_)
        refine Run.go rfl rfl rfl (sem_pick false ((Value.bool true)) rfl rfl ?_)
        refine Run.region_end ?_
        refine Run.condT rfl ?_
        refine Run.seq ?_
        refine Run.ops0 (idx := [0]) rfl ?_
        refine Run.go rfl rfl rfl (sem_assign ((Value.bool true)) rfl ?_)
        refine Run.region_end ?_
        refine Run.ret ⟨.inr rfl, ?_⟩
        exact hS.imp fun h' hq => ⟨(true), rfl, hq⟩
      · have hS := hF hb127; clear hT hF
        refine Run.go rfl rfl rfl (sem_binI .i64 ((ByteArray.size s1 : Nat)) (2048) (.bool false) rfl rfl (binI_gtr_f hb127) ?_)
        refine Run.go rfl rfl rfl (sem_pick false ((Value.bool false)) rfl rfl ?_)
        refine Run.region_end ?_
        refine Run.condF rfl ?_
        refine Run.skip ?_
        exact Run.of_fin (hS.imp fun h' hS => j8 _ _ ⟨⟨rfl, rfl, trivial⟩, hS⟩)
set_option maxHeartbeats 4000000 in
theorem C_countermandlaw01_StylusTexts.of {B : RO} {a1 : Option Addr} {n2 : Nat} {c3 : Nat} {i4 : Int} {h : Heap} {Q : Bool → Heap → Prop} (hS : S_countermandlaw01_StylusTexts B a1 n2 c3 i4 h Q) : C_countermandlaw01_StylusTexts B a1 n2 c3 i4 h Q := by
  unfold S_countermandlaw01_StylusTexts at hS
  unfold C_countermandlaw01_StylusTexts
  refine Spec.of_run Try.func4 (N := 89) (rs := [ResultVar.tmp 4]) rfl rfl rfl (Nat.le_of_ble_eq_true rfl) ?_
  refine Run.seq ?_
  refine Run.ops0 (idx := [0]) rfl ?_
  refine Run.go rfl rfl rfl (sem_assign ((Value.bool false)) rfl ?_)
  refine Run.region_end ?_
  refine Run.seq ?_
  refine Run.seq ?_
  refine Run.ops0 (idx := [0, 1]) rfl ?_
  refine Run.go rfl rfl rfl (sem_callL [] (TF.goes_15) rfl rfl (Spec.mono hS fun v h6 hv => ?_))
  obtain ⟨b7, rfl, hS⟩ := hv
  obtain ⟨hT, hF⟩ := hS
  cases b7
  · have hS := hF rfl; clear hT hF
    refine Run.go rfl rfl rfl (sem_not false rfl ?_)
    refine Run.region_end ?_
    refine Run.condT rfl ?_
    refine Run.seq ?_
    refine Run.ops0 (idx := [0]) rfl ?_
    refine Run.go rfl rfl rfl (sem_assign ((Value.bool false)) rfl ?_)
    refine Run.region_end ?_
    refine Run.ret ⟨.inr rfl, ?_⟩
    exact hS.imp fun h' hq => ⟨(false), rfl, hq⟩
  · have hS := hT rfl; clear hT hF
    refine Run.go rfl rfl rfl (sem_not true rfl ?_)
    refine Run.region_end ?_
    refine Run.condF rfl ?_
    refine Run.skip ?_
    refine Run.seq ?_
    refine Run.seq ?_
    refine Run.ops0 (idx := [0, 1, 2]) rfl ?_
    refine Run.go rfl rfl rfl (sem_move ((Value.slice a1 n2 c3)) rfl ?_)
    refine Run.go rfl rfl rfl (sem_lenSl a1 n2 c3 rfl TF.sl_36 ?_)
    obtain ⟨hT, hF⟩ := hS
    by_cases hb8 : ((n2 : Nat) : Int) > (20)
    · have hS := hT hb8; clear hT hF
      refine Run.go rfl rfl rfl (sem_binI .i64 ((n2 : Nat)) (20) (.bool true) rfl rfl (binI_gtr_t hb8) ?_)
      refine Run.region_end ?_
      refine Run.condT rfl ?_
      refine Run.seq ?_
      refine Run.ops0 (idx := [0]) rfl ?_
      refine Run.go rfl rfl rfl (sem_assign ((Value.bool true)) rfl ?_)
      refine Run.region_end ?_
      refine Run.ret ⟨.inr rfl, ?_⟩
      exact hS.imp fun h' hq => ⟨(true), rfl, hq⟩
    · have hS := hF hb8; clear hT hF
      refine Run.go rfl rfl rfl (sem_binI .i64 ((n2 : Nat)) (20) (.bool false) rfl rfl (binI_gtr_f hb8) ?_)
      refine Run.region_end ?_
      refine Run.condF rfl ?_
      refine Run.skip ?_
      refine Run.seq ?_
      refine Run.ops0 (idx := [0, 1, 2]) rfl ?_
      refine Run.go rfl rfl rfl (sem_buildSL [] [(Value.slice none 0 0)] TF.zero_40 TF.places_40 rfl rfl ?_)
      refine Run.go rfl rfl rfl (sem_boxNN [(Value.slice none 0 0)] rfl (fun k9 hb1 hb2 h10 hb3 => ?_))
      have hS := hS k9 hb1 hb2 h10 hb3
      refine Run.go rfl rfl rfl (sem_assign ((Value.pointer (some ⟨k9, 0, none⟩))) rfl ?_)
      refine Run.region_end ?_
      refine Run.seq ?_
      refine Run.ops0 (idx := [0]) rfl ?_
      refine Run.go rfl rfl rfl (sem_assign ((Value.int .i64 (0))) rfl ?_)
      refine Run.region_end ?_
      refine Run.seqJ (fun e h12 => Agree [(0, (Value.slice a1 n2 c3)), (1, (Value.int .i64 (i4))), (5, (Value.pointer (some ⟨k9, 0, none⟩)))] e ∧ S_countermandlaw01_StylusTexts_J1 B a1 n2 c3 i4 k9 h12 Q) ?_ fun j11 => ?_
      · rintro e h12 ⟨hag, hS⟩
        refine Run.env hag ?_; clear hag
        refine Run.seq ?_
        refine Run.ops0 (idx := [0, 1, 2]) rfl ?_
        refine Run.go rfl rfl rfl (sem_move ((Value.pointer (some ⟨k9, 0, none⟩))) rfl ?_)
        refine Run.go rfl rfl rfl (sem_move ((Value.slice a1 n2 c3)) rfl ?_)
        refine Run.go rfl rfl rfl (sem_callL [(Value.pointer (some ⟨k9, 0, none⟩)), (Value.slice a1 n2 c3)] (TF.goes_27) rfl rfl (Spec.mono hS fun v h13 hv => ?_))
        obtain ⟨rfl, hS⟩ := hv
        refine Run.region_end ?_
        refine Run.seq ?_
        refine Run.ops0 (idx := [0, 1, 2]) rfl ?_
        refine Run.go rfl rfl rfl (sem_move ((Value.pointer (some ⟨k9, 0, none⟩))) rfl ?_)
        refine Run.go rfl rfl rfl (sem_callL [(Value.pointer (some ⟨k9, 0, none⟩))] (TF.goes_28) rfl rfl (Spec.mono hS fun v h14 hv => ?_))
        obtain ⟨s15, rfl, hS⟩ := hv
        refine Run.go rfl rfl rfl (sem_assign ((Value.string s15)) rfl ?_)
        refine Run.region_end ?_
        refine Run.seq ?_
        refine Run.ops0 (idx := [0, 1, 2]) rfl ?_
        refine Run.go rfl rfl rfl (sem_move ((Value.string s15)) rfl ?_)
        refine Run.go rfl rfl rfl (sem_callL [(Value.string s15)] (TF.goes_16) rfl rfl (Spec.mono hS fun v h16 hv => ?_))
        obtain ⟨p17, rfl, hS⟩ := hv
        refine Run.go rfl rfl rfl (sem_assign ((Value.pointer p17)) rfl ?_)
        refine Run.region_end ?_
        refine Run.seqJ (fun e h19 => Agree [(0, (Value.slice a1 n2 c3)), (1, (Value.int .i64 (i4))), (9, (Value.string s15)), (10, (Value.pointer p17))] e ∧ S_countermandlaw01_StylusTexts_J2 B a1 n2 c3 i4 s15 p17 h19 Q) ?_ fun j18 => ?_
        · rintro e h19 ⟨hag, hS⟩
          refine Run.env hag ?_; clear hag
          refine Run.seqJ (fun e h21 => Agree [(0, (Value.slice a1 n2 c3)), (1, (Value.int .i64 (i4))), (9, (Value.string s15))] e ∧ S_countermandlaw01_StylusTexts_J3 B a1 n2 c3 i4 s15 h21 Q) ?_ fun j20 => ?_
          · rintro e h21 ⟨hag, hS⟩
            refine Run.env hag ?_; clear hag
            refine Run.seq ?_
            refine Run.ops0 (idx := [0, 1, 2, 3, 4, 5, 6, 7, 8, 9, 10]) rfl ?_
            refine Run.go rfl rfl rfl (sem_move ((Value.string s15)) rfl ?_)
            refine Run.go rfl rfl rfl (sem_move ((Value.int .i64 (i4))) rfl ?_)
            refine Run.go rfl rfl rfl (sem_convI .i64 .u64 (i4) rfl TF.int_3 TF.int_43 ?_)
            refine Run.go rfl rfl rfl (sem_move ((Value.string s15)) rfl ?_)
            refine Run.go rfl rfl rfl (sem_lenStr s15 rfl TF.isStr_9 ?_)
            refine Run.go rfl rfl rfl (sem_convI .i64 .u64 ((ByteArray.size s15 : Nat)) rfl TF.int_3 TF.int_43 ?_)
            obtain ⟨hi0, hS⟩ := hS
            refine Run.go rfl rfl rfl (sem_binI .u64 (IntKind.wrap .u64 (i4)) (IntKind.wrap .u64 ((ByteArray.size s15 : Nat))) ((Value.int .u64 (Int.tmod (IntKind.wrap .u64 (i4)) (IntKind.wrap .u64 ((ByteArray.size s15 : Nat)))))) rfl rfl (binI_rem hi0) ?_)
            refine Run.go rfl rfl rfl (sem_convI .u64 .i64 (Int.tmod (IntKind.wrap .u64 (i4)) (IntKind.wrap .u64 ((ByteArray.size s15 : Nat)))) rfl TF.int_43 TF.int_3 ?_)
            obtain ⟨hi0, hi1, hi2, hS⟩ := hS
            refine Run.go rfl rfl rfl (sem_sliceStrI s15 (0) (IntKind.wrap .i64 (Int.tmod (IntKind.wrap .u64 (i4)) (IntKind.wrap .u64 ((ByteArray.size s15 : Nat))))) rfl TF.isStr_9 rfl ⟨_, rfl⟩ hi0 hi1 hi2 ?_)
            refine Run.go rfl rfl rfl (sem_callL [(Value.string (ByteArray.extract s15 (Int.toNat (0)) (Int.toNat (IntKind.wrap .i64 (Int.tmod (IntKind.wrap .u64 (i4)) (IntKind.wrap .u64 ((ByteArray.size s15 : Nat))))))))] (TF.goes_16) rfl rfl (Spec.mono hS fun v h22 hv => ?_))
            obtain ⟨p23, rfl, hS⟩ := hv
            refine Run.go rfl rfl rfl (sem_assign ((Value.pointer p23)) rfl ?_)
            refine Run.region_end ?_
            refine Run.seqJ (fun e h25 => Agree [(13, (Value.pointer p23))] e ∧ S_countermandlaw01_StylusTexts_J4 B p23 h25 Q) ?_ fun j24 => ?_
            · rintro e h25 ⟨hag, hS⟩
              refine Run.env hag ?_; clear hag
              refine Run.seq ?_
              refine Run.ops0 (idx := [0, 1, 2, 3, 4, 5, 6, 7]) rfl ?_
              refine Run.go rfl rfl rfl (sem_move ((Value.pointer p23)) rfl ?_)
              refine Run.go rfl rfl rfl (sem_callL [(Value.pointer p23)] (TF.goes_23) rfl rfl (Spec.mono hS fun v h26 hv => ?_))
              obtain ⟨b27, rfl, hS⟩ := hv
              obtain ⟨hT, hF⟩ := hS
              cases b27
              · have hS := hF rfl; clear hT hF
                refine Run.go rfl rfl rfl (sem_move ((Value.bool false)) rfl ?_)
                refine Run.no rfl rfl rfl ?_
                refine Run.no rfl rfl rfl ?_
                refine Run.no rfl rfl rfl ?_
                refine Run.go rfl rfl rfl (sem_pick false ((Value.bool false)) rfl rfl ?_)
                refine Run.go rfl rfl rfl (sem_assign ((Value.bool false)) rfl ?_)
                refine Run.region_end ?_
                refine Run.ret ⟨.inr rfl, ?_⟩
                exact hS.imp fun h' hq => ⟨(false), rfl, hq⟩
              · have hS := hT rfl; clear hT hF
                refine Run.go rfl rfl rfl (sem_move ((Value.bool true)) rfl ?_)
                refine Run.go rfl rfl rfl (sem_move ((Value.pointer p23)) rfl ?_)
                refine Run.go rfl rfl rfl (sem_callL [(Value.pointer p23)] (TF.goes_24) rfl rfl (Spec.mono hS fun v h28 hv => ?_))
                obtain ⟨i29, rfl, hS⟩ := hv
                refine Run.go rfl rfl rfl (sem_binI .i64 (i29) (0) ((Value.bool ((i29 : Int) == (0)))) rfl rfl rfl ?_)
                refine Run.go rfl rfl rfl (sem_pick true ((Value.bool ((i29 : Int) == (0)))) rfl rfl ?_)
                refine Run.go rfl rfl rfl (sem_assign ((Value.bool ((i29 : Int) == (0)))) rfl ?_)
                refine Run.region_end ?_
                refine Run.ret ⟨.inr rfl, ?_⟩
                exact hS.imp fun h' hq => ⟨(((i29 : Int) == (0))), rfl, hq⟩
            refine Run.seq ?_
            refine Run.ops0 (idx := [0, 1, 2]) rfl ?_
            refine Run.go rfl rfl rfl (sem_move ((Value.slice a1 n2 c3)) rfl ?_)
            refine Run.go rfl rfl rfl (sem_lenSl a1 n2 c3 rfl TF.sl_36 ?_)
            refine Run.go rfl rfl rfl (sem_move ((Value.int .i64 (0))) rfl ?_)
            refine Run.region_end ?_
            refine Run.block ?_
            obtain ⟨J35, m33, h0, hS⟩ := hS
            refine Run.of_fin (h0.imp fun h' h0 => ?_)
            refine Run.loop (σ := Int × Nat) (fun x e h => J35 x.1 x.2 h ∧ Agree [(13, (Value.pointer p23)), (76, (Value.int .i64 ((n2 : Nat)))), (77, (Value.int .i64 (x.1)))] e) (fun x => x.2) ((0), m33) ⟨h0, ⟨rfl, rfl, rfl, trivial⟩⟩ ?_; clear h0
            rintro ⟨i30, m32⟩ e h31 ⟨hJ, hag⟩ ih34
            have hS := hS i30 m32 h31 hJ; clear hJ
            refine Run.env hag ?_; clear hag
            refine Run.seq ?_
            refine Run.ops0 (idx := [0]) rfl ?_
            obtain ⟨hT, hF⟩ := hS
            by_cases hb36 : (i30 : Int) < ((n2 : Nat))
            · have hS := hT hb36; clear hT hF
              refine Run.go rfl rfl rfl (sem_binI .i64 (i30) ((n2 : Nat)) (.bool true) rfl rfl (binI_lss_t hb36) ?_)
              refine Run.region_end ?_
              refine Run.seq ?_
              refine Run.condT rfl ?_
              refine Run.skip ?_
              refine Run.seq ?_
              refine Run.block ?_
              refine Run.ops0 (idx := [0, 1]) rfl ?_
              refine Run.go rfl rfl rfl (sem_move ((Value.pointer p23)) rfl ?_)
              refine Run.go rfl rfl rfl (sem_callL [(Value.pointer p23), (Value.int .i64 (2048))] (TF.goes_22) rfl rfl (Spec.mono hS fun v h37 hv => ?_))
              obtain ⟨s38, rfl, hS⟩ := hv
              refine Run.region_end ?_
              refine Run.inBlock ?_
              refine Run.ops0 (idx := [0, 1]) rfl ?_
              refine Run.go rfl rfl rfl (sem_binI .i64 (i30) (1) ((Value.int .i64 (IntKind.wrap .i64 ((i30) + (1))))) rfl rfl rfl ?_)
              refine Run.go rfl rfl rfl (sem_move ((Value.int .i64 (IntKind.wrap .i64 ((i30) + (1))))) rfl ?_)
              refine Run.region_end ?_
              exact Run.of_fin (hS.imp fun h' ⟨m', hm, hS⟩ => ih34 ((IntKind.wrap .i64 ((i30) + (1))), m') _ _ ⟨hS, ⟨rfl, rfl, rfl, trivial⟩⟩ hm)
            · have hS := hF hb36; clear hT hF
              refine Run.go rfl rfl rfl (sem_binI .i64 (i30) ((n2 : Nat)) (.bool false) rfl rfl (binI_lss_f hb36) ?_)
              refine Run.region_end ?_
              refine Run.seq ?_
              refine Run.condF rfl ?_
              refine Run.exit rfl ?_
              exact Run.of_fin (hS.imp fun h' hS => j24 _ _ ⟨⟨rfl, trivial⟩, hS⟩)
          refine Run.seq ?_
          refine Run.ops0 (idx := [0, 1, 2, 3, 4, 5, 6, 7]) rfl ?_
          refine Run.go rfl rfl rfl (sem_move ((Value.pointer p17)) rfl ?_)
          refine Run.go rfl rfl rfl (sem_callL [(Value.pointer p17)] (TF.goes_25) rfl rfl (Spec.mono hS fun v h39 hv => ?_))
          obtain ⟨b40, rfl, hS⟩ := hv
          obtain ⟨hT, hF⟩ := hS
          cases b40
          · have hS := hF rfl; clear hT hF
            refine Run.go rfl rfl rfl (sem_not false rfl ?_)
            refine Run.go rfl rfl rfl (sem_move ((Value.bool true)) rfl ?_)
            refine Run.no rfl rfl rfl ?_
            refine Run.no rfl rfl rfl ?_
            refine Run.no rfl rfl rfl ?_
            refine Run.go rfl rfl rfl (sem_pick true ((Value.bool true)) rfl rfl ?_)
            refine Run.region_end ?_
            refine Run.condT rfl ?_
            refine Run.seq ?_
            refine Run.ops0 (idx := [0, 1, 2]) rfl ?_
            refine Run.go rfl rfl rfl (sem_move ((Value.pointer p17)) rfl ?_)
            refine Run.go rfl rfl rfl (sem_callL [(Value.pointer p17)] (TF.goes_25) rfl rfl (Spec.mono hS fun v h41 hv => ?_))
            obtain ⟨b42, rfl, hS⟩ := hv
            refine Run.go rfl rfl rfl (sem_assign ((Value.bool b42)) rfl ?_)
            refine Run.region_end ?_
            refine Run.ret ⟨.inr rfl, ?_⟩
            exact hS.imp fun h' hq => ⟨(b42), rfl, hq⟩
          · have hS := hT rfl; clear hT hF
            refine Run.go rfl rfl rfl (sem_not true rfl ?_)
            refine Run.go rfl rfl rfl (sem_move ((Value.bool false)) rfl ?_)
            refine Run.go rfl rfl rfl (sem_move ((Value.string s15)) rfl ?_)
            refine Run.go rfl rfl rfl (sem_lenStr s15 rfl TF.isStr_9 ?_)
            obtain ⟨hT, hF⟩ := hS
            by_cases hb43 : ((ByteArray.size s15 : Nat) : Int) = 0
            · have hS := hT hb43; clear hT hF
              refine Run.go rfl rfl rfl (sem_binI .i64 ((ByteArray.size s15 : Nat)) (0) (.bool true) rfl rfl (binI_eql_t hb43) ?_)
              refine Run.go rfl rfl rfl (sem_pick false ((Value.bool true)) rfl rfl ?_)
              refine Run.region_end ?_
              refine Run.condT rfl ?_
              refine Run.seq ?_
              refine Run.ops0 (idx := [0, 1, 2]) rfl ?_
              refine Run.go rfl rfl rfl (sem_move ((Value.pointer p17)) rfl ?_)
              refine Run.go rfl rfl rfl (sem_callL [(Value.pointer p17)] (TF.goes_25) rfl rfl (Spec.mono hS fun v h44 hv => ?_))
              obtain ⟨b45, rfl, hS⟩ := hv
              refine Run.go rfl rfl rfl (sem_assign ((Value.bool b45)) rfl ?_)
              refine Run.region_end ?_
              refine Run.ret ⟨.inr rfl, ?_⟩
              exact hS.imp fun h' hq => ⟨(b45), rfl, hq⟩
            · have hS := hF hb43; clear hT hF
              refine Run.go rfl rfl rfl (sem_binI .i64 ((ByteArray.size s15 : Nat)) (0) (.bool false) rfl rfl (binI_eql_f hb43) ?_)
              refine Run.go rfl rfl rfl (sem_pick false ((Value.bool false)) rfl rfl ?_)
              refine Run.region_end ?_
              refine Run.condF rfl ?_
              refine Run.skip ?_
              exact Run.of_fin (hS.imp fun h' hS => j20 _ _ ⟨⟨rfl, rfl, rfl, trivial⟩, hS⟩)
        refine Run.seq ?_
        refine Run.ops0 (idx := [0, 1, 2]) rfl ?_
        refine Run.go rfl rfl rfl (sem_move ((Value.slice a1 n2 c3)) rfl ?_)
        refine Run.go rfl rfl rfl (sem_lenSl a1 n2 c3 rfl TF.sl_36 ?_)
        refine Run.go rfl rfl rfl (sem_move ((Value.int .i64 (0))) rfl ?_)
        refine Run.region_end ?_
        refine Run.block ?_
        obtain ⟨J51, m49, h0, hS⟩ := hS
        refine Run.of_fin (h0.imp fun h' h0 => ?_)
        refine Run.loop (σ := Int × Nat) (fun x e h => J51 x.1 x.2 h ∧ Agree [(0, (Value.slice a1 n2 c3)), (1, (Value.int .i64 (i4))), (9, (Value.string s15)), (10, (Value.pointer p17)), (44, (Value.slice a1 n2 c3)), (45, (Value.int .i64 ((n2 : Nat)))), (46, (Value.int .i64 (x.1)))] e) (fun x => x.2) ((0), m49) ⟨h0, ⟨rfl, rfl, rfl, rfl, rfl, rfl, rfl, trivial⟩⟩ ?_; clear h0
        rintro ⟨i46, m48⟩ e h47 ⟨hJ, hag⟩ ih50
        have hS := hS i46 m48 h47 hJ; clear hJ
        refine Run.env hag ?_; clear hag
        refine Run.seq ?_
        refine Run.ops0 (idx := [0]) rfl ?_
        obtain ⟨hT, hF⟩ := hS
        by_cases hb52 : (i46 : Int) < ((n2 : Nat))
        · have hS := hT hb52; clear hT hF
          refine Run.go rfl rfl rfl (sem_binI .i64 (i46) ((n2 : Nat)) (.bool true) rfl rfl (binI_lss_t hb52) ?_)
          refine Run.region_end ?_
          refine Run.seq ?_
          refine Run.condT rfl ?_
          refine Run.skip ?_
          refine Run.seq ?_
          refine Run.block ?_
          refine Run.seq ?_
          refine Run.ops0 (idx := [0, 1, 2]) rfl ?_
          obtain ⟨A53, e54, hi0, hi1, hS⟩ := hS
          refine Run.go rfl rfl rfl (sem_indexAddrS A53 n2 c3 .i64 (i46) (congrArg (fun a => Value.slice a n2 c3) e54) rfl TF.slc_36 hi0 hi1 ?_)
          obtain ⟨s55, hl, hS⟩ := hS
          refine Run.go rfl rfl rfl (sem_load1 (Addr.add A53 (Int.toNat (i46) * 1)) ((Value.string s55)) rfl TF.agg_9 hl ?_)
          refine Run.go rfl rfl rfl (sem_assign ((Value.string s55)) rfl ?_)
          refine Run.region_end ?_
          refine Run.seq ?_
          refine Run.ops0 (idx := [0, 1, 2, 3]) rfl ?_
          refine Run.go rfl rfl rfl (sem_move ((Value.pointer p17)) rfl ?_)
          refine Run.go rfl rfl rfl (sem_callL [(Value.pointer p17), (Value.int .i64 (2048))] (TF.goes_22) rfl rfl (Spec.mono hS fun v h56 hv => ?_))
          obtain ⟨s57, rfl, hS⟩ := hv
          refine Run.go rfl rfl rfl (sem_move ((Value.string s55)) rfl ?_)
          obtain ⟨hT, hF⟩ := hS
          by_cases hb58 : s57 = s55
          · have hS := hT hb58; clear hT hF
            refine Run.go rfl rfl rfl (sem_strNeT s57 s55 rfl rfl hb58 ?_)
            refine Run.region_end ?_
            refine Run.condF rfl ?_
            refine Run.skip ?_
            refine Run.inBlock ?_
            refine Run.ops0 (idx := [0, 1]) rfl ?_
            refine Run.go rfl rfl rfl (sem_binI .i64 (i46) (1) ((Value.int .i64 (IntKind.wrap .i64 ((i46) + (1))))) rfl rfl rfl ?_)
            refine Run.go rfl rfl rfl (sem_move ((Value.int .i64 (IntKind.wrap .i64 ((i46) + (1))))) rfl ?_)
            refine Run.region_end ?_
            exact Run.of_fin (hS.imp fun h' ⟨m', hm, hS⟩ => ih50 ((IntKind.wrap .i64 ((i46) + (1))), m') _ _ ⟨hS, ⟨rfl, rfl, rfl, rfl, rfl, rfl, rfl, trivial⟩⟩ hm)
          · have hS := hF hb58; clear hT hF
            refine Run.go rfl rfl rfl (sem_strNeF s57 s55 rfl rfl hb58 ?_)
            refine Run.region_end ?_
            refine Run.condT rfl ?_
            refine Run.seq ?_
            refine Run.ops0 (idx := [0]) rfl ?_
            refine Run.go rfl rfl rfl (sem_assign ((Value.bool false)) rfl ?_)
            refine Run.region_end ?_
            refine Run.ret ⟨.inr rfl, ?_⟩
            exact hS.imp fun h' hq => ⟨(false), rfl, hq⟩
        · have hS := hF hb52; clear hT hF
          refine Run.go rfl rfl rfl (sem_binI .i64 (i46) ((n2 : Nat)) (.bool false) rfl rfl (binI_lss_f hb52) ?_)
          refine Run.region_end ?_
          refine Run.seq ?_
          refine Run.condF rfl ?_
          refine Run.exit rfl ?_
          exact Run.of_fin (hS.imp fun h' hS => j18 _ _ ⟨⟨rfl, rfl, rfl, rfl, trivial⟩, hS⟩)
      refine Run.seq ?_
      refine Run.ops0 (idx := [0, 1, 2]) rfl ?_
      refine Run.go rfl rfl rfl (sem_move ((Value.slice a1 n2 c3)) rfl ?_)
      refine Run.go rfl rfl rfl (sem_lenSl a1 n2 c3 rfl TF.sl_36 ?_)
      refine Run.go rfl rfl rfl (sem_move ((Value.int .i64 (0))) rfl ?_)
      refine Run.region_end ?_
      refine Run.block ?_
      obtain ⟨J65, m63, h0, hS⟩ := hS
      refine Run.of_fin (h0.imp fun h' h0 => ?_)
      refine Run.loop (σ := Int × Int × Nat) (fun x e h => J65 x.1 x.2.1 x.2.2 h ∧ Agree [(0, (Value.slice a1 n2 c3)), (1, (Value.int .i64 (i4))), (5, (Value.pointer (some ⟨k9, 0, none⟩))), (6, (Value.int .i64 (x.1))), (21, (Value.slice a1 n2 c3)), (22, (Value.int .i64 ((n2 : Nat)))), (23, (Value.int .i64 (x.2.1)))] e) (fun x => x.2.2) ((0), (0), m63) ⟨h0, ⟨rfl, rfl, rfl, rfl, rfl, rfl, rfl, trivial⟩⟩ ?_; clear h0
      rintro ⟨i59, i60, m62⟩ e h61 ⟨hJ, hag⟩ ih64
      have hS := hS i59 i60 m62 h61 hJ; clear hJ
      refine Run.env hag ?_; clear hag
      refine Run.seq ?_
      refine Run.ops0 (idx := [0]) rfl ?_
      obtain ⟨hT, hF⟩ := hS
      by_cases hb66 : (i60 : Int) < ((n2 : Nat))
      · have hS := hT hb66; clear hT hF
        refine Run.go rfl rfl rfl (sem_binI .i64 (i60) ((n2 : Nat)) (.bool true) rfl rfl (binI_lss_t hb66) ?_)
        refine Run.region_end ?_
        refine Run.seq ?_
        refine Run.condT rfl ?_
        refine Run.skip ?_
        refine Run.seq ?_
        refine Run.block ?_
        refine Run.seq ?_
        refine Run.ops0 (idx := [0, 1, 2]) rfl ?_
        obtain ⟨A67, e68, hi0, hi1, hS⟩ := hS
        refine Run.go rfl rfl rfl (sem_indexAddrS A67 n2 c3 .i64 (i60) (congrArg (fun a => Value.slice a n2 c3) e68) rfl TF.slc_36 hi0 hi1 ?_)
        obtain ⟨s69, hl, hS⟩ := hS
        refine Run.go rfl rfl rfl (sem_load1 (Addr.add A67 (Int.toNat (i60) * 1)) ((Value.string s69)) rfl TF.agg_9 hl ?_)
        refine Run.go rfl rfl rfl (sem_assign ((Value.string s69)) rfl ?_)
        refine Run.region_end ?_
        refine Run.seq ?_
        refine Run.seq ?_
        refine Run.ops0 (idx := [0, 1, 2]) rfl ?_
        refine Run.go rfl rfl rfl (sem_move ((Value.string s69)) rfl ?_)
        refine Run.go rfl rfl rfl (sem_lenStr s69 rfl TF.isStr_9 ?_)
        obtain ⟨hT, hF⟩ := hS
        by_cases hb70 : ((ByteArray.size s69 : Nat) : Int) > (2048)
        · have hS := hT hb70; clear hT hF
          refine Run.go rfl rfl rfl (sem_binI .i64 ((ByteArray.size s69 : Nat)) (2048) (.bool true) rfl rfl (binI_gtr_t hb70) ?_)
          refine Run.region_end ?_
          refine Run.condT rfl ?_
          refine Run.seq ?_
          refine Run.ops0 (idx := [0]) rfl ?_
          refine Run.go rfl rfl rfl (sem_assign ((Value.bool true)) rfl ?_)
          refine Run.region_end ?_
          refine Run.ret ⟨.inr rfl, ?_⟩
          exact hS.imp fun h' hq => ⟨(true), rfl, hq⟩
        · have hS := hF hb70; clear hT hF
          refine Run.go rfl rfl rfl (sem_binI .i64 ((ByteArray.size s69 : Nat)) (2048) (.bool false) rfl rfl (binI_gtr_f hb70) ?_)
          refine Run.region_end ?_
          refine Run.condF rfl ?_
          refine Run.skip ?_
          refine Run.seq ?_
          refine Run.ops0 (idx := [0, 1, 2, 3, 4]) rfl ?_
          refine Run.go rfl rfl rfl (sem_move ((Value.int .i64 (i59))) rfl ?_)
          refine Run.go rfl rfl rfl (sem_move ((Value.string s69)) rfl ?_)
          refine Run.go rfl rfl rfl (sem_lenStr s69 rfl TF.isStr_9 ?_)
          refine Run.go rfl rfl rfl (sem_binI .i64 (i59) ((ByteArray.size s69 : Nat)) ((Value.int .i64 (IntKind.wrap .i64 ((i59) + ((ByteArray.size s69 : Nat)))))) rfl rfl rfl ?_)
          refine Run.go rfl rfl rfl (sem_assign ((Value.int .i64 (IntKind.wrap .i64 ((i59) + ((ByteArray.size s69 : Nat)))))) rfl ?_)
          refine Run.region_end ?_
          refine Run.seq ?_
          refine Run.ops0 (idx := [0, 1]) rfl ?_
          refine Run.go rfl rfl rfl (sem_move ((Value.int .i64 (IntKind.wrap .i64 ((i59) + ((ByteArray.size s69 : Nat)))))) rfl ?_)
          obtain ⟨hT, hF⟩ := hS
          by_cases hb71 : (IntKind.wrap .i64 ((i59) + ((ByteArray.size s69 : Nat))) : Int) > (2048)
          · have hS := hT hb71; clear hT hF
            refine Run.go rfl rfl rfl (sem_binI .i64 (IntKind.wrap .i64 ((i59) + ((ByteArray.size s69 : Nat)))) (2048) (.bool true) rfl rfl (binI_gtr_t hb71) ?_)
            refine Run.region_end ?_
            refine Run.condT rfl ?_
            refine Run.seq ?_
            refine Run.ops0 (idx := [0]) rfl ?_
            refine Run.go rfl rfl rfl (sem_assign ((Value.bool true)) rfl ?_)
            refine Run.region_end ?_
            refine Run.ret ⟨.inr rfl, ?_⟩
            exact hS.imp fun h' hq => ⟨(true), rfl, hq⟩
          · have hS := hF hb71; clear hT hF
            refine Run.go rfl rfl rfl (sem_binI .i64 (IntKind.wrap .i64 ((i59) + ((ByteArray.size s69 : Nat)))) (2048) (.bool false) rfl rfl (binI_gtr_f hb71) ?_)
            refine Run.region_end ?_
            refine Run.condF rfl ?_
            refine Run.skip ?_
            refine Run.inBlock ?_
            refine Run.ops0 (idx := [0, 1]) rfl ?_
            refine Run.go rfl rfl rfl (sem_binI .i64 (i60) (1) ((Value.int .i64 (IntKind.wrap .i64 ((i60) + (1))))) rfl rfl rfl ?_)
            refine Run.go rfl rfl rfl (sem_move ((Value.int .i64 (IntKind.wrap .i64 ((i60) + (1))))) rfl ?_)
            refine Run.region_end ?_
            exact Run.of_fin (hS.imp fun h' ⟨m', hm, hS⟩ => ih64 ((IntKind.wrap .i64 ((i59) + ((ByteArray.size s69 : Nat)))), (IntKind.wrap .i64 ((i60) + (1))), m') _ _ ⟨hS, ⟨rfl, rfl, rfl, rfl, rfl, rfl, rfl, trivial⟩⟩ hm)
      · have hS := hF hb66; clear hT hF
        refine Run.go rfl rfl rfl (sem_binI .i64 (i60) ((n2 : Nat)) (.bool false) rfl rfl (binI_lss_f hb66) ?_)
        refine Run.region_end ?_
        refine Run.seq ?_
        refine Run.condF rfl ?_
        refine Run.exit rfl ?_
        exact Run.of_fin (hS.imp fun h' hS => j11 _ _ ⟨⟨rfl, rfl, rfl, trivial⟩, hS⟩)
set_option maxHeartbeats 4000000 in
theorem C_countermandlaw01_StylusReturns.of {B : RO} {a1 : Option Addr} {n2 : Nat} {c3 : Nat} {h : Heap} {Q : Bool → Heap → Prop} (hS : S_countermandlaw01_StylusReturns B a1 n2 c3 h Q) : C_countermandlaw01_StylusReturns B a1 n2 c3 h Q := by
  unfold S_countermandlaw01_StylusReturns at hS
  unfold C_countermandlaw01_StylusReturns
  refine Spec.of_run Try.func5 (N := 84) (rs := [ResultVar.tmp 2]) rfl rfl rfl (Nat.le_of_ble_eq_true rfl) ?_
  refine Run.seq ?_
  refine Run.ops0 (idx := [0]) rfl ?_
  refine Run.go rfl rfl rfl (sem_assign ((Value.bool false)) rfl ?_)
  refine Run.region_end ?_
  refine Run.seq ?_
  refine Run.seq ?_
  refine Run.ops0 (idx := [0, 1]) rfl ?_
  refine Run.go rfl rfl rfl (sem_callL [] (TF.goes_15) rfl rfl (Spec.mono hS fun v h5 hv => ?_))
  obtain ⟨b6, rfl, hS⟩ := hv
  obtain ⟨hT, hF⟩ := hS
  cases b6
  · have hS := hF rfl; clear hT hF
    refine Run.go rfl rfl rfl (sem_not false rfl ?_)
    refine Run.region_end ?_
    refine Run.condT rfl ?_
    refine Run.seq ?_
    refine Run.ops0 (idx := [0]) rfl ?_
    refine Run.go rfl rfl rfl (sem_assign ((Value.bool false)) rfl ?_)
    refine Run.region_end ?_
    refine Run.ret ⟨.inr rfl, ?_⟩
    exact hS.imp fun h' hq => ⟨(false), rfl, hq⟩
  · have hS := hT rfl; clear hT hF
    refine Run.go rfl rfl rfl (sem_not true rfl ?_)
    refine Run.region_end ?_
    refine Run.condF rfl ?_
    refine Run.skip ?_
    refine Run.seq ?_
    refine Run.seq ?_
    refine Run.ops0 (idx := [0, 1]) rfl ?_
    refine Run.go rfl rfl rfl (sem_move ((Value.slice a1 n2 c3)) rfl ?_)
    refine Run.go rfl rfl rfl (sem_callL [(Value.slice a1 n2 c3)] (TF.goes_29) rfl rfl (Spec.mono hS fun v h7 hv => ?_))
    obtain ⟨b8, rfl, hS⟩ := hv
    obtain ⟨hT, hF⟩ := hS
    cases b8
    · have hS := hF rfl; clear hT hF
      refine Run.region_end ?_
      refine Run.condF rfl ?_
      refine Run.skip ?_
      refine Run.seq ?_
      refine Run.ops0 (idx := [0, 1, 2, 3, 4, 5, 6]) rfl ?_
      refine Run.go rfl rfl rfl (sem_move ((Value.slice a1 n2 c3)) rfl ?_)
      refine Run.go rfl rfl rfl (sem_callL [(Value.slice a1 n2 c3)] (TF.goes_30) rfl rfl (Spec.mono hS fun v h9 hv => ?_))
      obtain ⟨s10, s11, rfl, hS⟩ := hv
      refine Run.go rfl rfl rfl (sem_move ((Value.tuple #[(Value.string s10), (Value.string s11)])) rfl ?_)
      refine Run.go rfl rfl rfl (sem_extract #[(Value.string s10), (Value.string s11)] ((Value.string s10)) rfl rfl ?_)
      refine Run.go rfl rfl rfl (sem_extract #[(Value.string s10), (Value.string s11)] ((Value.string s11)) rfl rfl ?_)
      refine Run.go rfl rfl rfl (sem_assign ((Value.string s10)) rfl ?_)
      refine Run.go rfl rfl rfl (sem_assign ((Value.string s11)) rfl ?_)
      refine Run.region_end ?_
      refine Run.seq ?_
      refine Run.ops0 (idx := [0, 1, 2]) rfl ?_
      refine Run.go rfl rfl rfl (sem_move ((Value.string s10)) rfl ?_)
      refine Run.go rfl rfl rfl (sem_callL [(Value.string s10)] (TF.goes_16) rfl rfl (Spec.mono hS fun v h12 hv => ?_))
      obtain ⟨p13, rfl, hS⟩ := hv
      refine Run.go rfl rfl rfl (sem_assign ((Value.pointer p13)) rfl ?_)
      refine Run.region_end ?_
      refine Run.seqJ (fun e h15 => Agree [(5, (Value.pointer p13))] e ∧ S_countermandlaw01_StylusReturns_J1 B p13 h15 Q) ?_ fun j14 => ?_
      · rintro e h15 ⟨hag, hS⟩
        refine Run.env hag ?_; clear hag
        refine Run.seq ?_
        refine Run.ops0 (idx := [0, 1, 2, 3, 4, 5, 6, 7, 8, 9, 10, 11, 12]) rfl ?_
        refine Run.go rfl rfl rfl (sem_move ((Value.pointer p13)) rfl ?_)
        refine Run.go rfl rfl rfl (sem_callL [(Value.pointer p13)] (TF.goes_25) rfl rfl (Spec.mono hS fun v h16 hv => ?_))
        obtain ⟨b17, rfl, hS⟩ := hv
        obtain ⟨hT, hF⟩ := hS
        cases b17
        · have hS := hF rfl; clear hT hF
          refine Run.go rfl rfl rfl (sem_move ((Value.bool false)) rfl ?_)
          refine Run.no rfl rfl rfl ?_
          refine Run.no rfl rfl rfl ?_
          refine Run.no rfl rfl rfl ?_
          refine Run.go rfl rfl rfl (sem_pick false ((Value.bool false)) rfl rfl ?_)
          refine Run.go rfl rfl rfl (sem_move ((Value.bool false)) rfl ?_)
          refine Run.no rfl rfl rfl ?_
          refine Run.no rfl rfl rfl ?_
          refine Run.no rfl rfl rfl ?_
          refine Run.go rfl rfl rfl (sem_pick false ((Value.bool false)) rfl rfl ?_)
          refine Run.go rfl rfl rfl (sem_assign ((Value.bool false)) rfl ?_)
          refine Run.region_end ?_
          refine Run.ret ⟨.inr rfl, ?_⟩
          exact hS.imp fun h' hq => ⟨(false), rfl, hq⟩
        · have hS := hT rfl; clear hT hF
          refine Run.go rfl rfl rfl (sem_move ((Value.bool true)) rfl ?_)
          refine Run.go rfl rfl rfl (sem_move ((Value.pointer p13)) rfl ?_)
          refine Run.go rfl rfl rfl (sem_callL [(Value.pointer p13)] (TF.goes_23) rfl rfl (Spec.mono hS fun v h18 hv => ?_))
          obtain ⟨b19, rfl, hS⟩ := hv
          obtain ⟨hT, hF⟩ := hS
          cases b19
          · have hS := hF rfl; clear hT hF
            refine Run.go rfl rfl rfl (sem_not false rfl ?_)
            refine Run.go rfl rfl rfl (sem_pick true ((Value.bool true)) rfl rfl ?_)
            refine Run.go rfl rfl rfl (sem_move ((Value.bool true)) rfl ?_)
            refine Run.go rfl rfl rfl (sem_move ((Value.pointer p13)) rfl ?_)
            refine Run.go rfl rfl rfl (sem_callL [(Value.pointer p13)] (TF.goes_24) rfl rfl (Spec.mono hS fun v h20 hv => ?_))
            obtain ⟨i21, rfl, hS⟩ := hv
            refine Run.go rfl rfl rfl (sem_binI .i64 (i21) (0) ((Value.bool ((i21 : Int) == (0)))) rfl rfl rfl ?_)
            refine Run.go rfl rfl rfl (sem_pick true ((Value.bool ((i21 : Int) == (0)))) rfl rfl ?_)
            refine Run.go rfl rfl rfl (sem_assign ((Value.bool ((i21 : Int) == (0)))) rfl ?_)
            refine Run.region_end ?_
            refine Run.ret ⟨.inr rfl, ?_⟩
            exact hS.imp fun h' hq => ⟨(((i21 : Int) == (0))), rfl, hq⟩
          · have hS := hT rfl; clear hT hF
            refine Run.go rfl rfl rfl (sem_not true rfl ?_)
            refine Run.go rfl rfl rfl (sem_pick true ((Value.bool false)) rfl rfl ?_)
            refine Run.go rfl rfl rfl (sem_move ((Value.bool false)) rfl ?_)
            refine Run.no rfl rfl rfl ?_
            refine Run.no rfl rfl rfl ?_
            refine Run.no rfl rfl rfl ?_
            refine Run.go rfl rfl rfl (sem_pick false ((Value.bool false)) rfl rfl ?_)
            refine Run.go rfl rfl rfl (sem_assign ((Value.bool false)) rfl ?_)
            refine Run.region_end ?_
            refine Run.ret ⟨.inr rfl, ?_⟩
            exact hS.imp fun h' hq => ⟨(false), rfl, hq⟩
      refine Run.seq ?_
      refine Run.ops0 (idx := [0, 1, 2]) rfl ?_
      refine Run.go rfl rfl rfl (sem_move ((Value.slice a1 n2 c3)) rfl ?_)
      refine Run.go rfl rfl rfl (sem_lenSl a1 n2 c3 rfl TF.sl_45 ?_)
      refine Run.go rfl rfl rfl (sem_move ((Value.int .i64 (0))) rfl ?_)
      refine Run.region_end ?_
      refine Run.block ?_
      obtain ⟨J27, m25, h0, hS⟩ := hS
      refine Run.of_fin (h0.imp fun h' h0 => ?_)
      refine Run.loop (σ := Int × Nat) (fun x e h => J27 x.1 x.2 h ∧ Agree [(5, (Value.pointer p13)), (20, (Value.slice a1 n2 c3)), (21, (Value.int .i64 ((n2 : Nat)))), (22, (Value.int .i64 (x.1)))] e) (fun x => x.2) ((0), m25) ⟨h0, ⟨rfl, rfl, rfl, rfl, trivial⟩⟩ ?_; clear h0
      rintro ⟨i22, m24⟩ e h23 ⟨hJ, hag⟩ ih26
      have hS := hS i22 m24 h23 hJ; clear hJ
      refine Run.env hag ?_; clear hag
      refine Run.seq ?_
      refine Run.ops0 (idx := [0]) rfl ?_
      obtain ⟨hT, hF⟩ := hS
      by_cases hb28 : (i22 : Int) < ((n2 : Nat))
      · have hS := hT hb28; clear hT hF
        refine Run.go rfl rfl rfl (sem_binI .i64 (i22) ((n2 : Nat)) (.bool true) rfl rfl (binI_lss_t hb28) ?_)
        refine Run.region_end ?_
        refine Run.seq ?_
        refine Run.condT rfl ?_
        refine Run.skip ?_
        refine Run.seq ?_
        refine Run.block ?_
        refine Run.seq ?_
        refine Run.ops0 (idx := [0, 1, 2, 3]) rfl ?_
        obtain ⟨A29, e30, hi0, hi1, hS⟩ := hS
        refine Run.go rfl rfl rfl (sem_indexAddrS A29 n2 c3 .i64 (i22) (congrArg (fun a => Value.slice a n2 c3) e30) rfl TF.slc_45 hi0 hi1 ?_)
        obtain ⟨i31, i32, s33, hl, hS⟩ := hS
        refine Run.go rfl rfl rfl (sem_loadN (Addr.add A29 (Int.toNat (i22) * 3)) [(Value.int .i64 (i31)), (Value.int .i64 (i32)), (Value.string s33)] rfl TF.agg_50 TF.sz_50 hl ?_)
        refine Run.go rfl rfl rfl (sem_allocN [(Value.int .i64 (0)), (Value.int .i64 (0)), (Value.string ByteArray.empty)] TF.zero_50 (fun k34 hb1 hb2 h35 hb3 => ?_))
        have hS := hS k34 hb1 hb2 h35 hb3
        obtain ⟨h36, hst, hS⟩ := hS
        refine Run.go rfl rfl rfl (sem_storeN ⟨k34, 0, none⟩ [(Value.int .i64 (i31)), (Value.int .i64 (i32)), (Value.string s33)] h36 rfl rfl TF.sz_50 hst ?_)
        refine Run.region_end ?_
        refine Run.seq ?_
        refine Run.ops0 (idx := [0]) rfl ?_
        refine Run.go rfl rfl rfl (sem_assign ((Value.bool true)) rfl ?_)
        refine Run.region_end ?_
        refine Run.seq ?_
        refine Run.seq ?_
        refine Run.ops0 (idx := [0, 1]) rfl ?_
        refine Run.go rfl rfl rfl (sem_fieldAddr ⟨k34, 0, none⟩ 0 rfl TF.fld_50_0 ?_)
        obtain ⟨i37, hl, hS⟩ := hS
        refine Run.go rfl rfl rfl (sem_load1 ⟨k34, 0, none⟩ ((Value.int .i64 (i37))) rfl TF.agg_3 hl ?_)
        refine Run.region_end ?_
        refine Run.block ?_
        refine Run.seq ?_
        refine Run.ops0 (idx := [0, 1]) rfl ?_
        obtain ⟨hT, hF⟩ := hS
        by_cases hb38 : (i37 : Int) = 0
        · have hS := hT hb38; clear hT hF
          refine Run.go rfl rfl rfl (sem_binI .i64 (i37) (0) (.bool true) rfl rfl (binI_eql_t hb38) ?_)
          refine Run.go rfl rfl rfl (sem_assign ((Value.bool true)) rfl ?_)
          refine Run.region_end ?_
          refine Run.condT rfl ?_
          skip
          obtain ⟨i40, hl, hS⟩ := hS
          have f41 := hl
          obtain ⟨hT, hF⟩ := hS
          by_cases hb42 : (i40 : Int) < (0)
          · have hS := hT hb42; clear hT hF
            skip
            skip
            refine Run.draw (fun h' => cellH B h' ⟨k34, 1, none⟩ = some (Value.int .i64 (i40)) ∧ True) [] [.q 0, .q 1, .q 2, .q 3, .q 4, .q 5, .q 6, .q 8, .q 9, .x 7, .q 10, .q 11, .q 12] TF.mixed (by kernel_rfl) ⟨f41, trivial⟩ ?_
            refine RunO.quiet rfl rfl rfl (fun h' hC => sem_fieldAddr ⟨k34, 0, none⟩ 1 rfl TF.fld_50_1 ⟨rfl, rfl⟩) ?_
            refine RunO.quiet rfl rfl rfl (fun h' hC => sem_load1 ⟨k34, 1, none⟩ ((Value.int .i64 (i40))) rfl TF.agg_3 hC.1 ⟨rfl, rfl⟩) ?_
            refine RunO.quiet rfl rfl rfl (fun h' hC => sem_binI .i64 (i40) (0) (.bool true) rfl rfl (binI_lss_t hb42) ⟨rfl, rfl⟩) ?_
            refine RunO.quiet rfl rfl rfl (fun h' hC => sem_move ((Value.bool true)) rfl ⟨rfl, rfl⟩) ?_
            refine RunO.skip rfl rfl rfl ?_
            refine RunO.skip rfl rfl rfl ?_
            refine RunO.skip rfl rfl rfl ?_
            refine RunO.skip rfl rfl rfl ?_
            refine RunO.skip rfl rfl rfl ?_
            refine OpH.no rfl rfl rfl ⟨fun _ => ⟨f41, trivial⟩, ?_⟩
            refine RunO.skip rfl rfl rfl ?_
            refine RunO.quiet rfl rfl rfl (fun h' hC => sem_pick true ((Value.bool true)) rfl rfl ⟨rfl, rfl⟩) ?_
            refine RunO.quiet rfl rfl rfl (fun h' hC => sem_assign ((Value.bool true)) rfl ⟨rfl, rfl⟩) ?_
            refine Run.inBlock ?_
            refine Run.seq ?_
            refine Run.ops0 (idx := [0, 1]) rfl ?_
            refine Run.go rfl rfl rfl (sem_move ((Value.bool true)) rfl ?_)
            refine Run.go rfl rfl rfl (sem_not true rfl ?_)
            refine Run.region_end ?_
            refine Run.condF rfl ?_
            refine Run.skip ?_
            refine Run.inBlock ?_
            refine Run.ops0 (idx := [0, 1]) rfl ?_
            refine Run.go rfl rfl rfl (sem_binI .i64 (i22) (1) ((Value.int .i64 (IntKind.wrap .i64 ((i22) + (1))))) rfl rfl rfl ?_)
            refine Run.go rfl rfl rfl (sem_move ((Value.int .i64 (IntKind.wrap .i64 ((i22) + (1))))) rfl ?_)
            refine Run.region_end ?_
            exact Run.of_fin (hS.imp fun h' ⟨m', hm, hS⟩ => ih26 ((IntKind.wrap .i64 ((i22) + (1))), m') _ _ ⟨hS, ⟨rfl, rfl, rfl, rfl, trivial⟩⟩ hm)
          · have hS := hF hb42; clear hT hF
            skip
            skip
            skip
            skip
            obtain ⟨i49, hl, hS⟩ := hS
            have f50 := hl
            skip
            obtain ⟨i52, hl, hS⟩ := hS
            have f53 := hl
            refine Run.draw (fun h' => cellH B h' ⟨k34, 1, none⟩ = some (Value.int .i64 (i40)) ∧ cellH B h' ⟨k34, 1, none⟩ = some (Value.int .i64 (i49)) ∧ cellH B h' ⟨k34, 1, none⟩ = some (Value.int .i64 (i52)) ∧ True) [] [.q 0, .q 1, .q 2, .q 3, .q 4, .q 5, .q 6, .q 8, .q 9, .x 7, .q 10, .q 11, .q 12] TF.mixed (by kernel_rfl) ⟨f41, f50, f53, trivial⟩ ?_
            refine RunO.quiet rfl rfl rfl (fun h' hC => sem_fieldAddr ⟨k34, 0, none⟩ 1 rfl TF.fld_50_1 ⟨rfl, rfl⟩) ?_
            refine RunO.quiet rfl rfl rfl (fun h' hC => sem_load1 ⟨k34, 1, none⟩ ((Value.int .i64 (i40))) rfl TF.agg_3 hC.1 ⟨rfl, rfl⟩) ?_
            refine RunO.quiet rfl rfl rfl (fun h' hC => sem_binI .i64 (i40) (0) (.bool false) rfl rfl (binI_lss_f hb42) ⟨rfl, rfl⟩) ?_
            refine RunO.quiet rfl rfl rfl (fun h' hC => sem_move ((Value.bool false)) rfl ⟨rfl, rfl⟩) ?_
            refine RunO.quiet rfl rfl rfl (fun h' hC => sem_move ((Value.pointer p13)) rfl ⟨rfl, rfl⟩) ?_
            refine RunO.quiet rfl rfl rfl (fun h' hC => sem_fieldAddr ⟨k34, 0, none⟩ 1 rfl TF.fld_50_1 ⟨rfl, rfl⟩) ?_
            refine RunO.quiet rfl rfl rfl (fun h' hC => sem_load1 ⟨k34, 1, none⟩ ((Value.int .i64 (i49))) rfl TF.agg_3 hC.2.1 ⟨rfl, rfl⟩) ?_
            refine RunO.quiet rfl rfl rfl (fun h' hC => sem_fieldAddr ⟨k34, 0, none⟩ 1 rfl TF.fld_50_1 ⟨rfl, rfl⟩) ?_
            refine RunO.quiet rfl rfl rfl (fun h' hC => sem_load1 ⟨k34, 1, none⟩ ((Value.int .i64 (i52))) rfl TF.agg_3 hC.2.2.1 ⟨rfl, rfl⟩) ?_
            refine OpH.go rfl rfl rfl (sem_callL [(Value.pointer p13), (Value.int .i64 (i49))] (TF.goes_18) rfl rfl (Spec.mono hS fun v h54 hv => ?_))
            obtain ⟨i55, rfl, hS⟩ := hv
            obtain ⟨g56, g57, g58, hS⟩ := hS
            refine ⟨fun _ => ⟨g56, g57, g58, trivial⟩, ?_⟩
            obtain ⟨hT, hF⟩ := hS
            by_cases hb59 : (i55 : Int) = i52
            · have hS := hT hb59; clear hT hF
              refine RunO.quiet rfl rfl rfl (fun h' hC => sem_binI .i64 (i55) (i52) (.bool true) rfl rfl (binI_eql_t hb59) ⟨rfl, rfl⟩) ?_
              refine RunO.quiet rfl rfl rfl (fun h' hC => sem_pick false ((Value.bool true)) rfl rfl ⟨rfl, rfl⟩) ?_
              refine RunO.quiet rfl rfl rfl (fun h' hC => sem_assign ((Value.bool true)) rfl ⟨rfl, rfl⟩) ?_
              refine Run.inBlock ?_
              refine Run.seq ?_
              refine Run.ops0 (idx := [0, 1]) rfl ?_
              refine Run.go rfl rfl rfl (sem_move ((Value.bool true)) rfl ?_)
              refine Run.go rfl rfl rfl (sem_not true rfl ?_)
              refine Run.region_end ?_
              refine Run.condF rfl ?_
              refine Run.skip ?_
              refine Run.inBlock ?_
              refine Run.ops0 (idx := [0, 1]) rfl ?_
              refine Run.go rfl rfl rfl (sem_binI .i64 (i22) (1) ((Value.int .i64 (IntKind.wrap .i64 ((i22) + (1))))) rfl rfl rfl ?_)
              refine Run.go rfl rfl rfl (sem_move ((Value.int .i64 (IntKind.wrap .i64 ((i22) + (1))))) rfl ?_)
              refine Run.region_end ?_
              exact Run.of_fin (hS.imp fun h' ⟨m', hm, hS⟩ => ih26 ((IntKind.wrap .i64 ((i22) + (1))), m') _ _ ⟨hS, ⟨rfl, rfl, rfl, rfl, trivial⟩⟩ hm)
            · have hS := hF hb59; clear hT hF
              refine RunO.quiet rfl rfl rfl (fun h' hC => sem_binI .i64 (i55) (i52) (.bool false) rfl rfl (binI_eql_f hb59) ⟨rfl, rfl⟩) ?_
              refine RunO.quiet rfl rfl rfl (fun h' hC => sem_pick false ((Value.bool false)) rfl rfl ⟨rfl, rfl⟩) ?_
              refine RunO.quiet rfl rfl rfl (fun h' hC => sem_assign ((Value.bool false)) rfl ⟨rfl, rfl⟩) ?_
              refine Run.inBlock ?_
              refine Run.seq ?_
              refine Run.ops0 (idx := [0, 1]) rfl ?_
              refine Run.go rfl rfl rfl (sem_move ((Value.bool false)) rfl ?_)
              refine Run.go rfl rfl rfl (sem_not false rfl ?_)
              refine Run.region_end ?_
              refine Run.condT rfl ?_
              refine Run.seq ?_
              refine Run.ops0 (idx := [0]) rfl ?_
              refine Run.go rfl rfl rfl (sem_assign ((Value.bool false)) rfl ?_)
              refine Run.region_end ?_
              refine Run.ret ⟨.inr rfl, ?_⟩
              exact hS.imp fun h' hq => ⟨(false), rfl, hq⟩
        · have hS := hF hb38; clear hT hF
          refine Run.go rfl rfl rfl (sem_binI .i64 (i37) (0) (.bool false) rfl rfl (binI_eql_f hb38) ?_)
          refine Run.go rfl rfl rfl (sem_assign ((Value.bool false)) rfl ?_)
          refine Run.region_end ?_
          refine Run.condF rfl ?_
          refine Run.seq ?_
          refine Run.ops0 (idx := [0, 1]) rfl ?_
          obtain ⟨hT, hF⟩ := hS
          by_cases hb60 : (i37 : Int) = 1
          · have hS := hT hb60; clear hT hF
            refine Run.go rfl rfl rfl (sem_binI .i64 (i37) (1) (.bool true) rfl rfl (binI_eql_t hb60) ?_)
            refine Run.go rfl rfl rfl (sem_assign ((Value.bool true)) rfl ?_)
            refine Run.region_end ?_
            refine Run.condT rfl ?_
            skip
            skip
            obtain ⟨i63, hl, hS⟩ := hS
            have f64 := hl
            refine Run.draw (fun h' => cellH B h' ⟨k34, 1, none⟩ = some (Value.int .i64 (i63)) ∧ True) [] [.q 0, .q 2, .q 3, .x 1, .q 4, .q 5] TF.mixed (by kernel_rfl) ⟨f64, trivial⟩ ?_
            refine RunO.quiet rfl rfl rfl (fun h' hC => sem_move ((Value.pointer p13)) rfl ⟨rfl, rfl⟩) ?_
            refine RunO.quiet rfl rfl rfl (fun h' hC => sem_fieldAddr ⟨k34, 0, none⟩ 1 rfl TF.fld_50_1 ⟨rfl, rfl⟩) ?_
            refine RunO.quiet rfl rfl rfl (fun h' hC => sem_load1 ⟨k34, 1, none⟩ ((Value.int .i64 (i63))) rfl TF.agg_3 hC.1 ⟨rfl, rfl⟩) ?_
            refine OpH.go rfl rfl rfl (sem_callL [(Value.pointer p13)] (TF.goes_19) rfl rfl (Spec.mono hS fun v h65 hv => ?_))
            obtain ⟨i66, rfl, hS⟩ := hv
            obtain ⟨g67, hS⟩ := hS
            refine ⟨fun _ => ⟨g67, trivial⟩, ?_⟩
            obtain ⟨hT, hF⟩ := hS
            by_cases hb68 : (i66 : Int) = i63
            · have hS := hT hb68; clear hT hF
              refine RunO.quiet rfl rfl rfl (fun h' hC => sem_binI .i64 (i66) (i63) (.bool true) rfl rfl (binI_eql_t hb68) ⟨rfl, rfl⟩) ?_
              refine RunO.quiet rfl rfl rfl (fun h' hC => sem_assign ((Value.bool true)) rfl ⟨rfl, rfl⟩) ?_
              refine Run.inBlock ?_
              refine Run.seq ?_
              refine Run.ops0 (idx := [0, 1]) rfl ?_
              refine Run.go rfl rfl rfl (sem_move ((Value.bool true)) rfl ?_)
              refine Run.go rfl rfl rfl (sem_not true rfl ?_)
              refine Run.region_end ?_
              refine Run.condF rfl ?_
              refine Run.skip ?_
              refine Run.inBlock ?_
              refine Run.ops0 (idx := [0, 1]) rfl ?_
              refine Run.go rfl rfl rfl (sem_binI .i64 (i22) (1) ((Value.int .i64 (IntKind.wrap .i64 ((i22) + (1))))) rfl rfl rfl ?_)
              refine Run.go rfl rfl rfl (sem_move ((Value.int .i64 (IntKind.wrap .i64 ((i22) + (1))))) rfl ?_)
              refine Run.region_end ?_
              exact Run.of_fin (hS.imp fun h' ⟨m', hm, hS⟩ => ih26 ((IntKind.wrap .i64 ((i22) + (1))), m') _ _ ⟨hS, ⟨rfl, rfl, rfl, rfl, trivial⟩⟩ hm)
            · have hS := hF hb68; clear hT hF
              refine RunO.quiet rfl rfl rfl (fun h' hC => sem_binI .i64 (i66) (i63) (.bool false) rfl rfl (binI_eql_f hb68) ⟨rfl, rfl⟩) ?_
              refine RunO.quiet rfl rfl rfl (fun h' hC => sem_assign ((Value.bool false)) rfl ⟨rfl, rfl⟩) ?_
              refine Run.inBlock ?_
              refine Run.seq ?_
              refine Run.ops0 (idx := [0, 1]) rfl ?_
              refine Run.go rfl rfl rfl (sem_move ((Value.bool false)) rfl ?_)
              refine Run.go rfl rfl rfl (sem_not false rfl ?_)
              refine Run.region_end ?_
              refine Run.condT rfl ?_
              refine Run.seq ?_
              refine Run.ops0 (idx := [0]) rfl ?_
              refine Run.go rfl rfl rfl (sem_assign ((Value.bool false)) rfl ?_)
              refine Run.region_end ?_
              refine Run.ret ⟨.inr rfl, ?_⟩
              exact hS.imp fun h' hq => ⟨(false), rfl, hq⟩
          · have hS := hF hb60; clear hT hF
            refine Run.go rfl rfl rfl (sem_binI .i64 (i37) (1) (.bool false) rfl rfl (binI_eql_f hb60) ?_)
            refine Run.go rfl rfl rfl (sem_assign ((Value.bool false)) rfl ?_)
            refine Run.region_end ?_
            refine Run.condF rfl ?_
            refine Run.seq ?_
            refine Run.ops0 (idx := [0, 1]) rfl ?_
            obtain ⟨hT, hF⟩ := hS
            by_cases hb69 : (i37 : Int) = 2
            · have hS := hT hb69; clear hT hF
              refine Run.go rfl rfl rfl (sem_binI .i64 (i37) (2) (.bool true) rfl rfl (binI_eql_t hb69) ?_)
              refine Run.go rfl rfl rfl (sem_assign ((Value.bool true)) rfl ?_)
              refine Run.region_end ?_
              refine Run.condT rfl ?_
              skip
              skip
              obtain ⟨s72, hl, hS⟩ := hS
              have f73 := hl
              skip
              skip
              obtain ⟨s76, hl, hS⟩ := hS
              have f77 := hl
              refine Run.draw (fun h' => cellH B h' ⟨k34, 2, none⟩ = some (Value.string s72) ∧ cellH B h' ⟨k34, 2, none⟩ = some (Value.string s76) ∧ True) [] [.q 0, .q 1, .q 2, .q 3, .q 5, .q 6, .x 4, .q 7, .q 8] TF.mixed (by kernel_rfl) ⟨f73, f77, trivial⟩ ?_
              refine RunO.quiet rfl rfl rfl (fun h' hC => sem_move ((Value.pointer p13)) rfl ⟨rfl, rfl⟩) ?_
              refine RunO.quiet rfl rfl rfl (fun h' hC => sem_fieldAddr ⟨k34, 0, none⟩ 2 rfl TF.fld_50_2 ⟨rfl, rfl⟩) ?_
              refine RunO.quiet rfl rfl rfl (fun h' hC => sem_load1 ⟨k34, 2, none⟩ ((Value.string s72)) rfl TF.agg_9 hC.1 ⟨rfl, rfl⟩) ?_
              refine RunO.quiet rfl rfl rfl (fun h' hC => sem_lenStr s72 rfl TF.isStr_9 ⟨rfl, rfl⟩) ?_
              refine RunO.quiet rfl rfl rfl (fun h' hC => sem_fieldAddr ⟨k34, 0, none⟩ 2 rfl TF.fld_50_2 ⟨rfl, rfl⟩) ?_
              refine RunO.quiet rfl rfl rfl (fun h' hC => sem_load1 ⟨k34, 2, none⟩ ((Value.string s76)) rfl TF.agg_9 hC.2.1 ⟨rfl, rfl⟩) ?_
              refine OpH.go rfl rfl rfl (sem_callL [(Value.pointer p13), (Value.int .i64 ((ByteArray.size s72 : Nat)))] (TF.goes_21) rfl rfl (Spec.mono hS fun v h78 hv => ?_))
              obtain ⟨s79, rfl, hS⟩ := hv
              obtain ⟨g80, g81, hS⟩ := hS
              refine ⟨fun _ => ⟨g80, g81, trivial⟩, ?_⟩
              obtain ⟨hT, hF⟩ := hS
              by_cases hb82 : s79 = s76
              · have hS := hT hb82; clear hT hF
                refine RunO.quiet rfl rfl rfl (fun h' hC => sem_strEqT s79 s76 rfl rfl hb82 ⟨rfl, rfl⟩) ?_
                refine RunO.quiet rfl rfl rfl (fun h' hC => sem_assign ((Value.bool true)) rfl ⟨rfl, rfl⟩) ?_
                refine Run.inBlock ?_
                refine Run.seq ?_
                refine Run.ops0 (idx := [0, 1]) rfl ?_
                refine Run.go rfl rfl rfl (sem_move ((Value.bool true)) rfl ?_)
                refine Run.go rfl rfl rfl (sem_not true rfl ?_)
                refine Run.region_end ?_
                refine Run.condF rfl ?_
                refine Run.skip ?_
                refine Run.inBlock ?_
                refine Run.ops0 (idx := [0, 1]) rfl ?_
                refine Run.go rfl rfl rfl (sem_binI .i64 (i22) (1) ((Value.int .i64 (IntKind.wrap .i64 ((i22) + (1))))) rfl rfl rfl ?_)
                refine Run.go rfl rfl rfl (sem_move ((Value.int .i64 (IntKind.wrap .i64 ((i22) + (1))))) rfl ?_)
                refine Run.region_end ?_
                exact Run.of_fin (hS.imp fun h' ⟨m', hm, hS⟩ => ih26 ((IntKind.wrap .i64 ((i22) + (1))), m') _ _ ⟨hS, ⟨rfl, rfl, rfl, rfl, trivial⟩⟩ hm)
              · have hS := hF hb82; clear hT hF
                refine RunO.quiet rfl rfl rfl (fun h' hC => sem_strEqF s79 s76 rfl rfl hb82 ⟨rfl, rfl⟩) ?_
                refine RunO.quiet rfl rfl rfl (fun h' hC => sem_assign ((Value.bool false)) rfl ⟨rfl, rfl⟩) ?_
                refine Run.inBlock ?_
                refine Run.seq ?_
                refine Run.ops0 (idx := [0, 1]) rfl ?_
                refine Run.go rfl rfl rfl (sem_move ((Value.bool false)) rfl ?_)
                refine Run.go rfl rfl rfl (sem_not false rfl ?_)
                refine Run.region_end ?_
                refine Run.condT rfl ?_
                refine Run.seq ?_
                refine Run.ops0 (idx := [0]) rfl ?_
                refine Run.go rfl rfl rfl (sem_assign ((Value.bool false)) rfl ?_)
                refine Run.region_end ?_
                refine Run.ret ⟨.inr rfl, ?_⟩
                exact hS.imp fun h' hq => ⟨(false), rfl, hq⟩
            · have hS := hF hb69; clear hT hF
              refine Run.go rfl rfl rfl (sem_binI .i64 (i37) (2) (.bool false) rfl rfl (binI_eql_f hb69) ?_)
              refine Run.go rfl rfl rfl (sem_assign ((Value.bool false)) rfl ?_)
              refine Run.region_end ?_
              refine Run.condF rfl ?_
              refine Run.seq ?_
              refine Run.ops0 (idx := [0, 1]) rfl ?_
              obtain ⟨hT, hF⟩ := hS
              by_cases hb83 : (i37 : Int) = 3
              · have hS := hT hb83; clear hT hF
                refine Run.go rfl rfl rfl (sem_binI .i64 (i37) (3) (.bool true) rfl rfl (binI_eql_t hb83) ?_)
                refine Run.go rfl rfl rfl (sem_assign ((Value.bool true)) rfl ?_)
                refine Run.region_end ?_
                refine Run.condT rfl ?_
                skip
                skip
                obtain ⟨s86, hl, hS⟩ := hS
                have f87 := hl
                skip
                skip
                obtain ⟨s90, hl, hS⟩ := hS
                have f91 := hl
                refine Run.draw (fun h' => cellH B h' ⟨k34, 2, none⟩ = some (Value.string s86) ∧ cellH B h' ⟨k34, 2, none⟩ = some (Value.string s90) ∧ True) [] [.q 0, .q 1, .q 2, .q 3, .q 5, .q 6, .x 4, .q 7, .q 8] TF.mixed (by kernel_rfl) ⟨f87, f91, trivial⟩ ?_
                refine RunO.quiet rfl rfl rfl (fun h' hC => sem_move ((Value.pointer p13)) rfl ⟨rfl, rfl⟩) ?_
                refine RunO.quiet rfl rfl rfl (fun h' hC => sem_fieldAddr ⟨k34, 0, none⟩ 2 rfl TF.fld_50_2 ⟨rfl, rfl⟩) ?_
                refine RunO.quiet rfl rfl rfl (fun h' hC => sem_load1 ⟨k34, 2, none⟩ ((Value.string s86)) rfl TF.agg_9 hC.1 ⟨rfl, rfl⟩) ?_
                refine RunO.quiet rfl rfl rfl (fun h' hC => sem_lenStr s86 rfl TF.isStr_9 ⟨rfl, rfl⟩) ?_
                refine RunO.quiet rfl rfl rfl (fun h' hC => sem_fieldAddr ⟨k34, 0, none⟩ 2 rfl TF.fld_50_2 ⟨rfl, rfl⟩) ?_
                refine RunO.quiet rfl rfl rfl (fun h' hC => sem_load1 ⟨k34, 2, none⟩ ((Value.string s90)) rfl TF.agg_9 hC.2.1 ⟨rfl, rfl⟩) ?_
                refine OpH.go rfl rfl rfl (sem_callL [(Value.pointer p13), (Value.int .i64 ((ByteArray.size s86 : Nat)))] (TF.goes_22) rfl rfl (Spec.mono hS fun v h92 hv => ?_))
                obtain ⟨s93, rfl, hS⟩ := hv
                obtain ⟨g94, g95, hS⟩ := hS
                refine ⟨fun _ => ⟨g94, g95, trivial⟩, ?_⟩
                obtain ⟨hT, hF⟩ := hS
                by_cases hb96 : s93 = s90
                · have hS := hT hb96; clear hT hF
                  refine RunO.quiet rfl rfl rfl (fun h' hC => sem_strEqT s93 s90 rfl rfl hb96 ⟨rfl, rfl⟩) ?_
                  refine RunO.quiet rfl rfl rfl (fun h' hC => sem_assign ((Value.bool true)) rfl ⟨rfl, rfl⟩) ?_
                  refine Run.inBlock ?_
                  refine Run.seq ?_
                  refine Run.ops0 (idx := [0, 1]) rfl ?_
                  refine Run.go rfl rfl rfl (sem_move ((Value.bool true)) rfl ?_)
                  refine Run.go rfl rfl rfl (sem_not true rfl ?_)
                  refine Run.region_end ?_
                  refine Run.condF rfl ?_
                  refine Run.skip ?_
                  refine Run.inBlock ?_
                  refine Run.ops0 (idx := [0, 1]) rfl ?_
                  refine Run.go rfl rfl rfl (sem_binI .i64 (i22) (1) ((Value.int .i64 (IntKind.wrap .i64 ((i22) + (1))))) rfl rfl rfl ?_)
                  refine Run.go rfl rfl rfl (sem_move ((Value.int .i64 (IntKind.wrap .i64 ((i22) + (1))))) rfl ?_)
                  refine Run.region_end ?_
                  exact Run.of_fin (hS.imp fun h' ⟨m', hm, hS⟩ => ih26 ((IntKind.wrap .i64 ((i22) + (1))), m') _ _ ⟨hS, ⟨rfl, rfl, rfl, rfl, trivial⟩⟩ hm)
                · have hS := hF hb96; clear hT hF
                  refine RunO.quiet rfl rfl rfl (fun h' hC => sem_strEqF s93 s90 rfl rfl hb96 ⟨rfl, rfl⟩) ?_
                  refine RunO.quiet rfl rfl rfl (fun h' hC => sem_assign ((Value.bool false)) rfl ⟨rfl, rfl⟩) ?_
                  refine Run.inBlock ?_
                  refine Run.seq ?_
                  refine Run.ops0 (idx := [0, 1]) rfl ?_
                  refine Run.go rfl rfl rfl (sem_move ((Value.bool false)) rfl ?_)
                  refine Run.go rfl rfl rfl (sem_not false rfl ?_)
                  refine Run.region_end ?_
                  refine Run.condT rfl ?_
                  refine Run.seq ?_
                  refine Run.ops0 (idx := [0]) rfl ?_
                  refine Run.go rfl rfl rfl (sem_assign ((Value.bool false)) rfl ?_)
                  refine Run.region_end ?_
                  refine Run.ret ⟨.inr rfl, ?_⟩
                  exact hS.imp fun h' hq => ⟨(false), rfl, hq⟩
              · have hS := hF hb83; clear hT hF
                refine Run.go rfl rfl rfl (sem_binI .i64 (i37) (3) (.bool false) rfl rfl (binI_eql_f hb83) ?_)
                refine Run.go rfl rfl rfl (sem_assign ((Value.bool false)) rfl ?_)
                refine Run.region_end ?_
                refine Run.condF rfl ?_
                refine Run.skip ?_
                refine Run.inBlock ?_
                refine Run.seq ?_
                refine Run.ops0 (idx := [0, 1]) rfl ?_
                refine Run.go rfl rfl rfl (sem_move ((Value.bool true)) rfl ?_)
                refine Run.go rfl rfl rfl (sem_not true rfl ?_)
                refine Run.region_end ?_
                refine Run.condF rfl ?_
                refine Run.skip ?_
                refine Run.inBlock ?_
                refine Run.ops0 (idx := [0, 1]) rfl ?_
                refine Run.go rfl rfl rfl (sem_binI .i64 (i22) (1) ((Value.int .i64 (IntKind.wrap .i64 ((i22) + (1))))) rfl rfl rfl ?_)
                refine Run.go rfl rfl rfl (sem_move ((Value.int .i64 (IntKind.wrap .i64 ((i22) + (1))))) rfl ?_)
                refine Run.region_end ?_
                exact Run.of_fin (hS.imp fun h' ⟨m', hm, hS⟩ => ih26 ((IntKind.wrap .i64 ((i22) + (1))), m') _ _ ⟨hS, ⟨rfl, rfl, rfl, rfl, trivial⟩⟩ hm)
      · have hS := hF hb28; clear hT hF
        refine Run.go rfl rfl rfl (sem_binI .i64 (i22) ((n2 : Nat)) (.bool false) rfl rfl (binI_lss_f hb28) ?_)
        refine Run.region_end ?_
        refine Run.seq ?_
        refine Run.condF rfl ?_
        refine Run.exit rfl ?_
        exact Run.of_fin (hS.imp fun h' hS => j14 _ _ ⟨⟨rfl, trivial⟩, hS⟩)
    · have hS := hT rfl; clear hT hF
      refine Run.region_end ?_
      refine Run.condT rfl ?_
      refine Run.seq ?_
      refine Run.ops0 (idx := [0]) rfl ?_
      refine Run.go rfl rfl rfl (sem_assign ((Value.bool true)) rfl ?_)
      refine Run.region_end ?_
      refine Run.ret ⟨.inr rfl, ?_⟩
      exact hS.imp fun h' hq => ⟨(true), rfl, hq⟩
set_option maxHeartbeats 4000000 in
theorem C_countermandlaw01_alive.of {B : RO} {h : Heap} {Q : Bool → Heap → Prop} (hS : S_countermandlaw01_alive B h Q) : C_countermandlaw01_alive B h Q := by
  unfold S_countermandlaw01_alive at hS
  unfold C_countermandlaw01_alive
  refine Spec.of_run Try.func15 (N := 22) (rs := [ResultVar.tmp 0]) rfl rfl rfl (Nat.le_of_ble_eq_true rfl) ?_
  refine Run.seq ?_
  refine Run.ops0 (idx := [0]) rfl ?_
  refine Run.go rfl rfl rfl (sem_assign ((Value.bool false)) rfl ?_)
  refine Run.region_end ?_
  refine Run.seq ?_
  refine Run.ops0 (idx := [0, 1, 2]) rfl ?_
  refine Run.go rfl rfl rfl (sem_buildSL [] [(Value.slice none 0 0)] TF.zero_40 TF.places_40 rfl rfl ?_)
  refine Run.go rfl rfl rfl (sem_boxNN [(Value.slice none 0 0)] rfl (fun k2 hb1 hb2 h3 hb3 => ?_))
  have hS := hS k2 hb1 hb2 h3 hb3
  refine Run.go rfl rfl rfl (sem_assign ((Value.pointer (some ⟨k2, 0, none⟩))) rfl ?_)
  refine Run.region_end ?_
  refine Run.seq ?_
  refine Run.ops0 (idx := [0, 1, 2]) rfl ?_
  refine Run.go rfl rfl rfl (sem_move ((Value.pointer (some ⟨k2, 0, none⟩))) rfl ?_)
  refine Run.go rfl rfl rfl (sem_buildSliceL [(0, (Value.int .i64 (300)))] [(Value.int .i64 (300))] TF.slc_84 TF.zero_3 rfl (by decide) (by decide) rfl rfl (fun k4 hb1 hb2 h5 hb3 => ?_))
  have hS := hS k4 hb1 hb2 h5 hb3
  refine Run.go rfl rfl rfl (sem_callL [(Value.pointer (some ⟨k2, 0, none⟩)), (Value.slice (some ⟨k4, 0, none⟩) 1 1)] (TF.goes_70) rfl rfl (Spec.mono hS fun v h6 hv => ?_))
  obtain ⟨rfl, hS⟩ := hv
  refine Run.region_end ?_
  refine Run.seq ?_
  refine Run.ops0 (idx := [0, 1, 2]) rfl ?_
  refine Run.go rfl rfl rfl (sem_move ((Value.pointer (some ⟨k2, 0, none⟩))) rfl ?_)
  refine Run.go rfl rfl rfl (sem_buildSliceL [(0, (Value.int .i64 ((-2))))] [(Value.int .i64 ((-2)))] TF.slc_84 TF.zero_3 rfl (by decide) (by decide) rfl rfl (fun k7 hb1 hb2 h8 hb3 => ?_))
  have hS := hS k7 hb1 hb2 h8 hb3
  refine Run.go rfl rfl rfl (sem_callL [(Value.pointer (some ⟨k2, 0, none⟩)), (Value.slice (some ⟨k7, 0, none⟩) 1 1)] (TF.goes_71) rfl rfl (Spec.mono hS fun v h9 hv => ?_))
  obtain ⟨rfl, hS⟩ := hv
  refine Run.region_end ?_
  refine Run.seq ?_
  refine Run.ops0 (idx := [0, 1, 2, 3, 4, 5, 6, 7, 8, 9, 10, 11, 12]) rfl ?_
  refine Run.go rfl rfl rfl (sem_move ((Value.pointer (some ⟨k2, 0, none⟩))) rfl ?_)
  refine Run.go rfl rfl rfl (sem_callL [(Value.pointer (some ⟨k2, 0, none⟩))] (TF.goes_28) rfl rfl (Spec.mono hS fun v h10 hv => ?_))
  obtain ⟨s11, rfl, hS⟩ := hv
  obtain ⟨hT, hF⟩ := hS
  by_cases hb12 : s11 = (ByteArray.mk #[172, 2, 3])
  · have hS := hT hb12; clear hT hF
    refine Run.go rfl rfl rfl (sem_strEqT s11 (ByteArray.mk #[172, 2, 3]) rfl rfl hb12 ?_)
    refine Run.go rfl rfl rfl (sem_move ((Value.bool true)) rfl ?_)
    refine Run.go rfl rfl rfl (sem_callL [(Value.string (ByteArray.mk #[]))] (TF.goes_16) rfl rfl (Spec.mono hS fun v h13 hv => ?_))
    obtain ⟨p14, rfl, hS⟩ := hv
    refine Run.go rfl rfl rfl (sem_callL [(Value.pointer p14)] (TF.goes_25) rfl rfl (Spec.mono hS fun v h15 hv => ?_))
    obtain ⟨b16, rfl, hS⟩ := hv
    obtain ⟨hT, hF⟩ := hS
    cases b16
    · have hS := hF rfl; clear hT hF
      refine Run.go rfl rfl rfl (sem_pick true ((Value.bool false)) rfl rfl ?_)
      refine Run.go rfl rfl rfl (sem_move ((Value.bool false)) rfl ?_)
      refine Run.no rfl rfl rfl ?_
      refine Run.no rfl rfl rfl ?_
      refine Run.no rfl rfl rfl ?_
      refine Run.go rfl rfl rfl (sem_pick false ((Value.bool false)) rfl rfl ?_)
      refine Run.go rfl rfl rfl (sem_assign ((Value.bool false)) rfl ?_)
      refine Run.region_end ?_
      refine Run.ret ⟨.inr rfl, ?_⟩
      exact hS.imp fun h' hq => ⟨(false), rfl, hq⟩
    · have hS := hT rfl; clear hT hF
      refine Run.go rfl rfl rfl (sem_pick true ((Value.bool true)) rfl rfl ?_)
      refine Run.go rfl rfl rfl (sem_move ((Value.bool true)) rfl ?_)
      refine Run.go rfl rfl rfl (sem_callL [(Value.string (ByteArray.mk #[97]))] (TF.goes_16) rfl rfl (Spec.mono hS fun v h17 hv => ?_))
      obtain ⟨p18, rfl, hS⟩ := hv
      refine Run.go rfl rfl rfl (sem_callL [(Value.pointer p18)] (TF.goes_25) rfl rfl (Spec.mono hS fun v h19 hv => ?_))
      obtain ⟨b20, rfl, hS⟩ := hv
      refine Run.go rfl rfl rfl (sem_not b20 rfl ?_)
      refine Run.go rfl rfl rfl (sem_pick true ((Value.bool (!b20))) rfl rfl ?_)
      refine Run.go rfl rfl rfl (sem_assign ((Value.bool (!b20))) rfl ?_)
      refine Run.region_end ?_
      refine Run.ret ⟨.inr rfl, ?_⟩
      exact hS.imp fun h' hq => ⟨((!b20)), rfl, hq⟩
  · have hS := hF hb12; clear hT hF
    refine Run.go rfl rfl rfl (sem_strEqF s11 (ByteArray.mk #[172, 2, 3]) rfl rfl hb12 ?_)
    refine Run.go rfl rfl rfl (sem_move ((Value.bool false)) rfl ?_)
    refine Run.no rfl rfl rfl ?_
    refine Run.no rfl rfl rfl ?_
    refine Run.go rfl rfl rfl (sem_pick false ((Value.bool false)) rfl rfl ?_)
    refine Run.go rfl rfl rfl (sem_move ((Value.bool false)) rfl ?_)
    refine Run.no rfl rfl rfl ?_
    refine Run.no rfl rfl rfl ?_
    refine Run.no rfl rfl rfl ?_
    refine Run.go rfl rfl rfl (sem_pick false ((Value.bool false)) rfl rfl ?_)
    refine Run.go rfl rfl rfl (sem_assign ((Value.bool false)) rfl ?_)
    refine Run.region_end ?_
    refine Run.ret ⟨.inr rfl, ?_⟩
    exact hS.imp fun h' hq => ⟨(false), rfl, hq⟩
set_option maxHeartbeats 4000000 in
theorem C_stylus_Of.of {B : RO} {s1 : ByteArray} {h : Heap} {Q : Option Addr → Heap → Prop} (hS : S_stylus_Of B s1 h Q) : C_stylus_Of B s1 h Q := by
  unfold S_stylus_Of at hS
  unfold C_stylus_Of
  refine Spec.of_run Try.func16 (N := 6) (rs := [ResultVar.tmp 2]) rfl rfl rfl (Nat.le_of_ble_eq_true rfl) ?_
  refine Run.seq ?_
  refine Run.ops0 (idx := [0]) rfl ?_
  refine Run.go rfl rfl rfl (sem_assign ((Value.pointer none)) rfl ?_)
  refine Run.region_end ?_
  refine Run.seq ?_
  refine Run.ops0 (idx := [0, 1, 2, 3]) rfl ?_
  refine Run.go rfl rfl rfl (sem_move ((Value.string s1)) rfl ?_)
  refine Run.go rfl rfl rfl (sem_buildSL [(0, (Value.string s1))] [(Value.string s1), (Value.bool false)] TF.zero_137 TF.places_137 rfl rfl ?_)
  refine Run.go rfl rfl rfl (sem_boxNN [(Value.string s1), (Value.bool false)] rfl (fun k3 hb1 hb2 h4 hb3 => ?_))
  have hS := hS k3 hb1 hb2 h4 hb3
  refine Run.go rfl rfl rfl (sem_assign ((Value.pointer (some ⟨k3, 0, none⟩))) rfl ?_)
  refine Run.region_end ?_
  refine Run.ret ⟨.inr rfl, ?_⟩
  exact hS.imp fun h' hq => ⟨(some ⟨k3, 0, none⟩), rfl, hq⟩
set_option maxHeartbeats 4000000 in
theorem C_countermandref01_Taken.of {B : RO} {s1 : ByteArray} {h : Heap} {Q : Int → Int → Heap → Prop} (hS : S_countermandref01_Taken B s1 h Q) : C_countermandref01_Taken B s1 h Q := by
  unfold S_countermandref01_Taken at hS
  unfold C_countermandref01_Taken
  refine Spec.of_run Try.func17 (N := 44) (rs := [ResultVar.tmp 2, ResultVar.tmp 3]) rfl rfl rfl (Nat.le_of_ble_eq_true rfl) ?_
  refine Run.seq ?_
  refine Run.ops0 (idx := [0, 1]) rfl ?_
  refine Run.go rfl rfl rfl (sem_assign ((Value.int .u64 (0))) rfl ?_)
  refine Run.go rfl rfl rfl (sem_assign ((Value.int .i64 (0))) rfl ?_)
  refine Run.region_end ?_
  refine Run.seq ?_
  refine Run.seq ?_
  refine Run.ops0 (idx := [0]) rfl ?_
  refine Run.go rfl rfl rfl (sem_assign ((Value.int .i64 (1))) rfl ?_)
  refine Run.region_end ?_
  refine Run.block ?_
  obtain ⟨J9, m7, h0, hS⟩ := hS
  refine Run.of_fin (h0.imp fun h' h0 => ?_)
  refine Run.loop (σ := Int × Nat) (fun x e h => J9 x.1 x.2 h ∧ Agree [(0, (Value.string s1)), (4, (Value.int .i64 (x.1)))] e) (fun x => x.2) ((1), m7) ⟨h0, ⟨rfl, rfl, trivial⟩⟩ ?_; clear h0
  rintro ⟨i4, m6⟩ e h5 ⟨hJ, hag⟩ ih8
  have hS := hS i4 m6 h5 hJ; clear hJ
  refine Run.env hag ?_; clear hag
  refine Run.seqJ (fun e h11 => Agree [(0, (Value.string s1)), (4, (Value.int .i64 (i4)))] e ∧ S_countermandref01_Taken_J1 B s1 i4 m6 J9 h11 Q) ?_ fun j10 => ?_
  · rintro e h11 ⟨hag, hS⟩
    refine Run.env hag ?_; clear hag
    refine Run.seq ?_
    refine Run.block ?_
    refine Run.seq ?_
    refine Run.seq ?_
    refine Run.ops0 (idx := [0, 1, 2, 3, 4]) rfl ?_
    refine Run.go rfl rfl rfl (sem_move ((Value.string s1)) rfl ?_)
    refine Run.go rfl rfl rfl (sem_move ((Value.int .i64 (i4))) rfl ?_)
    refine Run.go rfl rfl rfl (sem_binI .i64 (i4) (1) ((Value.int .i64 (IntKind.wrap .i64 ((i4) - (1))))) rfl rfl rfl ?_)
    obtain ⟨hi0, hi1, hS⟩ := hS
    refine Run.go rfl rfl rfl (sem_indexStr' s1 .i64 (IntKind.wrap .i64 ((i4) - (1))) rfl rfl TF.isStr_9 hi0 hi1 ?_)
    obtain ⟨hT, hF⟩ := hS
    by_cases hb12 : (byteAt s1 (Int.toNat (IntKind.wrap .i64 ((i4) - (1)))) : Int) > (127)
    · have hS := hT hb12; clear hT hF
      refine Run.go rfl rfl rfl (sem_binI .u8 (byteAt s1 (Int.toNat (IntKind.wrap .i64 ((i4) - (1))))) (127) (.bool true) rfl rfl (binI_gtr_t hb12) ?_)
      refine Run.region_end ?_
      refine Run.condT rfl ?_
      refine Run.exit rfl ?_
      refine Run.ops0 (idx := [0, 1, 2]) rfl ?_
      refine Run.go rfl rfl rfl (sem_move ((Value.int .i64 (i4))) rfl ?_)
      refine Run.go rfl rfl rfl (sem_binI .i64 (i4) (1) ((Value.int .i64 (IntKind.wrap .i64 ((i4) + (1))))) rfl rfl rfl ?_)
      refine Run.go rfl rfl rfl (sem_assign ((Value.int .i64 (IntKind.wrap .i64 ((i4) + (1))))) rfl ?_)
      refine Run.region_end ?_
      exact Run.of_fin (hS.imp fun h' ⟨m', hm, hS⟩ => ih8 ((IntKind.wrap .i64 ((i4) + (1))), m') _ _ ⟨hS, ⟨rfl, rfl, trivial⟩⟩ hm)
    · have hS := hF hb12; clear hT hF
      refine Run.go rfl rfl rfl (sem_binI .u8 (byteAt s1 (Int.toNat (IntKind.wrap .i64 ((i4) - (1))))) (127) (.bool false) rfl rfl (binI_gtr_f hb12) ?_)
      refine Run.region_end ?_
      refine Run.condF rfl ?_
      refine Run.skip ?_
      refine Run.seq ?_
      refine Run.ops0 (idx := [0]) rfl ?_
      refine Run.go rfl rfl rfl (sem_assign ((Value.int .u64 (0))) rfl ?_)
      refine Run.region_end ?_
      refine Run.seqJ (fun e h15 => ∃ i14 : Int, Agree [(0, (Value.string s1)), (4, (Value.int .i64 (i4))), (5, (Value.int .u64 (i14)))] e ∧ S_countermandref01_Taken_J2 B s1 i4 i14 h15 Q) ?_ fun j13 => ?_
      · rintro e h15 ⟨i14, hag, hS⟩
        refine Run.env hag ?_; clear hag
        refine Run.seq ?_
        refine Run.seq ?_
        skip
        skip
        skip
        obtain ⟨hi0, hi1, hi2, hS⟩ := hS
        have f20 := hi0; have f21 := hi1; have f22 := hi2
        refine Run.draw (fun h' => True) [] [.q 0, .q 2, .q 3, .q 4, .x 1, .q 5] TF.mixed (by kernel_rfl) trivial ?_
        refine RunO.quiet rfl rfl rfl (fun h' hC => sem_move ((Value.int .u64 (i14))) rfl ⟨rfl, rfl⟩) ?_
        refine RunO.quiet rfl rfl rfl (fun h' hC => sem_move ((Value.string s1)) rfl ⟨rfl, rfl⟩) ?_
        refine RunO.quiet rfl rfl rfl (fun h' hC => sem_move ((Value.int .i64 (i4))) rfl ⟨rfl, rfl⟩) ?_
        refine RunO.quiet rfl rfl rfl (fun h' hC => sem_sliceStrI s1 (0) (i4) rfl TF.isStr_9 rfl ⟨_, rfl⟩ f20 f21 f22 ⟨rfl, rfl⟩) ?_
        refine OpH.go rfl rfl rfl (sem_callL [(Value.int .u64 (i14))] (TF.goes_72) rfl rfl (Spec.mono hS fun v h23 hv => ?_))
        obtain ⟨s24, rfl, hS⟩ := hv
        refine ⟨fun _ => trivial, ?_⟩
        obtain ⟨hT, hF⟩ := hS
        by_cases hb25 : s24 = (ByteArray.extract s1 (Int.toNat (0)) (Int.toNat (i4)))
        · have hS := hT hb25; clear hT hF
          refine RunO.quiet rfl rfl rfl (fun h' hC => sem_strNeT s24 (ByteArray.extract s1 (Int.toNat (0)) (Int.toNat (i4))) rfl rfl hb25 ⟨rfl, rfl⟩) ?_
          refine Run.condF rfl ?_
          refine Run.skip ?_
          refine Run.seq ?_
          refine Run.ops0 (idx := [0, 1, 2, 3]) rfl ?_
          refine Run.go rfl rfl rfl (sem_move ((Value.int .u64 (i14))) rfl ?_)
          refine Run.go rfl rfl rfl (sem_move ((Value.int .i64 (i4))) rfl ?_)
          refine Run.go rfl rfl rfl (sem_assign ((Value.int .u64 (i14))) rfl ?_)
          refine Run.go rfl rfl rfl (sem_assign ((Value.int .i64 (i4))) rfl ?_)
          refine Run.region_end ?_
          refine Run.ret ⟨.inr rfl, ?_⟩
          exact hS.imp fun h' hq => ⟨(i14), (i4), rfl, hq⟩
        · have hS := hF hb25; clear hT hF
          refine RunO.quiet rfl rfl rfl (fun h' hC => sem_strNeF s24 (ByteArray.extract s1 (Int.toNat (0)) (Int.toNat (i4))) rfl rfl hb25 ⟨rfl, rfl⟩) ?_
          refine Run.condT rfl ?_
          refine Run.seq ?_
          refine Run.ops0 (idx := [0, 1]) rfl ?_
          refine Run.go rfl rfl rfl (sem_assign ((Value.int .u64 (0))) rfl ?_)
          refine Run.go rfl rfl rfl (sem_assign ((Value.int .i64 (0))) rfl ?_)
          refine Run.region_end ?_
          refine Run.ret ⟨.inr rfl, ?_⟩
          exact hS.imp fun h' hq => ⟨(0), (0), rfl, hq⟩
      refine Run.seq ?_
      refine Run.ops0 (idx := [0, 1, 2]) rfl ?_
      refine Run.go rfl rfl rfl (sem_move ((Value.int .i64 (i4))) rfl ?_)
      refine Run.go rfl rfl rfl (sem_binI .i64 (i4) (1) ((Value.int .i64 (IntKind.wrap .i64 ((i4) - (1))))) rfl rfl rfl ?_)
      refine Run.go rfl rfl rfl (sem_assign ((Value.int .i64 (IntKind.wrap .i64 ((i4) - (1))))) rfl ?_)
      refine Run.region_end ?_
      refine Run.block ?_
      obtain ⟨J32, m30, h0, hS⟩ := hS
      refine Run.of_fin (h0.imp fun h' h0 => ?_)
      refine Run.loop (σ := Int × Int × Nat) (fun x e h => J32 x.1 x.2.1 x.2.2 h ∧ Agree [(0, (Value.string s1)), (4, (Value.int .i64 (i4))), (5, (Value.int .u64 (x.1))), (6, (Value.int .i64 (x.2.1)))] e) (fun x => x.2.2) ((0), (IntKind.wrap .i64 ((i4) - (1))), m30) ⟨h0, ⟨rfl, rfl, rfl, rfl, trivial⟩⟩ ?_; clear h0
      rintro ⟨i26, i27, m29⟩ e h28 ⟨hJ, hag⟩ ih31
      have hS := hS i26 i27 m29 h28 hJ; clear hJ
      refine Run.env hag ?_; clear hag
      refine Run.seq ?_
      refine Run.seq ?_
      refine Run.ops0 (idx := [0, 1]) rfl ?_
      refine Run.go rfl rfl rfl (sem_move ((Value.int .i64 (i27))) rfl ?_)
      obtain ⟨hT, hF⟩ := hS
      by_cases hb33 : (i27 : Int) ≥ (0)
      · have hS := hT hb33; clear hT hF
        refine Run.go rfl rfl rfl (sem_binI .i64 (i27) (0) (.bool true) rfl rfl (binI_geq_t hb33) ?_)
        refine Run.region_end ?_
        refine Run.condT rfl ?_
        refine Run.skip ?_
        refine Run.seq ?_
        refine Run.block ?_
        refine Run.ops0 (idx := [0, 1, 2, 3, 4, 5, 6, 7, 8]) rfl ?_
        refine Run.go rfl rfl rfl (sem_move ((Value.int .u64 (i26))) rfl ?_)
        refine Run.go rfl rfl rfl (sem_binI .u64 (i26) (128) ((Value.int .u64 (IntKind.wrap .u64 ((i26) * (128))))) rfl rfl rfl ?_)
        refine Run.go rfl rfl rfl (sem_move ((Value.string s1)) rfl ?_)
        refine Run.go rfl rfl rfl (sem_move ((Value.int .i64 (i27))) rfl ?_)
        obtain ⟨hi0, hi1, hS⟩ := hS
        refine Run.go rfl rfl rfl (sem_indexStr' s1 .i64 (i27) rfl rfl TF.isStr_9 hi0 hi1 ?_)
        refine Run.go rfl rfl rfl (sem_convI .u8 .u64 (byteAt s1 (Int.toNat (i27))) rfl TF.int_5 TF.int_28 ?_)
        obtain ⟨hi0, hS⟩ := hS
        refine Run.go rfl rfl rfl (sem_binI .u64 (IntKind.wrap .u64 (byteAt s1 (Int.toNat (i27)))) (128) ((Value.int .u64 (Int.tmod (IntKind.wrap .u64 (byteAt s1 (Int.toNat (i27)))) (128)))) rfl rfl (binI_rem hi0) ?_)
        refine Run.go rfl rfl rfl (sem_binI .u64 (IntKind.wrap .u64 ((i26) * (128))) (Int.tmod (IntKind.wrap .u64 (byteAt s1 (Int.toNat (i27)))) (128)) ((Value.int .u64 (IntKind.wrap .u64 ((IntKind.wrap .u64 ((i26) * (128))) + (Int.tmod (IntKind.wrap .u64 (byteAt s1 (Int.toNat (i27)))) (128)))))) rfl rfl rfl ?_)
        refine Run.go rfl rfl rfl (sem_assign ((Value.int .u64 (IntKind.wrap .u64 ((IntKind.wrap .u64 ((i26) * (128))) + (Int.tmod (IntKind.wrap .u64 (byteAt s1 (Int.toNat (i27)))) (128)))))) rfl ?_)
        refine Run.region_end ?_
        refine Run.inBlock ?_
        refine Run.ops0 (idx := [0, 1, 2]) rfl ?_
        refine Run.go rfl rfl rfl (sem_move ((Value.int .i64 (i27))) rfl ?_)
        refine Run.go rfl rfl rfl (sem_binI .i64 (i27) (1) ((Value.int .i64 (IntKind.wrap .i64 ((i27) - (1))))) rfl rfl rfl ?_)
        refine Run.go rfl rfl rfl (sem_assign ((Value.int .i64 (IntKind.wrap .i64 ((i27) - (1))))) rfl ?_)
        refine Run.region_end ?_
        exact Run.of_fin (hS.imp fun h' ⟨m', hm, hS⟩ => ih31 ((IntKind.wrap .u64 ((IntKind.wrap .u64 ((i26) * (128))) + (Int.tmod (IntKind.wrap .u64 (byteAt s1 (Int.toNat (i27)))) (128)))), (IntKind.wrap .i64 ((i27) - (1))), m') _ _ ⟨hS, ⟨rfl, rfl, rfl, rfl, trivial⟩⟩ hm)
      · have hS := hF hb33; clear hT hF
        refine Run.go rfl rfl rfl (sem_binI .i64 (i27) (0) (.bool false) rfl rfl (binI_geq_f hb33) ?_)
        refine Run.region_end ?_
        refine Run.condF rfl ?_
        refine Run.exit rfl ?_
        exact Run.of_fin (hS.imp fun h' hS => j13 _ _ ⟨(i26), ⟨rfl, rfl, rfl, trivial⟩, hS⟩)
  refine Run.seq ?_
  refine Run.ops0 (idx := [0, 1, 2, 3, 4, 5, 6, 7]) rfl ?_
  refine Run.go rfl rfl rfl (sem_move ((Value.int .i64 (i4))) rfl ?_)
  obtain ⟨hT, hF⟩ := hS
  by_cases hb34 : (i4 : Int) ≤ (10)
  · have hS := hT hb34; clear hT hF
    refine Run.go rfl rfl rfl (sem_binI .i64 (i4) (10) (.bool true) rfl rfl (binI_leq_t hb34) ?_)
    refine Run.go rfl rfl rfl (sem_move ((Value.bool true)) rfl ?_)
    refine Run.go rfl rfl rfl (sem_move ((Value.int .i64 (i4))) rfl ?_)
    refine Run.go rfl rfl rfl (sem_move ((Value.string s1)) rfl ?_)
    refine Run.go rfl rfl rfl (sem_lenStr s1 rfl TF.isStr_9 ?_)
    obtain ⟨hT, hF⟩ := hS
    by_cases hb35 : (i4 : Int) ≤ ((ByteArray.size s1 : Nat))
    · have hS := hT hb35; clear hT hF
      refine Run.go rfl rfl rfl (sem_binI .i64 (i4) ((ByteArray.size s1 : Nat)) (.bool true) rfl rfl (binI_leq_t hb35) ?_)
      refine Run.go rfl rfl rfl (sem_pick true ((Value.bool true)) rfl rfl ?_)
      refine Run.region_end ?_
      refine Run.condT rfl ?_
      refine Run.skip ?_
      exact Run.of_fin (hS.imp fun h' hS => j10 _ _ ⟨⟨rfl, rfl, trivial⟩, hS⟩)
    · have hS := hF hb35; clear hT hF
      refine Run.go rfl rfl rfl (sem_binI .i64 (i4) ((ByteArray.size s1 : Nat)) (.bool false) rfl rfl (binI_leq_f hb35) ?_)
      refine Run.go rfl rfl rfl (sem_pick true ((Value.bool false)) rfl rfl ?_)
      refine Run.region_end ?_
      refine Run.condF rfl ?_
      refine Run.exit rfl ?_
      refine Run.seq ?_
      refine Run.ops0 (idx := [0, 1]) rfl ?_
      refine Run.go rfl rfl rfl (sem_assign ((Value.int .u64 (0))) rfl ?_)
      refine Run.go rfl rfl rfl (sem_assign ((Value.int .i64 (0))) rfl ?_)
      refine Run.region_end ?_
      refine Run.ret ⟨.inr rfl, ?_⟩
      exact hS.imp fun h' hq => ⟨(0), (0), rfl, hq⟩
  · have hS := hF hb34; clear hT hF
    refine Run.go rfl rfl rfl (sem_binI .i64 (i4) (10) (.bool false) rfl rfl (binI_leq_f hb34) ?_)
    refine Run.go rfl rfl rfl (sem_move ((Value.bool false)) rfl ?_)
    refine Run.no rfl rfl rfl ?_
    refine Run.no rfl rfl rfl ?_
    refine Run.no rfl rfl rfl ?_
    refine Run.no rfl rfl rfl ?_
    refine Run.go rfl rfl rfl (sem_pick false ((Value.bool false)) rfl rfl ?_)
    refine Run.region_end ?_
    refine Run.condF rfl ?_
    refine Run.exit rfl ?_
    refine Run.seq ?_
    refine Run.ops0 (idx := [0, 1]) rfl ?_
    refine Run.go rfl rfl rfl (sem_assign ((Value.int .u64 (0))) rfl ?_)
    refine Run.go rfl rfl rfl (sem_assign ((Value.int .i64 (0))) rfl ?_)
    refine Run.region_end ?_
    refine Run.ret ⟨.inr rfl, ?_⟩
    exact hS.imp fun h' hq => ⟨(0), (0), rfl, hq⟩
set_option maxHeartbeats 4000000 in
theorem C_stylus_Reader_Nat.of {B : RO} {p1 : Option Addr} {i2 : Int} {h : Heap} {Q : Int → Heap → Prop} (hS : S_stylus_Reader_Nat B p1 i2 h Q) : C_stylus_Reader_Nat B p1 i2 h Q := by
  unfold S_stylus_Reader_Nat at hS
  unfold C_stylus_Reader_Nat
  refine Spec.of_run Try.func18 (N := 20) (rs := [ResultVar.tmp 4]) rfl rfl rfl (Nat.le_of_ble_eq_true rfl) ?_
  refine Run.seq ?_
  refine Run.ops0 (idx := [0]) rfl ?_
  refine Run.go rfl rfl rfl (sem_assign ((Value.int .i64 (0))) rfl ?_)
  refine Run.region_end ?_
  refine Run.seq ?_
  refine Run.ops0 (idx := [0, 1, 2]) rfl ?_
  refine Run.go rfl rfl rfl (sem_move ((Value.pointer p1)) rfl ?_)
  refine Run.go rfl rfl rfl (sem_callL [(Value.pointer p1)] (TF.goes_73) rfl rfl (Spec.mono hS fun v h4 hv => ?_))
  obtain ⟨i5, rfl, hS⟩ := hv
  refine Run.go rfl rfl rfl (sem_assign ((Value.int .u64 (i5))) rfl ?_)
  refine Run.region_end ?_
  refine Run.seq ?_
  refine Run.seq ?_
  refine Run.ops0 (idx := [0, 1, 2, 3, 4, 5, 6, 7]) rfl ?_
  refine Run.go rfl rfl rfl (sem_move ((Value.int .i64 (i2))) rfl ?_)
  obtain ⟨hT, hF⟩ := hS
  by_cases hb6 : (i2 : Int) < (0)
  · have hS := hT hb6; clear hT hF
    refine Run.go rfl rfl rfl (sem_binI .i64 (i2) (0) (.bool true) rfl rfl (binI_lss_t hb6) ?_)
    refine Run.go rfl rfl rfl (sem_move ((Value.bool true)) rfl ?_)
    refine Run.no rfl rfl rfl ?_
    refine Run.no rfl rfl rfl ?_
    refine Run.no rfl rfl rfl ?_
    refine Run.no rfl rfl rfl ?_
    refine Run.go rfl rfl rfl (sem_pick true ((Value.bool true)) rfl rfl ?_)
    refine Run.region_end ?_
    refine Run.condT rfl ?_
    refine Run.seq ?_
    refine Run.ops0 (idx := [0, 1]) rfl ?_
    refine Run.go rfl rfl rfl (sem_move ((Value.pointer p1)) rfl ?_)
    refine Run.go rfl rfl rfl (sem_callL [(Value.pointer p1)] (TF.goes_26) rfl rfl (Spec.mono hS fun v h7 hv => ?_))
    obtain ⟨rfl, hS⟩ := hv
    refine Run.region_end ?_
    refine Run.seq ?_
    refine Run.ops0 (idx := [0]) rfl ?_
    refine Run.go rfl rfl rfl (sem_assign ((Value.int .i64 (0))) rfl ?_)
    refine Run.region_end ?_
    refine Run.ret ⟨.inr rfl, ?_⟩
    exact hS.imp fun h' hq => ⟨(0), rfl, hq⟩
  · have hS := hF hb6; clear hT hF
    refine Run.go rfl rfl rfl (sem_binI .i64 (i2) (0) (.bool false) rfl rfl (binI_lss_f hb6) ?_)
    refine Run.go rfl rfl rfl (sem_move ((Value.bool false)) rfl ?_)
    refine Run.go rfl rfl rfl (sem_move ((Value.int .u64 (i5))) rfl ?_)
    refine Run.go rfl rfl rfl (sem_move ((Value.int .i64 (i2))) rfl ?_)
    refine Run.go rfl rfl rfl (sem_convI .i64 .u64 (i2) rfl TF.int_3 TF.int_28 ?_)
    obtain ⟨hT, hF⟩ := hS
    by_cases hb8 : (i5 : Int) > (IntKind.wrap .u64 (i2))
    · have hS := hT hb8; clear hT hF
      refine Run.go rfl rfl rfl (sem_binI .u64 (i5) (IntKind.wrap .u64 (i2)) (.bool true) rfl rfl (binI_gtr_t hb8) ?_)
      refine Run.go rfl rfl rfl (sem_pick false ((Value.bool true)) rfl rfl ?_)
      refine Run.region_end ?_
      refine Run.condT rfl ?_
      refine Run.seq ?_
      refine Run.ops0 (idx := [0, 1]) rfl ?_
      refine Run.go rfl rfl rfl (sem_move ((Value.pointer p1)) rfl ?_)
      refine Run.go rfl rfl rfl (sem_callL [(Value.pointer p1)] (TF.goes_26) rfl rfl (Spec.mono hS fun v h9 hv => ?_))
      obtain ⟨rfl, hS⟩ := hv
      refine Run.region_end ?_
      refine Run.seq ?_
      refine Run.ops0 (idx := [0]) rfl ?_
      refine Run.go rfl rfl rfl (sem_assign ((Value.int .i64 (0))) rfl ?_)
      refine Run.region_end ?_
      refine Run.ret ⟨.inr rfl, ?_⟩
      exact hS.imp fun h' hq => ⟨(0), rfl, hq⟩
    · have hS := hF hb8; clear hT hF
      refine Run.go rfl rfl rfl (sem_binI .u64 (i5) (IntKind.wrap .u64 (i2)) (.bool false) rfl rfl (binI_gtr_f hb8) ?_)
      refine Run.go rfl rfl rfl (sem_pick false ((Value.bool false)) rfl rfl ?_)
      refine Run.region_end ?_
      refine Run.condF rfl ?_
      refine Run.skip ?_
      refine Run.seq ?_
      refine Run.ops0 (idx := [0, 1, 2]) rfl ?_
      refine Run.go rfl rfl rfl (sem_move ((Value.int .u64 (i5))) rfl ?_)
      refine Run.go rfl rfl rfl (sem_convI .u64 .i64 (i5) rfl TF.int_28 TF.int_3 ?_)
      refine Run.go rfl rfl rfl (sem_assign ((Value.int .i64 (IntKind.wrap .i64 (i5)))) rfl ?_)
      refine Run.region_end ?_
      refine Run.ret ⟨.inr rfl, ?_⟩
      exact hS.imp fun h' hq => ⟨(IntKind.wrap .i64 (i5)), rfl, hq⟩
set_option maxHeartbeats 4000000 in
theorem C_stylus_Reader_Int.of {B : RO} {p1 : Option Addr} {h : Heap} {Q : Int → Heap → Prop} (hS : S_stylus_Reader_Int B p1 h Q) : C_stylus_Reader_Int B p1 h Q := by
  unfold S_stylus_Reader_Int at hS
  unfold C_stylus_Reader_Int
  refine Spec.of_run Try.func19 (N := 14) (rs := [ResultVar.tmp 2]) rfl rfl rfl (Nat.le_of_ble_eq_true rfl) ?_
  refine Run.seq ?_
  refine Run.ops0 (idx := [0]) rfl ?_
  refine Run.go rfl rfl rfl (sem_assign ((Value.int .i64 (0))) rfl ?_)
  refine Run.region_end ?_
  refine Run.seq ?_
  refine Run.ops0 (idx := [0, 1, 2]) rfl ?_
  refine Run.go rfl rfl rfl (sem_move ((Value.pointer p1)) rfl ?_)
  refine Run.go rfl rfl rfl (sem_callL [(Value.pointer p1)] (TF.goes_73) rfl rfl (Spec.mono hS fun v h3 hv => ?_))
  obtain ⟨i4, rfl, hS⟩ := hv
  refine Run.go rfl rfl rfl (sem_assign ((Value.int .u64 (i4))) rfl ?_)
  refine Run.region_end ?_
  refine Run.seq ?_
  refine Run.ops0 (idx := [0, 1, 2, 3, 4, 5, 6, 7, 8]) rfl ?_
  refine Run.go rfl rfl rfl (sem_move ((Value.int .u64 (i4))) rfl ?_)
  obtain ⟨hi0, hS⟩ := hS
  refine Run.go rfl rfl rfl (sem_shr .u64 .u64 (i4) (1) rfl rfl hi0 ?_)
  refine Run.go rfl rfl rfl (sem_convI .u64 .i64 (Int.fdiv (i4) (2 ^ (min (Int.toNat (1)) (IntKind.bits .u64)))) rfl TF.int_28 TF.int_3 ?_)
  refine Run.go rfl rfl rfl (sem_move ((Value.int .u64 (i4))) rfl ?_)
  refine Run.go rfl rfl rfl (sem_binI .u64 (i4) (1) ((Value.int .u64 (IntKind.wrap .u64 ((BitVec.ofInt (IntKind.bits .u64) (i4) &&& BitVec.ofInt (IntKind.bits .u64) (1)).toNat : Int)))) rfl rfl rfl ?_)
  refine Run.go rfl rfl rfl (sem_convI .u64 .i64 (IntKind.wrap .u64 ((BitVec.ofInt (IntKind.bits .u64) (i4) &&& BitVec.ofInt (IntKind.bits .u64) (1)).toNat : Int)) rfl TF.int_28 TF.int_3 ?_)
  refine Run.go rfl rfl rfl (sem_neg .i64 (IntKind.wrap .i64 (IntKind.wrap .u64 ((BitVec.ofInt (IntKind.bits .u64) (i4) &&& BitVec.ofInt (IntKind.bits .u64) (1)).toNat : Int))) rfl ?_)
  refine Run.go rfl rfl rfl (sem_binI .i64 (IntKind.wrap .i64 (Int.fdiv (i4) (2 ^ (min (Int.toNat (1)) (IntKind.bits .u64))))) (IntKind.wrap .i64 (0 - (IntKind.wrap .i64 (IntKind.wrap .u64 ((BitVec.ofInt (IntKind.bits .u64) (i4) &&& BitVec.ofInt (IntKind.bits .u64) (1)).toNat : Int))))) ((Value.int .i64 (IntKind.wrap .i64 ((BitVec.ofInt (IntKind.bits .i64) (IntKind.wrap .i64 (Int.fdiv (i4) (2 ^ (min (Int.toNat (1)) (IntKind.bits .u64))))) ^^^ BitVec.ofInt (IntKind.bits .i64) (IntKind.wrap .i64 (0 - (IntKind.wrap .i64 (IntKind.wrap .u64 ((BitVec.ofInt (IntKind.bits .u64) (i4) &&& BitVec.ofInt (IntKind.bits .u64) (1)).toNat : Int)))))).toNat : Int)))) rfl rfl rfl ?_)
  refine Run.go rfl rfl rfl (sem_assign ((Value.int .i64 (IntKind.wrap .i64 ((BitVec.ofInt (IntKind.bits .i64) (IntKind.wrap .i64 (Int.fdiv (i4) (2 ^ (min (Int.toNat (1)) (IntKind.bits .u64))))) ^^^ BitVec.ofInt (IntKind.bits .i64) (IntKind.wrap .i64 (0 - (IntKind.wrap .i64 (IntKind.wrap .u64 ((BitVec.ofInt (IntKind.bits .u64) (i4) &&& BitVec.ofInt (IntKind.bits .u64) (1)).toNat : Int)))))).toNat : Int)))) rfl ?_)
  refine Run.region_end ?_
  refine Run.ret ⟨.inr rfl, ?_⟩
  exact hS.imp fun h' hq => ⟨(IntKind.wrap .i64 ((BitVec.ofInt (IntKind.bits .i64) (IntKind.wrap .i64 (Int.fdiv (i4) (2 ^ (min (Int.toNat (1)) (IntKind.bits .u64))))) ^^^ BitVec.ofInt (IntKind.bits .i64) (IntKind.wrap .i64 (0 - (IntKind.wrap .i64 (IntKind.wrap .u64 ((BitVec.ofInt (IntKind.bits .u64) (i4) &&& BitVec.ofInt (IntKind.bits .u64) (1)).toNat : Int)))))).toNat : Int)), rfl, hq⟩
set_option maxHeartbeats 4000000 in
theorem C_countermandref01_Signed.of {B : RO} {i1 : Int} {h : Heap} {Q : Int → Heap → Prop} (hS : S_countermandref01_Signed B i1 h Q) : C_countermandref01_Signed B i1 h Q := by
  unfold S_countermandref01_Signed at hS
  unfold C_countermandref01_Signed
  refine Spec.of_run Try.func20 (N := 14) (rs := [ResultVar.tmp 2]) rfl rfl rfl (Nat.le_of_ble_eq_true rfl) ?_
  refine Run.seq ?_
  refine Run.ops0 (idx := [0]) rfl ?_
  refine Run.go rfl rfl rfl (sem_assign ((Value.int .i64 (0))) rfl ?_)
  refine Run.region_end ?_
  refine Run.seq ?_
  refine Run.seq ?_
  refine Run.ops0 (idx := [0, 1, 2]) rfl ?_
  refine Run.go rfl rfl rfl (sem_move ((Value.int .u64 (i1))) rfl ?_)
  obtain ⟨hi0, hS⟩ := hS
  refine Run.go rfl rfl rfl (sem_binI .u64 (i1) (2) ((Value.int .u64 (Int.tmod (i1) (2)))) rfl rfl (binI_rem hi0) ?_)
  obtain ⟨hT, hF⟩ := hS
  by_cases hb3 : (Int.tmod (i1) (2) : Int) = 1
  · have hS := hT hb3; clear hT hF
    refine Run.go rfl rfl rfl (sem_binI .u64 (Int.tmod (i1) (2)) (1) (.bool true) rfl rfl (binI_eql_t hb3) ?_)
    refine Run.region_end ?_
    refine Run.condT rfl ?_
    refine Run.seq ?_
    refine Run.ops0 (idx := [0, 1, 2, 3, 4, 5]) rfl ?_
    refine Run.go rfl rfl rfl (sem_move ((Value.int .u64 (i1))) rfl ?_)
    obtain ⟨hi0, hS⟩ := hS
    refine Run.go rfl rfl rfl (sem_binI .u64 (i1) (2) ((Value.int .u64 (IntKind.wrap .u64 (Int.tdiv (i1) (2))))) rfl rfl (binI_quo hi0) ?_)
    refine Run.go rfl rfl rfl (sem_convI .u64 .i64 (IntKind.wrap .u64 (Int.tdiv (i1) (2))) rfl TF.int_28 TF.int_3 ?_)
    refine Run.go rfl rfl rfl (sem_neg .i64 (IntKind.wrap .i64 (IntKind.wrap .u64 (Int.tdiv (i1) (2)))) rfl ?_)
    refine Run.go rfl rfl rfl (sem_binI .i64 (IntKind.wrap .i64 (0 - (IntKind.wrap .i64 (IntKind.wrap .u64 (Int.tdiv (i1) (2)))))) (1) ((Value.int .i64 (IntKind.wrap .i64 ((IntKind.wrap .i64 (0 - (IntKind.wrap .i64 (IntKind.wrap .u64 (Int.tdiv (i1) (2)))))) - (1))))) rfl rfl rfl ?_)
    refine Run.go rfl rfl rfl (sem_assign ((Value.int .i64 (IntKind.wrap .i64 ((IntKind.wrap .i64 (0 - (IntKind.wrap .i64 (IntKind.wrap .u64 (Int.tdiv (i1) (2)))))) - (1))))) rfl ?_)
    refine Run.region_end ?_
    refine Run.ret ⟨.inr rfl, ?_⟩
    exact hS.imp fun h' hq => ⟨(IntKind.wrap .i64 ((IntKind.wrap .i64 (0 - (IntKind.wrap .i64 (IntKind.wrap .u64 (Int.tdiv (i1) (2)))))) - (1))), rfl, hq⟩
  · have hS := hF hb3; clear hT hF
    refine Run.go rfl rfl rfl (sem_binI .u64 (Int.tmod (i1) (2)) (1) (.bool false) rfl rfl (binI_eql_f hb3) ?_)
    refine Run.region_end ?_
    refine Run.condF rfl ?_
    refine Run.skip ?_
    refine Run.seq ?_
    refine Run.ops0 (idx := [0, 1, 2, 3]) rfl ?_
    refine Run.go rfl rfl rfl (sem_move ((Value.int .u64 (i1))) rfl ?_)
    obtain ⟨hi0, hS⟩ := hS
    refine Run.go rfl rfl rfl (sem_binI .u64 (i1) (2) ((Value.int .u64 (IntKind.wrap .u64 (Int.tdiv (i1) (2))))) rfl rfl (binI_quo hi0) ?_)
    refine Run.go rfl rfl rfl (sem_convI .u64 .i64 (IntKind.wrap .u64 (Int.tdiv (i1) (2))) rfl TF.int_28 TF.int_3 ?_)
    refine Run.go rfl rfl rfl (sem_assign ((Value.int .i64 (IntKind.wrap .i64 (IntKind.wrap .u64 (Int.tdiv (i1) (2)))))) rfl ?_)
    refine Run.region_end ?_
    refine Run.ret ⟨.inr rfl, ?_⟩
    exact hS.imp fun h' hq => ⟨(IntKind.wrap .i64 (IntKind.wrap .u64 (Int.tdiv (i1) (2)))), rfl, hq⟩
set_option maxHeartbeats 4000000 in
theorem C_stylus_Reader_Raw.of {B : RO} {p1 : Option Addr} {i2 : Int} {h : Heap} {Q : ByteArray → Heap → Prop} (hS : S_stylus_Reader_Raw B p1 i2 h Q) : C_stylus_Reader_Raw B p1 i2 h Q := by
  unfold S_stylus_Reader_Raw at hS
  unfold C_stylus_Reader_Raw
  refine Spec.of_run Try.func21 (N := 45) (rs := [ResultVar.tmp 4]) rfl rfl rfl (Nat.le_of_ble_eq_true rfl) ?_
  refine Run.seq ?_
  refine Run.ops0 (idx := [0]) rfl ?_
  refine Run.go rfl rfl rfl (sem_assign ((Value.string (ByteArray.mk #[]))) rfl ?_)
  refine Run.region_end ?_
  refine Run.seqJ (fun e h5 => Agree [(0, (Value.pointer p1)), (1, (Value.int .i64 (i2)))] e ∧ S_stylus_Reader_Raw_J1 B p1 i2 h5 Q) ?_ fun j4 => ?_
  · rintro e h5 ⟨hag, hS⟩
    refine Run.env hag ?_; clear hag
    refine Run.seq ?_
    refine Run.ops0 (idx := [0, 1, 2, 3, 4, 5, 6]) rfl ?_
    refine Run.go rfl rfl rfl (sem_move ((Value.pointer p1)) rfl ?_)
    obtain ⟨A6, e7, hS⟩ := hS
    refine Run.go rfl rfl rfl (sem_nilCheck A6 (congrArg Value.pointer e7) ?_)
    refine Run.go rfl rfl rfl (sem_fieldAddr A6 0 rfl TF.fld_137_0 ?_)
    obtain ⟨s8, hl, hS⟩ := hS
    refine Run.go rfl rfl rfl (sem_load1 A6 ((Value.string s8)) rfl TF.agg_9 hl ?_)
    refine Run.go rfl rfl rfl (sem_move ((Value.int .i64 (i2))) rfl ?_)
    obtain ⟨hi0, hi1, hi2, hS⟩ := hS
    refine Run.go rfl rfl rfl (sem_sliceStrI s8 (0) (i2) rfl TF.isStr_9 rfl ⟨_, rfl⟩ hi0 hi1 hi2 ?_)
    refine Run.go rfl rfl rfl (sem_assign ((Value.string (ByteArray.extract s8 (Int.toNat (0)) (Int.toNat (i2))))) rfl ?_)
    refine Run.region_end ?_
    refine Run.seq ?_
    refine Run.ops0 (idx := [0, 1, 2, 3, 4, 5, 6, 7, 8, 9]) rfl ?_
    refine Run.go rfl rfl rfl (sem_move ((Value.pointer p1)) rfl ?_)
    refine Run.go rfl rfl rfl (sem_move ((Value.pointer p1)) rfl ?_)
    obtain ⟨A9, e10, hS⟩ := hS
    refine Run.go rfl rfl rfl (sem_nilCheck A9 (congrArg Value.pointer e10) ?_)
    refine Run.go rfl rfl rfl (sem_fieldAddr A9 0 rfl TF.fld_137_0 ?_)
    obtain ⟨s11, hl, hS⟩ := hS
    refine Run.go rfl rfl rfl (sem_load1 A9 ((Value.string s11)) rfl TF.agg_9 hl ?_)
    refine Run.go rfl rfl rfl (sem_move ((Value.int .i64 (i2))) rfl ?_)
    obtain ⟨hi0, hi1, hi2, hS⟩ := hS
    refine Run.go rfl rfl rfl (sem_sliceStrI s11 (i2) ((ByteArray.size s11 : Nat)) rfl TF.isStr_9 ⟨_, rfl⟩ rfl hi0 hi1 hi2 ?_)
    obtain ⟨A12, e13, hS⟩ := hS
    refine Run.go rfl rfl rfl (sem_nilCheck A12 (congrArg Value.pointer e13) ?_)
    refine Run.go rfl rfl rfl (sem_fieldAddr A12 0 rfl TF.fld_137_0 ?_)
    obtain ⟨h14, hst, hS⟩ := hS
    refine Run.go rfl rfl rfl (sem_store1 A12 ((Value.string (ByteArray.extract s11 (Int.toNat (i2)) (Int.toNat ((ByteArray.size s11 : Nat)))))) h14 rfl rfl rfl TF.sz_9 hst ?_)
    refine Run.region_end ?_
    refine Run.seq ?_
    refine Run.ops0 (idx := [0, 1]) rfl ?_
    refine Run.go rfl rfl rfl (sem_move ((Value.string (ByteArray.extract s8 (Int.toNat (0)) (Int.toNat (i2))))) rfl ?_)
    refine Run.go rfl rfl rfl (sem_assign ((Value.string (ByteArray.extract s8 (Int.toNat (0)) (Int.toNat (i2))))) rfl ?_)
    refine Run.region_end ?_
    refine Run.ret ⟨.inr rfl, ?_⟩
    exact hS.imp fun h' hq => ⟨(ByteArray.extract s8 (Int.toNat (0)) (Int.toNat (i2))), rfl, hq⟩
  refine Run.seq ?_
  refine Run.ops0 (idx := [0, 1, 2, 3, 4, 5, 6, 7, 8, 9, 10, 11, 12, 13, 14, 15, 16, 17, 18, 19, 20]) rfl ?_
  refine Run.go rfl rfl rfl (sem_move ((Value.pointer p1)) rfl ?_)
  obtain ⟨hT, hF⟩ := hS
  by_cases hb15 : p1 = none
  · have hS := hT hb15; clear hT hF
    refine Run.go rfl rfl rfl (sem_ptrNilT p1 (.inl rfl) true rfl rfl TF.ptr_24 hb15 rfl ?_)
    refine Run.go rfl rfl rfl (sem_move ((Value.bool true)) rfl ?_)
    refine Run.no rfl rfl rfl ?_
    refine Run.no rfl rfl rfl ?_
    refine Run.no rfl rfl rfl ?_
    refine Run.no rfl rfl rfl ?_
    refine Run.go rfl rfl rfl (sem_pick true ((Value.bool true)) rfl rfl ?_)
    refine Run.go rfl rfl rfl (sem_move ((Value.bool true)) rfl ?_)
    refine Run.no rfl rfl rfl ?_
    refine Run.no rfl rfl rfl ?_
    refine Run.go rfl rfl rfl (sem_pick true ((Value.bool true)) rfl rfl ?_)
    refine Run.go rfl rfl rfl (sem_move ((Value.bool true)) rfl ?_)
    refine Run.no rfl rfl rfl ?_
    refine Run.no rfl rfl rfl ?_
    refine Run.no rfl rfl rfl ?_
    refine Run.no rfl rfl rfl ?_
    refine Run.no rfl rfl rfl ?_
    refine Run.no rfl rfl rfl ?_
    refine Run.no rfl rfl rfl ?_
    refine Run.go rfl rfl rfl (sem_pick true ((Value.bool true)) rfl rfl ?_)
    refine Run.region_end ?_
    refine Run.condT rfl ?_
    refine Run.seq ?_
    refine Run.ops0 (idx := [0, 1]) rfl ?_
    refine Run.go rfl rfl rfl (sem_move ((Value.pointer p1)) rfl ?_)
    refine Run.go rfl rfl rfl (sem_callL [(Value.pointer p1)] (TF.goes_26) rfl rfl (Spec.mono hS fun v h16 hv => ?_))
    obtain ⟨rfl, hS⟩ := hv
    refine Run.region_end ?_
    refine Run.seq ?_
    refine Run.ops0 (idx := [0]) rfl ?_
    refine Run.go rfl rfl rfl (sem_assign ((Value.string (ByteArray.mk #[]))) rfl ?_)
    refine Run.region_end ?_
    refine Run.ret ⟨.inr rfl, ?_⟩
    exact hS.imp fun h' hq => ⟨(ByteArray.mk #[]), rfl, hq⟩
  · have hS := hF hb15; clear hT hF
    refine Run.go rfl rfl rfl (sem_ptrNilF p1 (.inl rfl) false rfl rfl TF.ptr_24 hb15 rfl ?_)
    refine Run.go rfl rfl rfl (sem_move ((Value.bool false)) rfl ?_)
    refine Run.go rfl rfl rfl (sem_move ((Value.pointer p1)) rfl ?_)
    obtain ⟨A17, e18, hS⟩ := hS
    refine Run.go rfl rfl rfl (sem_nilCheck A17 (congrArg Value.pointer e18) ?_)
    refine Run.go rfl rfl rfl (sem_fieldAddr A17 1 rfl TF.fld_137_1 ?_)
    obtain ⟨b19, hl, hS⟩ := hS
    obtain ⟨hT, hF⟩ := hS
    cases b19
    · have hS := hF rfl; clear hT hF
      refine Run.go rfl rfl rfl (sem_load1 (Addr.add A17 1) (.bool false) rfl TF.agg_4 hl ?_)
      refine Run.go rfl rfl rfl (sem_pick false ((Value.bool false)) rfl rfl ?_)
      refine Run.go rfl rfl rfl (sem_move ((Value.bool false)) rfl ?_)
      refine Run.go rfl rfl rfl (sem_move ((Value.int .i64 (i2))) rfl ?_)
      obtain ⟨hT, hF⟩ := hS
      by_cases hb20 : (i2 : Int) < (0)
      · have hS := hT hb20; clear hT hF
        refine Run.go rfl rfl rfl (sem_binI .i64 (i2) (0) (.bool true) rfl rfl (binI_lss_t hb20) ?_)
        refine Run.go rfl rfl rfl (sem_pick false ((Value.bool true)) rfl rfl ?_)
        refine Run.go rfl rfl rfl (sem_move ((Value.bool true)) rfl ?_)
        refine Run.no rfl rfl rfl ?_
        refine Run.no rfl rfl rfl ?_
        refine Run.no rfl rfl rfl ?_
        refine Run.no rfl rfl rfl ?_
        refine Run.no rfl rfl rfl ?_
        refine Run.no rfl rfl rfl ?_
        refine Run.no rfl rfl rfl ?_
        refine Run.go rfl rfl rfl (sem_pick true ((Value.bool true)) rfl rfl ?_)
        refine Run.region_end ?_
        refine Run.condT rfl ?_
        refine Run.seq ?_
        refine Run.ops0 (idx := [0, 1]) rfl ?_
        refine Run.go rfl rfl rfl (sem_move ((Value.pointer p1)) rfl ?_)
        refine Run.go rfl rfl rfl (sem_callL [(Value.pointer p1)] (TF.goes_26) rfl rfl (Spec.mono hS fun v h21 hv => ?_))
        obtain ⟨rfl, hS⟩ := hv
        refine Run.region_end ?_
        refine Run.seq ?_
        refine Run.ops0 (idx := [0]) rfl ?_
        refine Run.go rfl rfl rfl (sem_assign ((Value.string (ByteArray.mk #[]))) rfl ?_)
        refine Run.region_end ?_
        refine Run.ret ⟨.inr rfl, ?_⟩
        exact hS.imp fun h' hq => ⟨(ByteArray.mk #[]), rfl, hq⟩
      · have hS := hF hb20; clear hT hF
        refine Run.go rfl rfl rfl (sem_binI .i64 (i2) (0) (.bool false) rfl rfl (binI_lss_f hb20) ?_)
        refine Run.go rfl rfl rfl (sem_pick false ((Value.bool false)) rfl rfl ?_)
        refine Run.go rfl rfl rfl (sem_move ((Value.bool false)) rfl ?_)
        refine Run.go rfl rfl rfl (sem_move ((Value.int .i64 (i2))) rfl ?_)
        refine Run.go rfl rfl rfl (sem_move ((Value.pointer p1)) rfl ?_)
        obtain ⟨A22, e23, hS⟩ := hS
        refine Run.go rfl rfl rfl (sem_nilCheck A22 (congrArg Value.pointer e23) ?_)
        refine Run.go rfl rfl rfl (sem_fieldAddr A22 0 rfl TF.fld_137_0 ?_)
        obtain ⟨s24, hl, hS⟩ := hS
        refine Run.go rfl rfl rfl (sem_load1 A22 ((Value.string s24)) rfl TF.agg_9 hl ?_)
        refine Run.go rfl rfl rfl (sem_lenStr s24 rfl TF.isStr_9 ?_)
        obtain ⟨hT, hF⟩ := hS
        by_cases hb25 : (i2 : Int) > ((ByteArray.size s24 : Nat))
        · have hS := hT hb25; clear hT hF
          refine Run.go rfl rfl rfl (sem_binI .i64 (i2) ((ByteArray.size s24 : Nat)) (.bool true) rfl rfl (binI_gtr_t hb25) ?_)
          refine Run.go rfl rfl rfl (sem_pick false ((Value.bool true)) rfl rfl ?_)
          refine Run.region_end ?_
          refine Run.condT rfl ?_
          refine Run.seq ?_
          refine Run.ops0 (idx := [0, 1]) rfl ?_
          refine Run.go rfl rfl rfl (sem_move ((Value.pointer p1)) rfl ?_)
          refine Run.go rfl rfl rfl (sem_callL [(Value.pointer p1)] (TF.goes_26) rfl rfl (Spec.mono hS fun v h26 hv => ?_))
          obtain ⟨rfl, hS⟩ := hv
          refine Run.region_end ?_
          refine Run.seq ?_
          refine Run.ops0 (idx := [0]) rfl ?_
          refine Run.go rfl rfl rfl (sem_assign ((Value.string (ByteArray.mk #[]))) rfl ?_)
          refine Run.region_end ?_
          refine Run.ret ⟨.inr rfl, ?_⟩
          exact hS.imp fun h' hq => ⟨(ByteArray.mk #[]), rfl, hq⟩
        · have hS := hF hb25; clear hT hF
          refine Run.go rfl rfl rfl (sem_binI .i64 (i2) ((ByteArray.size s24 : Nat)) (.bool false) rfl rfl (binI_gtr_f hb25) ?_)
          refine Run.go rfl rfl rfl (sem_pick false ((Value.bool false)) rfl rfl ?_)
          refine Run.region_end ?_
          refine Run.condF rfl ?_
          refine Run.skip ?_
          exact Run.of_fin (hS.imp fun h' hS => j4 _ _ ⟨⟨rfl, rfl, trivial⟩, hS⟩)
    · have hS := hT rfl; clear hT hF
      refine Run.go rfl rfl rfl (sem_load1 (Addr.add A17 1) (.bool true) rfl TF.agg_4 hl ?_)
      refine Run.go rfl rfl rfl (sem_pick false ((Value.bool true)) rfl rfl ?_)
      refine Run.go rfl rfl rfl (sem_move ((Value.bool true)) rfl ?_)
      refine Run.no rfl rfl rfl ?_
      refine Run.no rfl rfl rfl ?_
      refine Run.go rfl rfl rfl (sem_pick true ((Value.bool true)) rfl rfl ?_)
      refine Run.go rfl rfl rfl (sem_move ((Value.bool true)) rfl ?_)
      refine Run.no rfl rfl rfl ?_
      refine Run.no rfl rfl rfl ?_
      refine Run.no rfl rfl rfl ?_
      refine Run.no rfl rfl rfl ?_
      refine Run.no rfl rfl rfl ?_
      refine Run.no rfl rfl rfl ?_
      refine Run.no rfl rfl rfl ?_
      refine Run.go rfl rfl rfl (sem_pick true ((Value.bool true)) rfl rfl ?_)
      refine Run.region_end ?_
      refine Run.condT rfl ?_
      refine Run.seq ?_
      refine Run.ops0 (idx := [0, 1]) rfl ?_
      refine Run.go rfl rfl rfl (sem_move ((Value.pointer p1)) rfl ?_)
      refine Run.go rfl rfl rfl (sem_callL [(Value.pointer p1)] (TF.goes_26) rfl rfl (Spec.mono hS fun v h27 hv => ?_))
      obtain ⟨rfl, hS⟩ := hv
      refine Run.region_end ?_
      refine Run.seq ?_
      refine Run.ops0 (idx := [0]) rfl ?_
      refine Run.go rfl rfl rfl (sem_assign ((Value.string (ByteArray.mk #[]))) rfl ?_)
      refine Run.region_end ?_
      refine Run.ret ⟨.inr rfl, ?_⟩
      exact hS.imp fun h' hq => ⟨(ByteArray.mk #[]), rfl, hq⟩
set_option maxHeartbeats 4000000 in
theorem C_stylus_Reader_Text.of {B : RO} {p1 : Option Addr} {i2 : Int} {h : Heap} {Q : ByteArray → Heap → Prop} (hS : S_stylus_Reader_Text B p1 i2 h Q) : C_stylus_Reader_Text B p1 i2 h Q := by
  unfold S_stylus_Reader_Text at hS
  unfold C_stylus_Reader_Text
  refine Spec.of_run Try.func22 (N := 10) (rs := [ResultVar.tmp 4]) rfl rfl rfl (Nat.le_of_ble_eq_true rfl) ?_
  refine Run.seq ?_
  refine Run.ops0 (idx := [0]) rfl ?_
  refine Run.go rfl rfl rfl (sem_assign ((Value.string (ByteArray.mk #[]))) rfl ?_)
  refine Run.region_end ?_
  refine Run.seq ?_
  refine Run.ops0 (idx := [0, 1, 2, 3, 4, 5]) rfl ?_
  refine Run.go rfl rfl rfl (sem_move ((Value.pointer p1)) rfl ?_)
  refine Run.go rfl rfl rfl (sem_move ((Value.pointer p1)) rfl ?_)
  refine Run.go rfl rfl rfl (sem_move ((Value.int .i64 (i2))) rfl ?_)
  refine Run.go rfl rfl rfl (sem_callL [(Value.pointer p1), (Value.int .i64 (i2))] (TF.goes_18) rfl rfl (Spec.mono hS fun v h4 hv => ?_))
  obtain ⟨i5, rfl, hS⟩ := hv
  refine Run.go rfl rfl rfl (sem_callL [(Value.pointer p1), (Value.int .i64 (i5))] (TF.goes_21) rfl rfl (Spec.mono hS fun v h6 hv => ?_))
  obtain ⟨s7, rfl, hS⟩ := hv
  refine Run.go rfl rfl rfl (sem_assign ((Value.string s7)) rfl ?_)
  refine Run.region_end ?_
  refine Run.ret ⟨.inr rfl, ?_⟩
  exact hS.imp fun h' hq => ⟨s7, rfl, hq⟩
set_option maxHeartbeats 4000000 in
theorem C_stylus_Reader_Bad.of {B : RO} {p1 : Option Addr} {h : Heap} {Q : Bool → Heap → Prop} (hS : S_stylus_Reader_Bad B p1 h Q) : C_stylus_Reader_Bad B p1 h Q := by
  unfold S_stylus_Reader_Bad at hS
  unfold C_stylus_Reader_Bad
  refine Spec.of_run Try.func23 (N := 11) (rs := [ResultVar.tmp 2]) rfl rfl rfl (Nat.le_of_ble_eq_true rfl) ?_
  refine Run.seq ?_
  refine Run.ops0 (idx := [0]) rfl ?_
  refine Run.go rfl rfl rfl (sem_assign ((Value.bool false)) rfl ?_)
  refine Run.region_end ?_
  refine Run.seq ?_
  refine Run.ops0 (idx := [0, 1, 2, 3, 4, 5, 6, 7, 8]) rfl ?_
  refine Run.go rfl rfl rfl (sem_move ((Value.pointer p1)) rfl ?_)
  obtain ⟨hT, hF⟩ := hS
  by_cases hb3 : p1 = none
  · have hS := hT hb3; clear hT hF
    refine Run.go rfl rfl rfl (sem_ptrNilT p1 (.inl rfl) true rfl rfl TF.ptr_24 hb3 rfl ?_)
    refine Run.go rfl rfl rfl (sem_move ((Value.bool true)) rfl ?_)
    refine Run.no rfl rfl rfl ?_
    refine Run.no rfl rfl rfl ?_
    refine Run.no rfl rfl rfl ?_
    refine Run.no rfl rfl rfl ?_
    refine Run.go rfl rfl rfl (sem_pick true ((Value.bool true)) rfl rfl ?_)
    refine Run.go rfl rfl rfl (sem_assign ((Value.bool true)) rfl ?_)
    refine Run.region_end ?_
    refine Run.ret ⟨.inr rfl, ?_⟩
    exact hS.imp fun h' hq => ⟨(true), rfl, hq⟩
  · have hS := hF hb3; clear hT hF
    refine Run.go rfl rfl rfl (sem_ptrNilF p1 (.inl rfl) false rfl rfl TF.ptr_24 hb3 rfl ?_)
    refine Run.go rfl rfl rfl (sem_move ((Value.bool false)) rfl ?_)
    refine Run.go rfl rfl rfl (sem_move ((Value.pointer p1)) rfl ?_)
    obtain ⟨A4, e5, hS⟩ := hS
    refine Run.go rfl rfl rfl (sem_nilCheck A4 (congrArg Value.pointer e5) ?_)
    refine Run.go rfl rfl rfl (sem_fieldAddr A4 1 rfl TF.fld_137_1 ?_)
    obtain ⟨b6, hl, hS⟩ := hS
    refine Run.go rfl rfl rfl (sem_load1 (Addr.add A4 1) ((Value.bool b6)) rfl TF.agg_4 hl ?_)
    refine Run.go rfl rfl rfl (sem_pick false ((Value.bool b6)) rfl rfl ?_)
    refine Run.go rfl rfl rfl (sem_assign ((Value.bool b6)) rfl ?_)
    refine Run.region_end ?_
    refine Run.ret ⟨.inr rfl, ?_⟩
    exact hS.imp fun h' hq => ⟨(b6), rfl, hq⟩
set_option maxHeartbeats 4000000 in
theorem C_stylus_Reader_Left.of {B : RO} {p1 : Option Addr} {h : Heap} {Q : Int → Heap → Prop} (hS : S_stylus_Reader_Left B p1 h Q) : C_stylus_Reader_Left B p1 h Q := by
  unfold S_stylus_Reader_Left at hS
  unfold C_stylus_Reader_Left
  refine Spec.of_run Try.func24 (N := 10) (rs := [ResultVar.tmp 2]) rfl rfl rfl (Nat.le_of_ble_eq_true rfl) ?_
  refine Run.seq ?_
  refine Run.ops0 (idx := [0]) rfl ?_
  refine Run.go rfl rfl rfl (sem_assign ((Value.int .i64 (0))) rfl ?_)
  refine Run.region_end ?_
  refine Run.seq ?_
  refine Run.seq ?_
  refine Run.ops0 (idx := [0, 1]) rfl ?_
  refine Run.go rfl rfl rfl (sem_move ((Value.pointer p1)) rfl ?_)
  obtain ⟨hT, hF⟩ := hS
  by_cases hb3 : p1 = none
  · have hS := hT hb3; clear hT hF
    refine Run.go rfl rfl rfl (sem_ptrNilT p1 (.inl rfl) true rfl rfl TF.ptr_24 hb3 rfl ?_)
    refine Run.region_end ?_
    refine Run.condT rfl ?_
    refine Run.seq ?_
    refine Run.ops0 (idx := [0]) rfl ?_
    refine Run.go rfl rfl rfl (sem_assign ((Value.int .i64 (0))) rfl ?_)
    refine Run.region_end ?_
    refine Run.ret ⟨.inr rfl, ?_⟩
    exact hS.imp fun h' hq => ⟨(0), rfl, hq⟩
  · have hS := hF hb3; clear hT hF
    refine Run.go rfl rfl rfl (sem_ptrNilF p1 (.inl rfl) false rfl rfl TF.ptr_24 hb3 rfl ?_)
    refine Run.region_end ?_
    refine Run.condF rfl ?_
    refine Run.skip ?_
    refine Run.seq ?_
    refine Run.ops0 (idx := [0, 1, 2, 3, 4, 5]) rfl ?_
    refine Run.go rfl rfl rfl (sem_move ((Value.pointer p1)) rfl ?_)
    obtain ⟨A4, e5, hS⟩ := hS
    refine Run.go rfl rfl rfl (sem_nilCheck A4 (congrArg Value.pointer e5) ?_)
    refine Run.go rfl rfl rfl (sem_fieldAddr A4 0 rfl TF.fld_137_0 ?_)
    obtain ⟨s6, hl, hS⟩ := hS
    refine Run.go rfl rfl rfl (sem_load1 A4 ((Value.string s6)) rfl TF.agg_9 hl ?_)
    refine Run.go rfl rfl rfl (sem_lenStr s6 rfl TF.isStr_9 ?_)
    refine Run.go rfl rfl rfl (sem_assign ((Value.int .i64 ((ByteArray.size s6 : Nat)))) rfl ?_)
    refine Run.region_end ?_
    refine Run.ret ⟨.inr rfl, ?_⟩
    exact hS.imp fun h' hq => ⟨((ByteArray.size s6 : Nat)), rfl, hq⟩
set_option maxHeartbeats 4000000 in
theorem C_stylus_Reader_Over.of {B : RO} {p1 : Option Addr} {h : Heap} {Q : Bool → Heap → Prop} (hS : S_stylus_Reader_Over B p1 h Q) : C_stylus_Reader_Over B p1 h Q := by
  unfold S_stylus_Reader_Over at hS
  unfold C_stylus_Reader_Over
  refine Spec.of_run Try.func25 (N := 19) (rs := [ResultVar.tmp 2]) rfl rfl rfl (Nat.le_of_ble_eq_true rfl) ?_
  refine Run.seq ?_
  refine Run.ops0 (idx := [0]) rfl ?_
  refine Run.go rfl rfl rfl (sem_assign ((Value.bool false)) rfl ?_)
  refine Run.region_end ?_
  refine Run.seq ?_
  refine Run.ops0 (idx := [0, 1, 2, 3, 4, 5, 6, 7, 8, 9, 10, 11, 12, 13, 14, 15, 16]) rfl ?_
  refine Run.go rfl rfl rfl (sem_move ((Value.pointer p1)) rfl ?_)
  obtain ⟨hT, hF⟩ := hS
  by_cases hb3 : p1 = none
  · have hS := hT hb3; clear hT hF
    refine Run.go rfl rfl rfl (sem_ptrNilT p1 (.inr rfl) false rfl rfl TF.ptr_24 hb3 rfl ?_)
    refine Run.go rfl rfl rfl (sem_move ((Value.bool false)) rfl ?_)
    refine Run.no rfl rfl rfl ?_
    refine Run.no rfl rfl rfl ?_
    refine Run.no rfl rfl rfl ?_
    refine Run.no rfl rfl rfl ?_
    refine Run.no rfl rfl rfl ?_
    refine Run.go rfl rfl rfl (sem_pick false ((Value.bool false)) rfl rfl ?_)
    refine Run.go rfl rfl rfl (sem_move ((Value.bool false)) rfl ?_)
    refine Run.no rfl rfl rfl ?_
    refine Run.no rfl rfl rfl ?_
    refine Run.no rfl rfl rfl ?_
    refine Run.no rfl rfl rfl ?_
    refine Run.no rfl rfl rfl ?_
    refine Run.go rfl rfl rfl (sem_pick false ((Value.bool false)) rfl rfl ?_)
    refine Run.go rfl rfl rfl (sem_assign ((Value.bool false)) rfl ?_)
    refine Run.region_end ?_
    refine Run.ret ⟨.inr rfl, ?_⟩
    exact hS.imp fun h' hq => ⟨(false), rfl, hq⟩
  · have hS := hF hb3; clear hT hF
    refine Run.go rfl rfl rfl (sem_ptrNilF p1 (.inr rfl) true rfl rfl TF.ptr_24 hb3 rfl ?_)
    refine Run.go rfl rfl rfl (sem_move ((Value.bool true)) rfl ?_)
    refine Run.go rfl rfl rfl (sem_move ((Value.pointer p1)) rfl ?_)
    obtain ⟨A4, e5, hS⟩ := hS
    refine Run.go rfl rfl rfl (sem_nilCheck A4 (congrArg Value.pointer e5) ?_)
    refine Run.go rfl rfl rfl (sem_fieldAddr A4 1 rfl TF.fld_137_1 ?_)
    obtain ⟨b6, hl, hS⟩ := hS
    obtain ⟨hT, hF⟩ := hS
    cases b6
    · have hS := hF rfl; clear hT hF
      refine Run.go rfl rfl rfl (sem_load1 (Addr.add A4 1) (.bool false) rfl TF.agg_4 hl ?_)
      refine Run.go rfl rfl rfl (sem_not false rfl ?_)
      refine Run.go rfl rfl rfl (sem_pick true ((Value.bool true)) rfl rfl ?_)
      refine Run.go rfl rfl rfl (sem_move ((Value.bool true)) rfl ?_)
      refine Run.go rfl rfl rfl (sem_move ((Value.pointer p1)) rfl ?_)
      obtain ⟨A7, e8, hS⟩ := hS
      refine Run.go rfl rfl rfl (sem_nilCheck A7 (congrArg Value.pointer e8) ?_)
      refine Run.go rfl rfl rfl (sem_fieldAddr A7 0 rfl TF.fld_137_0 ?_)
      obtain ⟨s9, hl, hS⟩ := hS
      refine Run.go rfl rfl rfl (sem_load1 A7 ((Value.string s9)) rfl TF.agg_9 hl ?_)
      refine Run.go rfl rfl rfl (sem_strEq s9 (ByteArray.mk #[]) rfl rfl ?_)
      refine Run.go rfl rfl rfl (sem_pick true ((Value.bool (decide (s9 = (ByteArray.mk #[]))))) rfl rfl ?_)
      refine Run.go rfl rfl rfl (sem_assign ((Value.bool (decide (s9 = (ByteArray.mk #[]))))) rfl ?_)
      refine Run.region_end ?_
      refine Run.ret ⟨.inr rfl, ?_⟩
      exact hS.imp fun h' hq => ⟨((decide (s9 = (ByteArray.mk #[])))), rfl, hq⟩
    · have hS := hT rfl; clear hT hF
      refine Run.go rfl rfl rfl (sem_load1 (Addr.add A4 1) (.bool true) rfl TF.agg_4 hl ?_)
      refine Run.go rfl rfl rfl (sem_not true rfl ?_)
      refine Run.go rfl rfl rfl (sem_pick true ((Value.bool false)) rfl rfl ?_)
      refine Run.go rfl rfl rfl (sem_move ((Value.bool false)) rfl ?_)
      refine Run.no rfl rfl rfl ?_
      refine Run.no rfl rfl rfl ?_
      refine Run.no rfl rfl rfl ?_
      refine Run.no rfl rfl rfl ?_
      refine Run.no rfl rfl rfl ?_
      refine Run.go rfl rfl rfl (sem_pick false ((Value.bool false)) rfl rfl ?_)
      refine Run.go rfl rfl rfl (sem_assign ((Value.bool false)) rfl ?_)
      refine Run.region_end ?_
      refine Run.ret ⟨.inr rfl, ?_⟩
      exact hS.imp fun h' hq => ⟨(false), rfl, hq⟩
set_option maxHeartbeats 4000000 in
theorem C_stylus_Reader_Spoil.of {B : RO} {p1 : Option Addr} {h : Heap} {Q : Heap → Prop} (hS : S_stylus_Reader_Spoil B p1 h Q) : C_stylus_Reader_Spoil B p1 h Q := by
  unfold S_stylus_Reader_Spoil at hS
  unfold C_stylus_Reader_Spoil
  refine Spec.of_run Try.func26 (N := 10) (rs := []) rfl rfl rfl (Nat.le_of_ble_eq_true rfl) ?_
  refine Run.seq ?_
  refine Run.ops0 (idx := [0, 1]) rfl ?_
  refine Run.go rfl rfl rfl (sem_move ((Value.pointer p1)) rfl ?_)
  obtain ⟨hT, hF⟩ := hS
  by_cases hb2 : p1 = none
  · have hS := hT hb2; clear hT hF
    refine Run.go rfl rfl rfl (sem_ptrNilT p1 (.inr rfl) false rfl rfl TF.ptr_24 hb2 rfl ?_)
    refine Run.region_end ?_
    refine Run.condF rfl ?_
    refine Run.skip ?_
    refine Run.fall ⟨.inl rfl, ?_⟩
    exact hS.imp fun h' hq => ⟨rfl, hq⟩
  · have hS := hF hb2; clear hT hF
    refine Run.go rfl rfl rfl (sem_ptrNilF p1 (.inr rfl) true rfl rfl TF.ptr_24 hb2 rfl ?_)
    refine Run.region_end ?_
    refine Run.condT rfl ?_
    refine Run.ops0 (idx := [0, 1, 2, 3, 4, 5, 6, 7]) rfl ?_
    refine Run.go rfl rfl rfl (sem_move ((Value.pointer p1)) rfl ?_)
    refine Run.go rfl rfl rfl (sem_move ((Value.pointer p1)) rfl ?_)
    obtain ⟨A3, e4, hS⟩ := hS
    refine Run.go rfl rfl rfl (sem_nilCheck A3 (congrArg Value.pointer e4) ?_)
    refine Run.go rfl rfl rfl (sem_fieldAddr A3 0 rfl TF.fld_137_0 ?_)
    obtain ⟨h5, hst, hS⟩ := hS
    refine Run.go rfl rfl rfl (sem_store1 A3 ((Value.string (ByteArray.mk #[]))) h5 rfl rfl rfl TF.sz_9 hst ?_)
    obtain ⟨A6, e7, hS⟩ := hS
    refine Run.go rfl rfl rfl (sem_nilCheck A6 (congrArg Value.pointer e7) ?_)
    refine Run.go rfl rfl rfl (sem_fieldAddr A6 1 rfl TF.fld_137_1 ?_)
    obtain ⟨h8, hst, hS⟩ := hS
    refine Run.go rfl rfl rfl (sem_store1 (Addr.add A6 1) ((Value.bool true)) h8 rfl rfl rfl TF.sz_4 hst ?_)
    refine Run.region_end ?_
    refine Run.fall ⟨.inl rfl, ?_⟩
    exact hS.imp fun h' hq => ⟨rfl, hq⟩
set_option maxHeartbeats 4000000 in
theorem C_stylus_Stylus_Text.of {B : RO} {p1 : Option Addr} {a2 : Option Addr} {n3 : Nat} {c4 : Nat} {h : Heap} {Q : Heap → Prop} (hS : S_stylus_Stylus_Text B p1 a2 n3 c4 h Q) : C_stylus_Stylus_Text B p1 a2 n3 c4 h Q := by
  unfold S_stylus_Stylus_Text at hS
  unfold C_stylus_Stylus_Text
  refine Spec.of_run Try.func27 (N := 21) (rs := []) rfl rfl rfl (Nat.le_of_ble_eq_true rfl) ?_
  refine Run.seq ?_
  refine Run.ops0 (idx := [0, 1, 2]) rfl ?_
  refine Run.go rfl rfl rfl (sem_move ((Value.slice a2 n3 c4)) rfl ?_)
  refine Run.go rfl rfl rfl (sem_lenSl a2 n3 c4 rfl TF.sl_36 ?_)
  refine Run.go rfl rfl rfl (sem_move ((Value.int .i64 (0))) rfl ?_)
  refine Run.region_end ?_
  refine Run.block ?_
  obtain ⟨J10, m8, h0, hS⟩ := hS
  refine Run.of_fin (h0.imp fun h' h0 => ?_)
  refine Run.loop (σ := Int × Nat) (fun x e h => J10 x.1 x.2 h ∧ Agree [(0, (Value.pointer p1)), (6, (Value.slice a2 n3 c4)), (7, (Value.int .i64 ((n3 : Nat)))), (8, (Value.int .i64 (x.1)))] e) (fun x => x.2) ((0), m8) ⟨h0, ⟨rfl, rfl, rfl, rfl, trivial⟩⟩ ?_; clear h0
  rintro ⟨i5, m7⟩ e h6 ⟨hJ, hag⟩ ih9
  have hS := hS i5 m7 h6 hJ; clear hJ
  refine Run.env hag ?_; clear hag
  refine Run.seq ?_
  refine Run.ops0 (idx := [0]) rfl ?_
  obtain ⟨hT, hF⟩ := hS
  by_cases hb11 : (i5 : Int) < ((n3 : Nat))
  · have hS := hT hb11; clear hT hF
    refine Run.go rfl rfl rfl (sem_binI .i64 (i5) ((n3 : Nat)) (.bool true) rfl rfl (binI_lss_t hb11) ?_)
    refine Run.region_end ?_
    refine Run.seq ?_
    refine Run.condT rfl ?_
    refine Run.skip ?_
    refine Run.seq ?_
    refine Run.block ?_
    refine Run.seq ?_
    refine Run.ops0 (idx := [0, 1, 2]) rfl ?_
    obtain ⟨A12, e13, hi0, hi1, hS⟩ := hS
    refine Run.go rfl rfl rfl (sem_indexAddrS A12 n3 c4 .i64 (i5) (congrArg (fun a => Value.slice a n3 c4) e13) rfl TF.slc_36 hi0 hi1 ?_)
    obtain ⟨s14, hl, hS⟩ := hS
    refine Run.go rfl rfl rfl (sem_load1 (Addr.add A12 (Int.toNat (i5) * 1)) ((Value.string s14)) rfl TF.agg_9 hl ?_)
    refine Run.go rfl rfl rfl (sem_assign ((Value.string s14)) rfl ?_)
    refine Run.region_end ?_
    refine Run.seq ?_
    refine Run.ops0 (idx := [0, 1, 2, 3, 4]) rfl ?_
    refine Run.go rfl rfl rfl (sem_move ((Value.pointer p1)) rfl ?_)
    refine Run.go rfl rfl rfl (sem_move ((Value.string s14)) rfl ?_)
    refine Run.go rfl rfl rfl (sem_lenStr s14 rfl TF.isStr_9 ?_)
    refine Run.go rfl rfl rfl (sem_buildSliceL [(0, (Value.int .i64 ((ByteArray.size s14 : Nat))))] [(Value.int .i64 ((ByteArray.size s14 : Nat)))] TF.slc_84 TF.zero_3 rfl (by decide) (by decide) rfl rfl (fun k15 hb1 hb2 h16 hb3 => ?_))
    have hS := hS k15 hb1 hb2 h16 hb3
    refine Run.go rfl rfl rfl (sem_callL [(Value.pointer p1), (Value.slice (some ⟨k15, 0, none⟩) 1 1)] (TF.goes_70) rfl rfl (Spec.mono hS fun v h17 hv => ?_))
    obtain ⟨rfl, hS⟩ := hv
    refine Run.region_end ?_
    refine Run.ops0 (idx := [0, 1, 2]) rfl ?_
    refine Run.go rfl rfl rfl (sem_move ((Value.pointer p1)) rfl ?_)
    refine Run.go rfl rfl rfl (sem_move ((Value.string s14)) rfl ?_)
    refine Run.go rfl rfl rfl (sem_callL [(Value.pointer p1), (Value.string s14)] (TF.goes_74) rfl rfl (Spec.mono hS fun v h18 hv => ?_))
    obtain ⟨rfl, hS⟩ := hv
    refine Run.region_end ?_
    refine Run.inBlock ?_
    refine Run.ops0 (idx := [0, 1]) rfl ?_
    refine Run.go rfl rfl rfl (sem_binI .i64 (i5) (1) ((Value.int .i64 (IntKind.wrap .i64 ((i5) + (1))))) rfl rfl rfl ?_)
    refine Run.go rfl rfl rfl (sem_move ((Value.int .i64 (IntKind.wrap .i64 ((i5) + (1))))) rfl ?_)
    refine Run.region_end ?_
    exact Run.of_fin (hS.imp fun h' ⟨m', hm, hS⟩ => ih9 ((IntKind.wrap .i64 ((i5) + (1))), m') _ _ ⟨hS, ⟨rfl, rfl, rfl, rfl, trivial⟩⟩ hm)
  · have hS := hF hb11; clear hT hF
    refine Run.go rfl rfl rfl (sem_binI .i64 (i5) ((n3 : Nat)) (.bool false) rfl rfl (binI_lss_f hb11) ?_)
    refine Run.region_end ?_
    refine Run.seq ?_
    refine Run.condF rfl ?_
    refine Run.exit rfl ?_
    refine Run.fall ⟨.inl rfl, ?_⟩
    exact hS.imp fun h' hq => ⟨rfl, hq⟩
set_option maxHeartbeats 4000000 in
theorem C_stylus_Stylus_Bytes.of {B : RO} {p1 : Option Addr} {h : Heap} {Q : ByteArray → Heap → Prop} (hS : S_stylus_Stylus_Bytes B p1 h Q) : C_stylus_Stylus_Bytes B p1 h Q := by
  unfold S_stylus_Stylus_Bytes at hS
  unfold C_stylus_Stylus_Bytes
  refine Spec.of_run Try.func28 (N := 8) (rs := [ResultVar.tmp 2]) rfl rfl rfl (Nat.le_of_ble_eq_true rfl) ?_
  refine Run.seq ?_
  refine Run.ops0 (idx := [0]) rfl ?_
  refine Run.go rfl rfl rfl (sem_assign ((Value.string (ByteArray.mk #[]))) rfl ?_)
  refine Run.region_end ?_
  refine Run.seq ?_
  refine Run.ops0 (idx := [0, 1, 2, 3, 4, 5]) rfl ?_
  refine Run.go rfl rfl rfl (sem_move ((Value.pointer p1)) rfl ?_)
  obtain ⟨A3, e4, hS⟩ := hS
  refine Run.go rfl rfl rfl (sem_nilCheck A3 (congrArg Value.pointer e4) ?_)
  refine Run.go rfl rfl rfl (sem_fieldAddr A3 0 rfl TF.fld_40_0 ?_)
  refine Run.ldSl hS fun a5 n6 c7 h8 hl hS => ?_
  refine Run.go rfl rfl rfl (sem_load1 A3 ((Value.slice a5 n6 c7)) rfl TF.agg_38 hl ?_)
  refine Run.go rfl rfl rfl (sem_convW ((Value.slice a5 n6 c7)) rfl (semH_mono (fun v h10 hv => ?_) hS))
  obtain ⟨s9, rfl, hS⟩ := hv
  refine Run.go rfl rfl rfl (sem_assign ((Value.string s9)) rfl ?_)
  refine Run.region_end ?_
  refine Run.ret ⟨.inr rfl, ?_⟩
  exact hS.imp fun h' hq => ⟨s9, rfl, hq⟩
set_option maxHeartbeats 4000000 in
theorem C_countermandlaw01_great.of {B : RO} {a1 : Option Addr} {n2 : Nat} {c3 : Nat} {h : Heap} {Q : Bool → Heap → Prop} (hS : S_countermandlaw01_great B a1 n2 c3 h Q) : C_countermandlaw01_great B a1 n2 c3 h Q := by
  unfold S_countermandlaw01_great at hS
  unfold C_countermandlaw01_great
  refine Spec.of_run Try.func29 (N := 27) (rs := [ResultVar.tmp 2]) rfl rfl rfl (Nat.le_of_ble_eq_true rfl) ?_
  refine Run.seq ?_
  refine Run.ops0 (idx := [0]) rfl ?_
  refine Run.go rfl rfl rfl (sem_assign ((Value.bool false)) rfl ?_)
  refine Run.region_end ?_
  refine Run.seq ?_
  refine Run.seq ?_
  refine Run.ops0 (idx := [0, 1, 2]) rfl ?_
  refine Run.go rfl rfl rfl (sem_move ((Value.slice a1 n2 c3)) rfl ?_)
  refine Run.go rfl rfl rfl (sem_lenSl a1 n2 c3 rfl TF.sl_45 ?_)
  obtain ⟨hT, hF⟩ := hS
  by_cases hb5 : ((n2 : Nat) : Int) > (50)
  · have hS := hT hb5; clear hT hF
    refine Run.go rfl rfl rfl (sem_binI .i64 ((n2 : Nat)) (50) (.bool true) rfl rfl (binI_gtr_t hb5) ?_)
    refine Run.region_end ?_
    refine Run.condT rfl ?_
    refine Run.seq ?_
    refine Run.ops0 (idx := [0]) rfl ?_
    refine Run.go rfl rfl rfl (sem_assign ((Value.bool true)) rfl ?_)
    refine Run.region_end ?_
    refine Run.ret ⟨.inr rfl, ?_⟩
    exact hS.imp fun h' hq => ⟨(true), rfl, hq⟩
  · have hS := hF hb5; clear hT hF
    refine Run.go rfl rfl rfl (sem_binI .i64 ((n2 : Nat)) (50) (.bool false) rfl rfl (binI_gtr_f hb5) ?_)
    refine Run.region_end ?_
    refine Run.condF rfl ?_
    refine Run.skip ?_
    refine Run.seq ?_
    refine Run.ops0 (idx := [0]) rfl ?_
    refine Run.go rfl rfl rfl (sem_assign ((Value.int .i64 (0))) rfl ?_)
    refine Run.region_end ?_
    refine Run.seq ?_
    refine Run.seq ?_
    refine Run.ops0 (idx := [0, 1, 2]) rfl ?_
    refine Run.go rfl rfl rfl (sem_move ((Value.slice a1 n2 c3)) rfl ?_)
    refine Run.go rfl rfl rfl (sem_lenSl a1 n2 c3 rfl TF.sl_45 ?_)
    refine Run.go rfl rfl rfl (sem_move ((Value.int .i64 (0))) rfl ?_)
    refine Run.region_end ?_
    refine Run.block ?_
    obtain ⟨J12, m10, h0, hS⟩ := hS
    refine Run.of_fin (h0.imp fun h' h0 => ?_)
    refine Run.loop (σ := Int × Int × Nat) (fun x e h => J12 x.1 x.2.1 x.2.2 h ∧ Agree [(3, (Value.int .i64 (x.1))), (9, (Value.slice a1 n2 c3)), (10, (Value.int .i64 ((n2 : Nat)))), (11, (Value.int .i64 (x.2.1)))] e) (fun x => x.2.2) ((0), (0), m10) ⟨h0, ⟨rfl, rfl, rfl, rfl, trivial⟩⟩ ?_; clear h0
    rintro ⟨i6, i7, m9⟩ e h8 ⟨hJ, hag⟩ ih11
    have hS := hS i6 i7 m9 h8 hJ; clear hJ
    refine Run.env hag ?_; clear hag
    refine Run.seq ?_
    refine Run.ops0 (idx := [0]) rfl ?_
    obtain ⟨hT, hF⟩ := hS
    by_cases hb13 : (i7 : Int) < ((n2 : Nat))
    · have hS := hT hb13; clear hT hF
      refine Run.go rfl rfl rfl (sem_binI .i64 (i7) ((n2 : Nat)) (.bool true) rfl rfl (binI_lss_t hb13) ?_)
      refine Run.region_end ?_
      refine Run.seq ?_
      refine Run.condT rfl ?_
      refine Run.skip ?_
      refine Run.seq ?_
      refine Run.block ?_
      refine Run.seq ?_
      refine Run.ops0 (idx := [0, 1, 2, 3]) rfl ?_
      obtain ⟨A14, e15, hi0, hi1, hS⟩ := hS
      refine Run.go rfl rfl rfl (sem_indexAddrS A14 n2 c3 .i64 (i7) (congrArg (fun a => Value.slice a n2 c3) e15) rfl TF.slc_45 hi0 hi1 ?_)
      obtain ⟨i16, i17, s18, hl, hS⟩ := hS
      refine Run.go rfl rfl rfl (sem_loadN (Addr.add A14 (Int.toNat (i7) * 3)) [(Value.int .i64 (i16)), (Value.int .i64 (i17)), (Value.string s18)] rfl TF.agg_50 TF.sz_50 hl ?_)
      refine Run.go rfl rfl rfl (sem_allocN [(Value.int .i64 (0)), (Value.int .i64 (0)), (Value.string ByteArray.empty)] TF.zero_50 (fun k19 hb1 hb2 h20 hb3 => ?_))
      have hS := hS k19 hb1 hb2 h20 hb3
      obtain ⟨h21, hst, hS⟩ := hS
      refine Run.go rfl rfl rfl (sem_storeN ⟨k19, 0, none⟩ [(Value.int .i64 (i16)), (Value.int .i64 (i17)), (Value.string s18)] h21 rfl rfl TF.sz_50 hst ?_)
      refine Run.region_end ?_
      refine Run.seq ?_
      refine Run.seq ?_
      refine Run.ops0 (idx := [0, 1, 2, 3]) rfl ?_
      refine Run.go rfl rfl rfl (sem_fieldAddr ⟨k19, 0, none⟩ 2 rfl TF.fld_50_2 ?_)
      obtain ⟨s22, hl, hS⟩ := hS
      refine Run.go rfl rfl rfl (sem_load1 ⟨k19, 2, none⟩ ((Value.string s22)) rfl TF.agg_9 hl ?_)
      refine Run.go rfl rfl rfl (sem_lenStr s22 rfl TF.isStr_9 ?_)
      obtain ⟨hT, hF⟩ := hS
      by_cases hb23 : ((ByteArray.size s22 : Nat) : Int) > (2048)
      · have hS := hT hb23; clear hT hF
        refine Run.go rfl rfl rfl (sem_binI .i64 ((ByteArray.size s22 : Nat)) (2048) (.bool true) rfl rfl (binI_gtr_t hb23) ?_)
        refine Run.region_end ?_
        refine Run.condT rfl ?_
        refine Run.seq ?_
        refine Run.ops0 (idx := [0]) rfl ?_
        refine Run.go rfl rfl rfl (sem_assign ((Value.bool true)) rfl ?_)
        refine Run.region_end ?_
        refine Run.ret ⟨.inr rfl, ?_⟩
        exact hS.imp fun h' hq => ⟨(true), rfl, hq⟩
      · have hS := hF hb23; clear hT hF
        refine Run.go rfl rfl rfl (sem_binI .i64 ((ByteArray.size s22 : Nat)) (2048) (.bool false) rfl rfl (binI_gtr_f hb23) ?_)
        refine Run.region_end ?_
        refine Run.condF rfl ?_
        refine Run.skip ?_
        refine Run.seq ?_
        refine Run.ops0 (idx := [0, 1, 2, 3, 4, 5]) rfl ?_
        refine Run.go rfl rfl rfl (sem_move ((Value.int .i64 (i6))) rfl ?_)
        refine Run.go rfl rfl rfl (sem_fieldAddr ⟨k19, 0, none⟩ 2 rfl TF.fld_50_2 ?_)
        obtain ⟨s24, hl, hS⟩ := hS
        refine Run.go rfl rfl rfl (sem_load1 ⟨k19, 2, none⟩ ((Value.string s24)) rfl TF.agg_9 hl ?_)
        refine Run.go rfl rfl rfl (sem_lenStr s24 rfl TF.isStr_9 ?_)
        refine Run.go rfl rfl rfl (sem_binI .i64 (i6) ((ByteArray.size s24 : Nat)) ((Value.int .i64 (IntKind.wrap .i64 ((i6) + ((ByteArray.size s24 : Nat)))))) rfl rfl rfl ?_)
        refine Run.go rfl rfl rfl (sem_assign ((Value.int .i64 (IntKind.wrap .i64 ((i6) + ((ByteArray.size s24 : Nat)))))) rfl ?_)
        refine Run.region_end ?_
        refine Run.seq ?_
        refine Run.ops0 (idx := [0, 1]) rfl ?_
        refine Run.go rfl rfl rfl (sem_move ((Value.int .i64 (IntKind.wrap .i64 ((i6) + ((ByteArray.size s24 : Nat)))))) rfl ?_)
        obtain ⟨hT, hF⟩ := hS
        by_cases hb25 : (IntKind.wrap .i64 ((i6) + ((ByteArray.size s24 : Nat))) : Int) > (2048)
        · have hS := hT hb25; clear hT hF
          refine Run.go rfl rfl rfl (sem_binI .i64 (IntKind.wrap .i64 ((i6) + ((ByteArray.size s24 : Nat)))) (2048) (.bool true) rfl rfl (binI_gtr_t hb25) ?_)
          refine Run.region_end ?_
          refine Run.condT rfl ?_
          refine Run.seq ?_
          refine Run.ops0 (idx := [0]) rfl ?_
          refine Run.go rfl rfl rfl (sem_assign ((Value.bool true)) rfl ?_)
          refine Run.region_end ?_
          refine Run.ret ⟨.inr rfl, ?_⟩
          exact hS.imp fun h' hq => ⟨(true), rfl, hq⟩
        · have hS := hF hb25; clear hT hF
          refine Run.go rfl rfl rfl (sem_binI .i64 (IntKind.wrap .i64 ((i6) + ((ByteArray.size s24 : Nat)))) (2048) (.bool false) rfl rfl (binI_gtr_f hb25) ?_)
          refine Run.region_end ?_
          refine Run.condF rfl ?_
          refine Run.skip ?_
          refine Run.inBlock ?_
          refine Run.ops0 (idx := [0, 1]) rfl ?_
          refine Run.go rfl rfl rfl (sem_binI .i64 (i7) (1) ((Value.int .i64 (IntKind.wrap .i64 ((i7) + (1))))) rfl rfl rfl ?_)
          refine Run.go rfl rfl rfl (sem_move ((Value.int .i64 (IntKind.wrap .i64 ((i7) + (1))))) rfl ?_)
          refine Run.region_end ?_
          exact Run.of_fin (hS.imp fun h' ⟨m', hm, hS⟩ => ih11 ((IntKind.wrap .i64 ((i6) + ((ByteArray.size s24 : Nat)))), (IntKind.wrap .i64 ((i7) + (1))), m') _ _ ⟨hS, ⟨rfl, rfl, rfl, rfl, trivial⟩⟩ hm)
    · have hS := hF hb13; clear hT hF
      refine Run.go rfl rfl rfl (sem_binI .i64 (i7) ((n2 : Nat)) (.bool false) rfl rfl (binI_lss_f hb13) ?_)
      refine Run.region_end ?_
      refine Run.seq ?_
      refine Run.condF rfl ?_
      refine Run.exit rfl ?_
      refine Run.seq ?_
      refine Run.ops0 (idx := [0]) rfl ?_
      refine Run.go rfl rfl rfl (sem_assign ((Value.bool false)) rfl ?_)
      refine Run.region_end ?_
      refine Run.ret ⟨.inr rfl, ?_⟩
      exact hS.imp fun h' hq => ⟨(false), rfl, hq⟩
set_option maxHeartbeats 4000000 in
theorem C_countermandlaw01_put.of {B : RO} {a1 : Option Addr} {n2 : Nat} {c3 : Nat} {h : Heap} {Q : ByteArray → ByteArray → Heap → Prop} (hS : S_countermandlaw01_put B a1 n2 c3 h Q) : C_countermandlaw01_put B a1 n2 c3 h Q := by
  unfold S_countermandlaw01_put at hS
  unfold C_countermandlaw01_put
  refine Spec.of_run Try.func30 (N := 68) (rs := [ResultVar.tmp 2, ResultVar.tmp 3]) rfl rfl rfl (Nat.le_of_ble_eq_true rfl) ?_
  refine Run.seq ?_
  refine Run.ops0 (idx := [0, 1]) rfl ?_
  refine Run.go rfl rfl rfl (sem_assign ((Value.string (ByteArray.mk #[]))) rfl ?_)
  refine Run.go rfl rfl rfl (sem_assign ((Value.string (ByteArray.mk #[]))) rfl ?_)
  refine Run.region_end ?_
  refine Run.seq ?_
  refine Run.ops0 (idx := [0, 1, 2]) rfl ?_
  refine Run.go rfl rfl rfl (sem_buildSL [] [(Value.slice none 0 0)] TF.zero_40 TF.places_40 rfl rfl ?_)
  refine Run.go rfl rfl rfl (sem_boxNN [(Value.slice none 0 0)] rfl (fun k6 hb1 hb2 h7 hb3 => ?_))
  have hS := hS k6 hb1 hb2 h7 hb3
  refine Run.go rfl rfl rfl (sem_assign ((Value.pointer (some ⟨k6, 0, none⟩))) rfl ?_)
  refine Run.region_end ?_
  refine Run.seq ?_
  refine Run.ops0 (idx := [0]) rfl ?_
  refine Run.go rfl rfl rfl (sem_assign ((Value.string (ByteArray.mk #[]))) rfl ?_)
  refine Run.region_end ?_
  refine Run.seq ?_
  refine Run.seq ?_
  refine Run.ops0 (idx := [0, 1, 2]) rfl ?_
  refine Run.go rfl rfl rfl (sem_move ((Value.slice a1 n2 c3)) rfl ?_)
  refine Run.go rfl rfl rfl (sem_lenSl a1 n2 c3 rfl TF.sl_45 ?_)
  refine Run.go rfl rfl rfl (sem_move ((Value.int .i64 (0))) rfl ?_)
  refine Run.region_end ?_
  refine Run.block ?_
  obtain ⟨J14, m12, h0, hS⟩ := hS
  refine Run.of_fin (h0.imp fun h' h0 => ?_)
  refine Run.loop (σ := ByteArray × Int × Nat) (fun x e h => J14 x.1 x.2.1 x.2.2 h ∧ Agree [(4, (Value.pointer (some ⟨k6, 0, none⟩))), (5, (Value.string x.1)), (10, (Value.slice a1 n2 c3)), (11, (Value.int .i64 ((n2 : Nat)))), (12, (Value.int .i64 (x.2.1)))] e) (fun x => x.2.2) ((ByteArray.mk #[]), (0), m12) ⟨h0, ⟨rfl, rfl, rfl, rfl, rfl, trivial⟩⟩ ?_; clear h0
  rintro ⟨s8, i9, m11⟩ e h10 ⟨hJ, hag⟩ ih13
  have hS := hS s8 i9 m11 h10 hJ; clear hJ
  refine Run.env hag ?_; clear hag
  refine Run.seq ?_
  refine Run.ops0 (idx := [0]) rfl ?_
  obtain ⟨hT, hF⟩ := hS
  by_cases hb15 : (i9 : Int) < ((n2 : Nat))
  · have hS := hT hb15; clear hT hF
    refine Run.go rfl rfl rfl (sem_binI .i64 (i9) ((n2 : Nat)) (.bool true) rfl rfl (binI_lss_t hb15) ?_)
    refine Run.region_end ?_
    refine Run.seq ?_
    refine Run.condT rfl ?_
    refine Run.skip ?_
    refine Run.seq ?_
    refine Run.block ?_
    refine Run.seq ?_
    refine Run.ops0 (idx := [0, 1, 2, 3]) rfl ?_
    obtain ⟨A16, e17, hi0, hi1, hS⟩ := hS
    refine Run.go rfl rfl rfl (sem_indexAddrS A16 n2 c3 .i64 (i9) (congrArg (fun a => Value.slice a n2 c3) e17) rfl TF.slc_45 hi0 hi1 ?_)
    obtain ⟨i18, i19, s20, hl, hS⟩ := hS
    refine Run.go rfl rfl rfl (sem_loadN (Addr.add A16 (Int.toNat (i9) * 3)) [(Value.int .i64 (i18)), (Value.int .i64 (i19)), (Value.string s20)] rfl TF.agg_50 TF.sz_50 hl ?_)
    refine Run.go rfl rfl rfl (sem_allocN [(Value.int .i64 (0)), (Value.int .i64 (0)), (Value.string ByteArray.empty)] TF.zero_50 (fun k21 hb1 hb2 h22 hb3 => ?_))
    have hS := hS k21 hb1 hb2 h22 hb3
    obtain ⟨h23, hst, hS⟩ := hS
    refine Run.go rfl rfl rfl (sem_storeN ⟨k21, 0, none⟩ [(Value.int .i64 (i18)), (Value.int .i64 (i19)), (Value.string s20)] h23 rfl rfl TF.sz_50 hst ?_)
    refine Run.region_end ?_
    refine Run.seq ?_
    refine Run.ops0 (idx := [0, 1]) rfl ?_
    refine Run.go rfl rfl rfl (sem_fieldAddr ⟨k21, 0, none⟩ 0 rfl TF.fld_50_0 ?_)
    obtain ⟨i24, hl, hS⟩ := hS
    refine Run.go rfl rfl rfl (sem_load1 ⟨k21, 0, none⟩ ((Value.int .i64 (i24))) rfl TF.agg_3 hl ?_)
    refine Run.region_end ?_
    refine Run.block ?_
    refine Run.seq ?_
    refine Run.ops0 (idx := [0, 1]) rfl ?_
    obtain ⟨hT, hF⟩ := hS
    by_cases hb25 : (i24 : Int) = 0
    · have hS := hT hb25; clear hT hF
      refine Run.go rfl rfl rfl (sem_binI .i64 (i24) (0) (.bool true) rfl rfl (binI_eql_t hb25) ?_)
      refine Run.go rfl rfl rfl (sem_assign ((Value.bool true)) rfl ?_)
      refine Run.region_end ?_
      refine Run.condT rfl ?_
      refine Run.seq ?_
      refine Run.ops0 (idx := [0, 1, 2, 3, 4]) rfl ?_
      refine Run.go rfl rfl rfl (sem_move ((Value.pointer (some ⟨k6, 0, none⟩))) rfl ?_)
      refine Run.go rfl rfl rfl (sem_fieldAddr ⟨k21, 0, none⟩ 1 rfl TF.fld_50_1 ?_)
      obtain ⟨i26, hl, hS⟩ := hS
      refine Run.go rfl rfl rfl (sem_load1 ⟨k21, 1, none⟩ ((Value.int .i64 (i26))) rfl TF.agg_3 hl ?_)
      refine Run.go rfl rfl rfl (sem_buildSliceL [(0, (Value.int .i64 (i26)))] [(Value.int .i64 (i26))] TF.slc_84 TF.zero_3 rfl (by decide) (by decide) rfl rfl (fun k27 hb1 hb2 h28 hb3 => ?_))
      have hS := hS k27 hb1 hb2 h28 hb3
      refine Run.go rfl rfl rfl (sem_callL [(Value.pointer (some ⟨k6, 0, none⟩)), (Value.slice (some ⟨k27, 0, none⟩) 1 1)] (TF.goes_70) rfl rfl (Spec.mono hS fun v h29 hv => ?_))
      obtain ⟨rfl, hS⟩ := hv
      refine Run.region_end ?_
      refine Run.ops0 (idx := [0, 1, 2, 3, 4, 5]) rfl ?_
      refine Run.go rfl rfl rfl (sem_move ((Value.string s8)) rfl ?_)
      refine Run.go rfl rfl rfl (sem_fieldAddr ⟨k21, 0, none⟩ 1 rfl TF.fld_50_1 ?_)
      obtain ⟨i30, hl, hS⟩ := hS
      refine Run.go rfl rfl rfl (sem_load1 ⟨k21, 1, none⟩ ((Value.int .i64 (i30))) rfl TF.agg_3 hl ?_)
      refine Run.go rfl rfl rfl (sem_callL [(Value.int .i64 (i30))] (TF.goes_75) rfl rfl (Spec.mono hS fun v h31 hv => ?_))
      obtain ⟨s32, rfl, hS⟩ := hv
      obtain ⟨hi0, hS⟩ := hS
      refine Run.go rfl rfl rfl (sem_strAdd s8 s32 rfl rfl hi0 ?_)
      refine Run.go rfl rfl rfl (sem_assign ((Value.string (s8 ++ s32))) rfl ?_)
      refine Run.region_end ?_
      refine Run.inBlock ?_
      refine Run.inBlock ?_
      refine Run.ops0 (idx := [0, 1]) rfl ?_
      refine Run.go rfl rfl rfl (sem_binI .i64 (i9) (1) ((Value.int .i64 (IntKind.wrap .i64 ((i9) + (1))))) rfl rfl rfl ?_)
      refine Run.go rfl rfl rfl (sem_move ((Value.int .i64 (IntKind.wrap .i64 ((i9) + (1))))) rfl ?_)
      refine Run.region_end ?_
      exact Run.of_fin (hS.imp fun h' ⟨m', hm, hS⟩ => ih13 ((s8 ++ s32), (IntKind.wrap .i64 ((i9) + (1))), m') _ _ ⟨hS, ⟨rfl, rfl, rfl, rfl, rfl, trivial⟩⟩ hm)
    · have hS := hF hb25; clear hT hF
      refine Run.go rfl rfl rfl (sem_binI .i64 (i24) (0) (.bool false) rfl rfl (binI_eql_f hb25) ?_)
      refine Run.go rfl rfl rfl (sem_assign ((Value.bool false)) rfl ?_)
      refine Run.region_end ?_
      refine Run.condF rfl ?_
      refine Run.seq ?_
      refine Run.ops0 (idx := [0, 1]) rfl ?_
      obtain ⟨hT, hF⟩ := hS
      by_cases hb33 : (i24 : Int) = 1
      · have hS := hT hb33; clear hT hF
        refine Run.go rfl rfl rfl (sem_binI .i64 (i24) (1) (.bool true) rfl rfl (binI_eql_t hb33) ?_)
        refine Run.go rfl rfl rfl (sem_assign ((Value.bool true)) rfl ?_)
        refine Run.region_end ?_
        refine Run.condT rfl ?_
        refine Run.seq ?_
        refine Run.ops0 (idx := [0, 1, 2, 3, 4]) rfl ?_
        refine Run.go rfl rfl rfl (sem_move ((Value.pointer (some ⟨k6, 0, none⟩))) rfl ?_)
        refine Run.go rfl rfl rfl (sem_fieldAddr ⟨k21, 0, none⟩ 1 rfl TF.fld_50_1 ?_)
        obtain ⟨i34, hl, hS⟩ := hS
        refine Run.go rfl rfl rfl (sem_load1 ⟨k21, 1, none⟩ ((Value.int .i64 (i34))) rfl TF.agg_3 hl ?_)
        refine Run.go rfl rfl rfl (sem_buildSliceL [(0, (Value.int .i64 (i34)))] [(Value.int .i64 (i34))] TF.slc_84 TF.zero_3 rfl (by decide) (by decide) rfl rfl (fun k35 hb1 hb2 h36 hb3 => ?_))
        have hS := hS k35 hb1 hb2 h36 hb3
        refine Run.go rfl rfl rfl (sem_callL [(Value.pointer (some ⟨k6, 0, none⟩)), (Value.slice (some ⟨k35, 0, none⟩) 1 1)] (TF.goes_71) rfl rfl (Spec.mono hS fun v h37 hv => ?_))
        obtain ⟨rfl, hS⟩ := hv
        refine Run.region_end ?_
        refine Run.ops0 (idx := [0, 1, 2, 3, 4, 5]) rfl ?_
        refine Run.go rfl rfl rfl (sem_move ((Value.string s8)) rfl ?_)
        refine Run.go rfl rfl rfl (sem_fieldAddr ⟨k21, 0, none⟩ 1 rfl TF.fld_50_1 ?_)
        obtain ⟨i38, hl, hS⟩ := hS
        refine Run.go rfl rfl rfl (sem_load1 ⟨k21, 1, none⟩ ((Value.int .i64 (i38))) rfl TF.agg_3 hl ?_)
        refine Run.go rfl rfl rfl (sem_callL [(Value.int .i64 (i38))] (TF.goes_76) rfl rfl (Spec.mono hS fun v h39 hv => ?_))
        obtain ⟨s40, rfl, hS⟩ := hv
        obtain ⟨hi0, hS⟩ := hS
        refine Run.go rfl rfl rfl (sem_strAdd s8 s40 rfl rfl hi0 ?_)
        refine Run.go rfl rfl rfl (sem_assign ((Value.string (s8 ++ s40))) rfl ?_)
        refine Run.region_end ?_
        refine Run.inBlock ?_
        refine Run.inBlock ?_
        refine Run.ops0 (idx := [0, 1]) rfl ?_
        refine Run.go rfl rfl rfl (sem_binI .i64 (i9) (1) ((Value.int .i64 (IntKind.wrap .i64 ((i9) + (1))))) rfl rfl rfl ?_)
        refine Run.go rfl rfl rfl (sem_move ((Value.int .i64 (IntKind.wrap .i64 ((i9) + (1))))) rfl ?_)
        refine Run.region_end ?_
        exact Run.of_fin (hS.imp fun h' ⟨m', hm, hS⟩ => ih13 ((s8 ++ s40), (IntKind.wrap .i64 ((i9) + (1))), m') _ _ ⟨hS, ⟨rfl, rfl, rfl, rfl, rfl, trivial⟩⟩ hm)
      · have hS := hF hb33; clear hT hF
        refine Run.go rfl rfl rfl (sem_binI .i64 (i24) (1) (.bool false) rfl rfl (binI_eql_f hb33) ?_)
        refine Run.go rfl rfl rfl (sem_assign ((Value.bool false)) rfl ?_)
        refine Run.region_end ?_
        refine Run.condF rfl ?_
        refine Run.seq ?_
        refine Run.ops0 (idx := [0, 1]) rfl ?_
        obtain ⟨hT, hF⟩ := hS
        by_cases hb41 : (i24 : Int) = 2
        · have hS := hT hb41; clear hT hF
          refine Run.go rfl rfl rfl (sem_binI .i64 (i24) (2) (.bool true) rfl rfl (binI_eql_t hb41) ?_)
          refine Run.go rfl rfl rfl (sem_assign ((Value.bool true)) rfl ?_)
          refine Run.region_end ?_
          refine Run.condT rfl ?_
          refine Run.seq ?_
          refine Run.ops0 (idx := [0, 1, 2, 3]) rfl ?_
          refine Run.go rfl rfl rfl (sem_move ((Value.pointer (some ⟨k6, 0, none⟩))) rfl ?_)
          refine Run.go rfl rfl rfl (sem_fieldAddr ⟨k21, 0, none⟩ 2 rfl TF.fld_50_2 ?_)
          obtain ⟨s42, hl, hS⟩ := hS
          refine Run.go rfl rfl rfl (sem_load1 ⟨k21, 2, none⟩ ((Value.string s42)) rfl TF.agg_9 hl ?_)
          refine Run.go rfl rfl rfl (sem_callL [(Value.pointer (some ⟨k6, 0, none⟩)), (Value.string s42)] (TF.goes_74) rfl rfl (Spec.mono hS fun v h43 hv => ?_))
          obtain ⟨rfl, hS⟩ := hv
          refine Run.region_end ?_
          refine Run.ops0 (idx := [0, 1, 2, 3, 4]) rfl ?_
          refine Run.go rfl rfl rfl (sem_move ((Value.string s8)) rfl ?_)
          refine Run.go rfl rfl rfl (sem_fieldAddr ⟨k21, 0, none⟩ 2 rfl TF.fld_50_2 ?_)
          obtain ⟨s44, hl, hS⟩ := hS
          refine Run.go rfl rfl rfl (sem_load1 ⟨k21, 2, none⟩ ((Value.string s44)) rfl TF.agg_9 hl ?_)
          obtain ⟨hi0, hS⟩ := hS
          refine Run.go rfl rfl rfl (sem_strAdd s8 s44 rfl rfl hi0 ?_)
          refine Run.go rfl rfl rfl (sem_assign ((Value.string (s8 ++ s44))) rfl ?_)
          refine Run.region_end ?_
          refine Run.inBlock ?_
          refine Run.inBlock ?_
          refine Run.ops0 (idx := [0, 1]) rfl ?_
          refine Run.go rfl rfl rfl (sem_binI .i64 (i9) (1) ((Value.int .i64 (IntKind.wrap .i64 ((i9) + (1))))) rfl rfl rfl ?_)
          refine Run.go rfl rfl rfl (sem_move ((Value.int .i64 (IntKind.wrap .i64 ((i9) + (1))))) rfl ?_)
          refine Run.region_end ?_
          exact Run.of_fin (hS.imp fun h' ⟨m', hm, hS⟩ => ih13 ((s8 ++ s44), (IntKind.wrap .i64 ((i9) + (1))), m') _ _ ⟨hS, ⟨rfl, rfl, rfl, rfl, rfl, trivial⟩⟩ hm)
        · have hS := hF hb41; clear hT hF
          refine Run.go rfl rfl rfl (sem_binI .i64 (i24) (2) (.bool false) rfl rfl (binI_eql_f hb41) ?_)
          refine Run.go rfl rfl rfl (sem_assign ((Value.bool false)) rfl ?_)
          refine Run.region_end ?_
          refine Run.condF rfl ?_
          refine Run.seq ?_
          refine Run.ops0 (idx := [0, 1]) rfl ?_
          obtain ⟨hT, hF⟩ := hS
          by_cases hb45 : (i24 : Int) = 3
          · have hS := hT hb45; clear hT hF
            refine Run.go rfl rfl rfl (sem_binI .i64 (i24) (3) (.bool true) rfl rfl (binI_eql_t hb45) ?_)
            refine Run.go rfl rfl rfl (sem_assign ((Value.bool true)) rfl ?_)
            refine Run.region_end ?_
            refine Run.condT rfl ?_
            refine Run.seq ?_
            refine Run.ops0 (idx := [0, 1, 2, 3, 4]) rfl ?_
            refine Run.go rfl rfl rfl (sem_move ((Value.pointer (some ⟨k6, 0, none⟩))) rfl ?_)
            refine Run.go rfl rfl rfl (sem_fieldAddr ⟨k21, 0, none⟩ 2 rfl TF.fld_50_2 ?_)
            obtain ⟨s46, hl, hS⟩ := hS
            refine Run.go rfl rfl rfl (sem_load1 ⟨k21, 2, none⟩ ((Value.string s46)) rfl TF.agg_9 hl ?_)
            refine Run.go rfl rfl rfl (sem_buildSliceL [(0, (Value.string s46))] [(Value.string s46)] TF.slc_36 TF.zero_9 rfl (by decide) (by decide) rfl rfl (fun k47 hb1 hb2 h48 hb3 => ?_))
            have hS := hS k47 hb1 hb2 h48 hb3
            refine Run.go rfl rfl rfl (sem_callL [(Value.pointer (some ⟨k6, 0, none⟩)), (Value.slice (some ⟨k47, 0, none⟩) 1 1)] (TF.goes_27) rfl rfl (Spec.mono hS fun v h49 hv => ?_))
            obtain ⟨rfl, hS⟩ := hv
            refine Run.region_end ?_
            refine Run.ops0 (idx := [0, 1, 2, 3, 4, 5]) rfl ?_
            refine Run.go rfl rfl rfl (sem_move ((Value.string s8)) rfl ?_)
            refine Run.go rfl rfl rfl (sem_fieldAddr ⟨k21, 0, none⟩ 2 rfl TF.fld_50_2 ?_)
            obtain ⟨s50, hl, hS⟩ := hS
            refine Run.go rfl rfl rfl (sem_load1 ⟨k21, 2, none⟩ ((Value.string s50)) rfl TF.agg_9 hl ?_)
            refine Run.go rfl rfl rfl (sem_callL [(Value.string s50)] (TF.goes_77) rfl rfl (Spec.mono hS fun v h51 hv => ?_))
            obtain ⟨s52, rfl, hS⟩ := hv
            obtain ⟨hi0, hS⟩ := hS
            refine Run.go rfl rfl rfl (sem_strAdd s8 s52 rfl rfl hi0 ?_)
            refine Run.go rfl rfl rfl (sem_assign ((Value.string (s8 ++ s52))) rfl ?_)
            refine Run.region_end ?_
            refine Run.inBlock ?_
            refine Run.inBlock ?_
            refine Run.ops0 (idx := [0, 1]) rfl ?_
            refine Run.go rfl rfl rfl (sem_binI .i64 (i9) (1) ((Value.int .i64 (IntKind.wrap .i64 ((i9) + (1))))) rfl rfl rfl ?_)
            refine Run.go rfl rfl rfl (sem_move ((Value.int .i64 (IntKind.wrap .i64 ((i9) + (1))))) rfl ?_)
            refine Run.region_end ?_
            exact Run.of_fin (hS.imp fun h' ⟨m', hm, hS⟩ => ih13 ((s8 ++ s52), (IntKind.wrap .i64 ((i9) + (1))), m') _ _ ⟨hS, ⟨rfl, rfl, rfl, rfl, rfl, trivial⟩⟩ hm)
          · have hS := hF hb45; clear hT hF
            refine Run.go rfl rfl rfl (sem_binI .i64 (i24) (3) (.bool false) rfl rfl (binI_eql_f hb45) ?_)
            refine Run.go rfl rfl rfl (sem_assign ((Value.bool false)) rfl ?_)
            refine Run.region_end ?_
            refine Run.condF rfl ?_
            refine Run.skip ?_
            refine Run.inBlock ?_
            refine Run.inBlock ?_
            refine Run.ops0 (idx := [0, 1]) rfl ?_
            refine Run.go rfl rfl rfl (sem_binI .i64 (i9) (1) ((Value.int .i64 (IntKind.wrap .i64 ((i9) + (1))))) rfl rfl rfl ?_)
            refine Run.go rfl rfl rfl (sem_move ((Value.int .i64 (IntKind.wrap .i64 ((i9) + (1))))) rfl ?_)
            refine Run.region_end ?_
            exact Run.of_fin (hS.imp fun h' ⟨m', hm, hS⟩ => ih13 (s8, (IntKind.wrap .i64 ((i9) + (1))), m') _ _ ⟨hS, ⟨rfl, rfl, rfl, rfl, rfl, trivial⟩⟩ hm)
  · have hS := hF hb15; clear hT hF
    refine Run.go rfl rfl rfl (sem_binI .i64 (i9) ((n2 : Nat)) (.bool false) rfl rfl (binI_lss_f hb15) ?_)
    refine Run.region_end ?_
    refine Run.seq ?_
    refine Run.condF rfl ?_
    refine Run.exit rfl ?_
    refine Run.seq ?_
    refine Run.ops0 (idx := [0, 1, 2, 3, 4]) rfl ?_
    refine Run.go rfl rfl rfl (sem_move ((Value.pointer (some ⟨k6, 0, none⟩))) rfl ?_)
    refine Run.go rfl rfl rfl (sem_callL [(Value.pointer (some ⟨k6, 0, none⟩))] (TF.goes_28) rfl rfl (Spec.mono hS fun v h53 hv => ?_))
    obtain ⟨s54, rfl, hS⟩ := hv
    refine Run.go rfl rfl rfl (sem_move ((Value.string s8)) rfl ?_)
    refine Run.go rfl rfl rfl (sem_assign ((Value.string s54)) rfl ?_)
    refine Run.go rfl rfl rfl (sem_assign ((Value.string s8)) rfl ?_)
    refine Run.region_end ?_
    refine Run.ret ⟨.inr rfl, ?_⟩
    exact hS.imp fun h' hq => ⟨s54, s8, rfl, hq⟩
set_option maxHeartbeats 4000000 in
theorem C_stylus_Stylus_Nat.of {B : RO} {p1 : Option Addr} {a2 : Option Addr} {n3 : Nat} {c4 : Nat} {h : Heap} {Q : Heap → Prop} (hS : S_stylus_Stylus_Nat B p1 a2 n3 c4 h Q) : C_stylus_Stylus_Nat B p1 a2 n3 c4 h Q := by
  unfold S_stylus_Stylus_Nat at hS
  unfold C_stylus_Stylus_Nat
  refine Spec.of_run Try.func70 (N := 42) (rs := []) rfl rfl rfl (Nat.le_of_ble_eq_true rfl) ?_
  refine Run.seq ?_
  refine Run.ops0 (idx := [0, 1, 2]) rfl ?_
  refine Run.go rfl rfl rfl (sem_move ((Value.slice a2 n3 c4)) rfl ?_)
  refine Run.go rfl rfl rfl (sem_lenSl a2 n3 c4 rfl TF.sl_84 ?_)
  refine Run.go rfl rfl rfl (sem_move ((Value.int .i64 (0))) rfl ?_)
  refine Run.region_end ?_
  refine Run.block ?_
  obtain ⟨J10, m8, h0, hS⟩ := hS
  refine Run.of_fin (h0.imp fun h' h0 => ?_)
  refine Run.loop (σ := Int × Nat) (fun x e h => J10 x.1 x.2 h ∧ Agree [(0, (Value.pointer p1)), (6, (Value.slice a2 n3 c4)), (7, (Value.int .i64 ((n3 : Nat)))), (8, (Value.int .i64 (x.1)))] e) (fun x => x.2) ((0), m8) ⟨h0, ⟨rfl, rfl, rfl, rfl, trivial⟩⟩ ?_; clear h0
  rintro ⟨i5, m7⟩ e h6 ⟨hJ, hag⟩ ih9
  have hS := hS i5 m7 h6 hJ; clear hJ
  refine Run.env hag ?_; clear hag
  refine Run.seq ?_
  refine Run.ops0 (idx := [0]) rfl ?_
  obtain ⟨hT, hF⟩ := hS
  by_cases hb11 : (i5 : Int) < ((n3 : Nat))
  · have hS := hT hb11; clear hT hF
    refine Run.go rfl rfl rfl (sem_binI .i64 (i5) ((n3 : Nat)) (.bool true) rfl rfl (binI_lss_t hb11) ?_)
    refine Run.region_end ?_
    refine Run.seq ?_
    refine Run.condT rfl ?_
    refine Run.skip ?_
    refine Run.seq ?_
    refine Run.block ?_
    refine Run.seq ?_
    refine Run.ops0 (idx := [0, 1, 2]) rfl ?_
    obtain ⟨A12, e13, hi0, hi1, hS⟩ := hS
    refine Run.go rfl rfl rfl (sem_indexAddrS A12 n3 c4 .i64 (i5) (congrArg (fun a => Value.slice a n3 c4) e13) rfl TF.slc_84 hi0 hi1 ?_)
    obtain ⟨i14, hl, hS⟩ := hS
    refine Run.go rfl rfl rfl (sem_load1 (Addr.add A12 (Int.toNat (i5) * 1)) ((Value.int .i64 (i14))) rfl TF.agg_3 hl ?_)
    refine Run.go rfl rfl rfl (sem_assign ((Value.int .i64 (i14))) rfl ?_)
    refine Run.region_end ?_
    refine Run.seq ?_
    refine Run.seq ?_
    refine Run.ops0 (idx := [0, 1]) rfl ?_
    refine Run.go rfl rfl rfl (sem_move ((Value.int .i64 (i14))) rfl ?_)
    obtain ⟨hT, hF⟩ := hS
    by_cases hb15 : (i14 : Int) < (0)
    · have hS := hT hb15; clear hT hF
      refine Run.go rfl rfl rfl (sem_binI .i64 (i14) (0) (.bool true) rfl rfl (binI_lss_t hb15) ?_)
      refine Run.region_end ?_
      refine Run.condT rfl ?_
      refine Run.exit rfl ?_
      refine Run.ops0 (idx := [0, 1]) rfl ?_
      refine Run.go rfl rfl rfl (sem_binI .i64 (i5) (1) ((Value.int .i64 (IntKind.wrap .i64 ((i5) + (1))))) rfl rfl rfl ?_)
      refine Run.go rfl rfl rfl (sem_move ((Value.int .i64 (IntKind.wrap .i64 ((i5) + (1))))) rfl ?_)
      refine Run.region_end ?_
      exact Run.of_fin (hS.imp fun h' ⟨m', hm, hS⟩ => ih9 ((IntKind.wrap .i64 ((i5) + (1))), m') _ _ ⟨hS, ⟨rfl, rfl, rfl, rfl, trivial⟩⟩ hm)
    · have hS := hF hb15; clear hT hF
      refine Run.go rfl rfl rfl (sem_binI .i64 (i14) (0) (.bool false) rfl rfl (binI_lss_f hb15) ?_)
      refine Run.region_end ?_
      refine Run.condF rfl ?_
      refine Run.skip ?_
      refine Run.seqJ (fun e h18 => ∃ i17 : Int, Agree [(0, (Value.pointer p1)), (5, (Value.int .i64 (i17))), (6, (Value.slice a2 n3 c4)), (7, (Value.int .i64 ((n3 : Nat)))), (8, (Value.int .i64 (i5)))] e ∧ S_stylus_Stylus_Nat_J1 B p1 a2 n3 c4 i5 m7 J10 i17 h18 Q) ?_ fun j16 => ?_
      · rintro e h18 ⟨i17, hag, hS⟩
        refine Run.env hag ?_; clear hag
        refine Run.ops0 (idx := [0, 1, 2, 3, 4, 5, 6, 7, 8, 9, 10, 11]) rfl ?_
        refine Run.go rfl rfl rfl (sem_move ((Value.pointer p1)) rfl ?_)
        refine Run.go rfl rfl rfl (sem_move ((Value.pointer p1)) rfl ?_)
        obtain ⟨A19, e20, hS⟩ := hS
        refine Run.go rfl rfl rfl (sem_nilCheck A19 (congrArg Value.pointer e20) ?_)
        refine Run.go rfl rfl rfl (sem_fieldAddr A19 0 rfl TF.fld_40_0 ?_)
        refine Run.ldSl hS fun a21 n22 c23 h24 hl hS => ?_
        refine Run.go rfl rfl rfl (sem_load1 A19 ((Value.slice a21 n22 c23)) rfl TF.agg_38 hl ?_)
        refine Run.go rfl rfl rfl (sem_move ((Value.int .i64 (i17))) rfl ?_)
        refine Run.go rfl rfl rfl (sem_convI .i64 .u8 (i17) rfl TF.int_3 TF.int_5 ?_)
        refine Run.go rfl rfl rfl (sem_buildSliceL [(0, (Value.int .u8 (IntKind.wrap .u8 (i17))))] [(Value.int .u8 (IntKind.wrap .u8 (i17)))] TF.slc_38 TF.zero_5 rfl (by decide) (by decide) rfl rfl (fun k25 hb1 hb2 h26 hb3 => ?_))
        have hS := hS k25 hb1 hb2 h26 hb3
        refine Run.go rfl rfl rfl (sem_appendL [(Value.slice a21 n22 c23), (Value.slice (some ⟨k25, 0, none⟩) 1 1)] rfl (semH_mono (fun v h27 hv => ?_) hS))
        obtain ⟨a28, n29, c30, rfl, hS⟩ := hv
        obtain ⟨A31, e32, hS⟩ := hS
        refine Run.go rfl rfl rfl (sem_nilCheck A31 (congrArg Value.pointer e32) ?_)
        refine Run.go rfl rfl rfl (sem_fieldAddr A31 0 rfl TF.fld_40_0 ?_)
        obtain ⟨h33, hst, hS⟩ := hS
        refine Run.go rfl rfl rfl (sem_store1 A31 ((Value.slice a28 n29 c30)) h33 rfl rfl rfl TF.sz_38 hst ?_)
        refine Run.region_end ?_
        refine Run.inBlock ?_
        refine Run.ops0 (idx := [0, 1]) rfl ?_
        refine Run.go rfl rfl rfl (sem_binI .i64 (i5) (1) ((Value.int .i64 (IntKind.wrap .i64 ((i5) + (1))))) rfl rfl rfl ?_)
        refine Run.go rfl rfl rfl (sem_move ((Value.int .i64 (IntKind.wrap .i64 ((i5) + (1))))) rfl ?_)
        refine Run.region_end ?_
        exact Run.of_fin (hS.imp fun h' ⟨m', hm, hS⟩ => ih9 ((IntKind.wrap .i64 ((i5) + (1))), m') _ _ ⟨hS, ⟨rfl, rfl, rfl, rfl, trivial⟩⟩ hm)
      refine Run.block ?_
      obtain ⟨J39, m37, h0, hS⟩ := hS
      refine Run.of_fin (h0.imp fun h' h0 => ?_)
      refine Run.loop (σ := Int × Nat) (fun x e h => J39 x.1 x.2 h ∧ Agree [(0, (Value.pointer p1)), (5, (Value.int .i64 (x.1))), (6, (Value.slice a2 n3 c4)), (7, (Value.int .i64 ((n3 : Nat)))), (8, (Value.int .i64 (i5)))] e) (fun x => x.2) ((i14), m37) ⟨h0, ⟨rfl, rfl, rfl, rfl, rfl, trivial⟩⟩ ?_; clear h0
      rintro ⟨i34, m36⟩ e h35 ⟨hJ, hag⟩ ih38
      have hS := hS i34 m36 h35 hJ; clear hJ
      refine Run.env hag ?_; clear hag
      refine Run.seq ?_
      refine Run.seq ?_
      refine Run.ops0 (idx := [0, 1]) rfl ?_
      refine Run.go rfl rfl rfl (sem_move ((Value.int .i64 (i34))) rfl ?_)
      obtain ⟨hT, hF⟩ := hS
      by_cases hb40 : (i34 : Int) ≥ (128)
      · have hS := hT hb40; clear hT hF
        refine Run.go rfl rfl rfl (sem_binI .i64 (i34) (128) (.bool true) rfl rfl (binI_geq_t hb40) ?_)
        refine Run.region_end ?_
        refine Run.condT rfl ?_
        refine Run.skip ?_
        refine Run.block ?_
        refine Run.seq ?_
        refine Run.ops0 (idx := [0, 1, 2, 3, 4, 5, 6, 7, 8, 9, 10, 11, 12]) rfl ?_
        refine Run.go rfl rfl rfl (sem_move ((Value.pointer p1)) rfl ?_)
        refine Run.go rfl rfl rfl (sem_move ((Value.pointer p1)) rfl ?_)
        obtain ⟨A41, e42, hS⟩ := hS
        refine Run.go rfl rfl rfl (sem_nilCheck A41 (congrArg Value.pointer e42) ?_)
        refine Run.go rfl rfl rfl (sem_fieldAddr A41 0 rfl TF.fld_40_0 ?_)
        refine Run.ldSl hS fun a43 n44 c45 h46 hl hS => ?_
        refine Run.go rfl rfl rfl (sem_load1 A41 ((Value.slice a43 n44 c45)) rfl TF.agg_38 hl ?_)
        refine Run.go rfl rfl rfl (sem_move ((Value.int .i64 (i34))) rfl ?_)
        refine Run.go rfl rfl rfl (sem_convI .i64 .u8 (i34) rfl TF.int_3 TF.int_5 ?_)
        refine Run.go rfl rfl rfl (sem_binI .u8 (IntKind.wrap .u8 (i34)) (128) ((Value.int .u8 (IntKind.wrap .u8 ((BitVec.ofInt (IntKind.bits .u8) (IntKind.wrap .u8 (i34)) ||| BitVec.ofInt (IntKind.bits .u8) (128)).toNat : Int)))) rfl rfl rfl ?_)
        refine Run.go rfl rfl rfl (sem_buildSliceL [(0, (Value.int .u8 (IntKind.wrap .u8 ((BitVec.ofInt (IntKind.bits .u8) (IntKind.wrap .u8 (i34)) ||| BitVec.ofInt (IntKind.bits .u8) (128)).toNat : Int))))] [(Value.int .u8 (IntKind.wrap .u8 ((BitVec.ofInt (IntKind.bits .u8) (IntKind.wrap .u8 (i34)) ||| BitVec.ofInt (IntKind.bits .u8) (128)).toNat : Int)))] TF.slc_38 TF.zero_5 rfl (by decide) (by decide) rfl rfl (fun k47 hb1 hb2 h48 hb3 => ?_))
        have hS := hS k47 hb1 hb2 h48 hb3
        refine Run.go rfl rfl rfl (sem_appendL [(Value.slice a43 n44 c45), (Value.slice (some ⟨k47, 0, none⟩) 1 1)] rfl (semH_mono (fun v h49 hv => ?_) hS))
        obtain ⟨a50, n51, c52, rfl, hS⟩ := hv
        obtain ⟨A53, e54, hS⟩ := hS
        refine Run.go rfl rfl rfl (sem_nilCheck A53 (congrArg Value.pointer e54) ?_)
        refine Run.go rfl rfl rfl (sem_fieldAddr A53 0 rfl TF.fld_40_0 ?_)
        obtain ⟨h55, hst, hS⟩ := hS
        refine Run.go rfl rfl rfl (sem_store1 A53 ((Value.slice a50 n51 c52)) h55 rfl rfl rfl TF.sz_38 hst ?_)
        refine Run.region_end ?_
        refine Run.ops0 (idx := [0, 1, 2]) rfl ?_
        refine Run.go rfl rfl rfl (sem_move ((Value.int .i64 (i34))) rfl ?_)
        obtain ⟨hi0, hS⟩ := hS
        refine Run.go rfl rfl rfl (sem_shr .i64 .u64 (i34) (7) rfl rfl hi0 ?_)
        refine Run.go rfl rfl rfl (sem_assign ((Value.int .i64 (Int.fdiv (i34) (2 ^ (min (Int.toNat (7)) (IntKind.bits .i64)))))) rfl ?_)
        refine Run.region_end ?_
        refine Run.inBlock ?_
        exact Run.of_fin (hS.imp fun h' ⟨m', hm, hS⟩ => ih38 ((Int.fdiv (i34) (2 ^ (min (Int.toNat (7)) (IntKind.bits .i64)))), m') _ _ ⟨hS, ⟨rfl, rfl, rfl, rfl, rfl, trivial⟩⟩ hm)
      · have hS := hF hb40; clear hT hF
        refine Run.go rfl rfl rfl (sem_binI .i64 (i34) (128) (.bool false) rfl rfl (binI_geq_f hb40) ?_)
        refine Run.region_end ?_
        refine Run.condF rfl ?_
        refine Run.exit rfl ?_
        exact Run.of_fin (hS.imp fun h' hS => j16 _ _ ⟨(i34), ⟨rfl, rfl, rfl, rfl, rfl, trivial⟩, hS⟩)
  · have hS := hF hb11; clear hT hF
    refine Run.go rfl rfl rfl (sem_binI .i64 (i5) ((n3 : Nat)) (.bool false) rfl rfl (binI_lss_f hb11) ?_)
    refine Run.region_end ?_
    refine Run.seq ?_
    refine Run.condF rfl ?_
    refine Run.exit rfl ?_
    refine Run.fall ⟨.inl rfl, ?_⟩
    exact hS.imp fun h' hq => ⟨rfl, hq⟩
set_option maxHeartbeats 4000000 in
theorem C_stylus_Stylus_Int.of {B : RO} {p1 : Option Addr} {a2 : Option Addr} {n3 : Nat} {c4 : Nat} {h : Heap} {Q : Heap → Prop} (hS : S_stylus_Stylus_Int B p1 a2 n3 c4 h Q) : C_stylus_Stylus_Int B p1 a2 n3 c4 h Q := by
  unfold S_stylus_Stylus_Int at hS
  unfold C_stylus_Stylus_Int
  refine Spec.of_run Try.func71 (N := 48) (rs := []) rfl rfl rfl (Nat.le_of_ble_eq_true rfl) ?_
  refine Run.seq ?_
  refine Run.ops0 (idx := [0, 1, 2]) rfl ?_
  refine Run.go rfl rfl rfl (sem_move ((Value.slice a2 n3 c4)) rfl ?_)
  refine Run.go rfl rfl rfl (sem_lenSl a2 n3 c4 rfl TF.sl_84 ?_)
  refine Run.go rfl rfl rfl (sem_move ((Value.int .i64 (0))) rfl ?_)
  refine Run.region_end ?_
  refine Run.block ?_
  obtain ⟨J10, m8, h0, hS⟩ := hS
  refine Run.of_fin (h0.imp fun h' h0 => ?_)
  refine Run.loop (σ := Int × Nat) (fun x e h => J10 x.1 x.2 h ∧ Agree [(0, (Value.pointer p1)), (7, (Value.slice a2 n3 c4)), (8, (Value.int .i64 ((n3 : Nat)))), (9, (Value.int .i64 (x.1)))] e) (fun x => x.2) ((0), m8) ⟨h0, ⟨rfl, rfl, rfl, rfl, trivial⟩⟩ ?_; clear h0
  rintro ⟨i5, m7⟩ e h6 ⟨hJ, hag⟩ ih9
  have hS := hS i5 m7 h6 hJ; clear hJ
  refine Run.env hag ?_; clear hag
  refine Run.seq ?_
  refine Run.ops0 (idx := [0]) rfl ?_
  obtain ⟨hT, hF⟩ := hS
  by_cases hb11 : (i5 : Int) < ((n3 : Nat))
  · have hS := hT hb11; clear hT hF
    refine Run.go rfl rfl rfl (sem_binI .i64 (i5) ((n3 : Nat)) (.bool true) rfl rfl (binI_lss_t hb11) ?_)
    refine Run.region_end ?_
    refine Run.seq ?_
    refine Run.condT rfl ?_
    refine Run.skip ?_
    refine Run.seq ?_
    refine Run.block ?_
    refine Run.seq ?_
    refine Run.ops0 (idx := [0, 1, 2]) rfl ?_
    obtain ⟨A12, e13, hi0, hi1, hS⟩ := hS
    refine Run.go rfl rfl rfl (sem_indexAddrS A12 n3 c4 .i64 (i5) (congrArg (fun a => Value.slice a n3 c4) e13) rfl TF.slc_84 hi0 hi1 ?_)
    obtain ⟨i14, hl, hS⟩ := hS
    refine Run.go rfl rfl rfl (sem_load1 (Addr.add A12 (Int.toNat (i5) * 1)) ((Value.int .i64 (i14))) rfl TF.agg_3 hl ?_)
    refine Run.go rfl rfl rfl (sem_assign ((Value.int .i64 (i14))) rfl ?_)
    refine Run.region_end ?_
    refine Run.seq ?_
    refine Run.ops0 (idx := [0, 1, 2, 3, 4, 5, 6, 7]) rfl ?_
    refine Run.go rfl rfl rfl (sem_move ((Value.int .i64 (i14))) rfl ?_)
    refine Run.go rfl rfl rfl (sem_convI .i64 .u64 (i14) rfl TF.int_3 TF.int_28 ?_)
    obtain ⟨hi0, hS⟩ := hS
    refine Run.go rfl rfl rfl (sem_shl .u64 .u64 (IntKind.wrap .u64 (i14)) (1) rfl rfl hi0 ?_)
    refine Run.go rfl rfl rfl (sem_move ((Value.int .i64 (i14))) rfl ?_)
    obtain ⟨hi0, hS⟩ := hS
    refine Run.go rfl rfl rfl (sem_shr .i64 .u64 (i14) (63) rfl rfl hi0 ?_)
    refine Run.go rfl rfl rfl (sem_convI .i64 .u64 (Int.fdiv (i14) (2 ^ (min (Int.toNat (63)) (IntKind.bits .i64)))) rfl TF.int_3 TF.int_28 ?_)
    refine Run.go rfl rfl rfl (sem_binI .u64 (IntKind.wrap .u64 ((IntKind.wrap .u64 (i14)) * 2 ^ (min (Int.toNat (1)) (IntKind.bits .u64)))) (IntKind.wrap .u64 (Int.fdiv (i14) (2 ^ (min (Int.toNat (63)) (IntKind.bits .i64))))) ((Value.int .u64 (IntKind.wrap .u64 ((BitVec.ofInt (IntKind.bits .u64) (IntKind.wrap .u64 ((IntKind.wrap .u64 (i14)) * 2 ^ (min (Int.toNat (1)) (IntKind.bits .u64)))) ^^^ BitVec.ofInt (IntKind.bits .u64) (IntKind.wrap .u64 (Int.fdiv (i14) (2 ^ (min (Int.toNat (63)) (IntKind.bits .i64)))))).toNat : Int)))) rfl rfl rfl ?_)
    refine Run.go rfl rfl rfl (sem_assign ((Value.int .u64 (IntKind.wrap .u64 ((BitVec.ofInt (IntKind.bits .u64) (IntKind.wrap .u64 ((IntKind.wrap .u64 (i14)) * 2 ^ (min (Int.toNat (1)) (IntKind.bits .u64)))) ^^^ BitVec.ofInt (IntKind.bits .u64) (IntKind.wrap .u64 (Int.fdiv (i14) (2 ^ (min (Int.toNat (63)) (IntKind.bits .i64)))))).toNat : Int)))) rfl ?_)
    refine Run.region_end ?_
    refine Run.seqJ (fun e h17 => ∃ i16 : Int, Agree [(0, (Value.pointer p1)), (6, (Value.int .u64 (i16))), (7, (Value.slice a2 n3 c4)), (8, (Value.int .i64 ((n3 : Nat)))), (9, (Value.int .i64 (i5)))] e ∧ S_stylus_Stylus_Int_J1 B p1 a2 n3 c4 i5 m7 J10 i16 h17 Q) ?_ fun j15 => ?_
    · rintro e h17 ⟨i16, hag, hS⟩
      refine Run.env hag ?_; clear hag
      refine Run.ops0 (idx := [0, 1, 2, 3, 4, 5, 6, 7, 8, 9, 10, 11]) rfl ?_
      refine Run.go rfl rfl rfl (sem_move ((Value.pointer p1)) rfl ?_)
      refine Run.go rfl rfl rfl (sem_move ((Value.pointer p1)) rfl ?_)
      obtain ⟨A18, e19, hS⟩ := hS
      refine Run.go rfl rfl rfl (sem_nilCheck A18 (congrArg Value.pointer e19) ?_)
      refine Run.go rfl rfl rfl (sem_fieldAddr A18 0 rfl TF.fld_40_0 ?_)
      refine Run.ldSl hS fun a20 n21 c22 h23 hl hS => ?_
      refine Run.go rfl rfl rfl (sem_load1 A18 ((Value.slice a20 n21 c22)) rfl TF.agg_38 hl ?_)
      refine Run.go rfl rfl rfl (sem_move ((Value.int .u64 (i16))) rfl ?_)
      refine Run.go rfl rfl rfl (sem_convI .u64 .u8 (i16) rfl TF.int_28 TF.int_5 ?_)
      refine Run.go rfl rfl rfl (sem_buildSliceL [(0, (Value.int .u8 (IntKind.wrap .u8 (i16))))] [(Value.int .u8 (IntKind.wrap .u8 (i16)))] TF.slc_38 TF.zero_5 rfl (by decide) (by decide) rfl rfl (fun k24 hb1 hb2 h25 hb3 => ?_))
      have hS := hS k24 hb1 hb2 h25 hb3
      refine Run.go rfl rfl rfl (sem_appendL [(Value.slice a20 n21 c22), (Value.slice (some ⟨k24, 0, none⟩) 1 1)] rfl (semH_mono (fun v h26 hv => ?_) hS))
      obtain ⟨a27, n28, c29, rfl, hS⟩ := hv
      obtain ⟨A30, e31, hS⟩ := hS
      refine Run.go rfl rfl rfl (sem_nilCheck A30 (congrArg Value.pointer e31) ?_)
      refine Run.go rfl rfl rfl (sem_fieldAddr A30 0 rfl TF.fld_40_0 ?_)
      obtain ⟨h32, hst, hS⟩ := hS
      refine Run.go rfl rfl rfl (sem_store1 A30 ((Value.slice a27 n28 c29)) h32 rfl rfl rfl TF.sz_38 hst ?_)
      refine Run.region_end ?_
      refine Run.inBlock ?_
      refine Run.ops0 (idx := [0, 1]) rfl ?_
      refine Run.go rfl rfl rfl (sem_binI .i64 (i5) (1) ((Value.int .i64 (IntKind.wrap .i64 ((i5) + (1))))) rfl rfl rfl ?_)
      refine Run.go rfl rfl rfl (sem_move ((Value.int .i64 (IntKind.wrap .i64 ((i5) + (1))))) rfl ?_)
      refine Run.region_end ?_
      exact Run.of_fin (hS.imp fun h' ⟨m', hm, hS⟩ => ih9 ((IntKind.wrap .i64 ((i5) + (1))), m') _ _ ⟨hS, ⟨rfl, rfl, rfl, rfl, trivial⟩⟩ hm)
    refine Run.block ?_
    obtain ⟨J38, m36, h0, hS⟩ := hS
    refine Run.of_fin (h0.imp fun h' h0 => ?_)
    refine Run.loop (σ := Int × Nat) (fun x e h => J38 x.1 x.2 h ∧ Agree [(0, (Value.pointer p1)), (6, (Value.int .u64 (x.1))), (7, (Value.slice a2 n3 c4)), (8, (Value.int .i64 ((n3 : Nat)))), (9, (Value.int .i64 (i5)))] e) (fun x => x.2) ((IntKind.wrap .u64 ((BitVec.ofInt (IntKind.bits .u64) (IntKind.wrap .u64 ((IntKind.wrap .u64 (i14)) * 2 ^ (min (Int.toNat (1)) (IntKind.bits .u64)))) ^^^ BitVec.ofInt (IntKind.bits .u64) (IntKind.wrap .u64 (Int.fdiv (i14) (2 ^ (min (Int.toNat (63)) (IntKind.bits .i64)))))).toNat : Int)), m36) ⟨h0, ⟨rfl, rfl, rfl, rfl, rfl, trivial⟩⟩ ?_; clear h0
    rintro ⟨i33, m35⟩ e h34 ⟨hJ, hag⟩ ih37
    have hS := hS i33 m35 h34 hJ; clear hJ
    refine Run.env hag ?_; clear hag
    refine Run.seq ?_
    refine Run.seq ?_
    refine Run.ops0 (idx := [0, 1]) rfl ?_
    refine Run.go rfl rfl rfl (sem_move ((Value.int .u64 (i33))) rfl ?_)
    obtain ⟨hT, hF⟩ := hS
    by_cases hb39 : (i33 : Int) ≥ (128)
    · have hS := hT hb39; clear hT hF
      refine Run.go rfl rfl rfl (sem_binI .u64 (i33) (128) (.bool true) rfl rfl (binI_geq_t hb39) ?_)
      refine Run.region_end ?_
      refine Run.condT rfl ?_
      refine Run.skip ?_
      refine Run.block ?_
      refine Run.seq ?_
      refine Run.ops0 (idx := [0, 1, 2, 3, 4, 5, 6, 7, 8, 9, 10, 11, 12]) rfl ?_
      refine Run.go rfl rfl rfl (sem_move ((Value.pointer p1)) rfl ?_)
      refine Run.go rfl rfl rfl (sem_move ((Value.pointer p1)) rfl ?_)
      obtain ⟨A40, e41, hS⟩ := hS
      refine Run.go rfl rfl rfl (sem_nilCheck A40 (congrArg Value.pointer e41) ?_)
      refine Run.go rfl rfl rfl (sem_fieldAddr A40 0 rfl TF.fld_40_0 ?_)
      refine Run.ldSl hS fun a42 n43 c44 h45 hl hS => ?_
      refine Run.go rfl rfl rfl (sem_load1 A40 ((Value.slice a42 n43 c44)) rfl TF.agg_38 hl ?_)
      refine Run.go rfl rfl rfl (sem_move ((Value.int .u64 (i33))) rfl ?_)
      refine Run.go rfl rfl rfl (sem_convI .u64 .u8 (i33) rfl TF.int_28 TF.int_5 ?_)
      refine Run.go rfl rfl rfl (sem_binI .u8 (IntKind.wrap .u8 (i33)) (128) ((Value.int .u8 (IntKind.wrap .u8 ((BitVec.ofInt (IntKind.bits .u8) (IntKind.wrap .u8 (i33)) ||| BitVec.ofInt (IntKind.bits .u8) (128)).toNat : Int)))) rfl rfl rfl ?_)
      refine Run.go rfl rfl rfl (sem_buildSliceL [(0, (Value.int .u8 (IntKind.wrap .u8 ((BitVec.ofInt (IntKind.bits .u8) (IntKind.wrap .u8 (i33)) ||| BitVec.ofInt (IntKind.bits .u8) (128)).toNat : Int))))] [(Value.int .u8 (IntKind.wrap .u8 ((BitVec.ofInt (IntKind.bits .u8) (IntKind.wrap .u8 (i33)) ||| BitVec.ofInt (IntKind.bits .u8) (128)).toNat : Int)))] TF.slc_38 TF.zero_5 rfl (by decide) (by decide) rfl rfl (fun k46 hb1 hb2 h47 hb3 => ?_))
      have hS := hS k46 hb1 hb2 h47 hb3
      refine Run.go rfl rfl rfl (sem_appendL [(Value.slice a42 n43 c44), (Value.slice (some ⟨k46, 0, none⟩) 1 1)] rfl (semH_mono (fun v h48 hv => ?_) hS))
      obtain ⟨a49, n50, c51, rfl, hS⟩ := hv
      obtain ⟨A52, e53, hS⟩ := hS
      refine Run.go rfl rfl rfl (sem_nilCheck A52 (congrArg Value.pointer e53) ?_)
      refine Run.go rfl rfl rfl (sem_fieldAddr A52 0 rfl TF.fld_40_0 ?_)
      obtain ⟨h54, hst, hS⟩ := hS
      refine Run.go rfl rfl rfl (sem_store1 A52 ((Value.slice a49 n50 c51)) h54 rfl rfl rfl TF.sz_38 hst ?_)
      refine Run.region_end ?_
      refine Run.ops0 (idx := [0, 1, 2]) rfl ?_
      refine Run.go rfl rfl rfl (sem_move ((Value.int .u64 (i33))) rfl ?_)
      obtain ⟨hi0, hS⟩ := hS
      refine Run.go rfl rfl rfl (sem_shr .u64 .u64 (i33) (7) rfl rfl hi0 ?_)
      refine Run.go rfl rfl rfl (sem_assign ((Value.int .u64 (Int.fdiv (i33) (2 ^ (min (Int.toNat (7)) (IntKind.bits .u64)))))) rfl ?_)
      refine Run.region_end ?_
      refine Run.inBlock ?_
      exact Run.of_fin (hS.imp fun h' ⟨m', hm, hS⟩ => ih37 ((Int.fdiv (i33) (2 ^ (min (Int.toNat (7)) (IntKind.bits .u64)))), m') _ _ ⟨hS, ⟨rfl, rfl, rfl, rfl, rfl, trivial⟩⟩ hm)
    · have hS := hF hb39; clear hT hF
      refine Run.go rfl rfl rfl (sem_binI .u64 (i33) (128) (.bool false) rfl rfl (binI_geq_f hb39) ?_)
      refine Run.region_end ?_
      refine Run.condF rfl ?_
      refine Run.exit rfl ?_
      exact Run.of_fin (hS.imp fun h' hS => j15 _ _ ⟨(i33), ⟨rfl, rfl, rfl, rfl, rfl, trivial⟩, hS⟩)
  · have hS := hF hb11; clear hT hF
    refine Run.go rfl rfl rfl (sem_binI .i64 (i5) ((n3 : Nat)) (.bool false) rfl rfl (binI_lss_f hb11) ?_)
    refine Run.region_end ?_
    refine Run.seq ?_
    refine Run.condF rfl ?_
    refine Run.exit rfl ?_
    refine Run.fall ⟨.inl rfl, ?_⟩
    exact hS.imp fun h' hq => ⟨rfl, hq⟩
set_option maxHeartbeats 4000000 in
theorem C_countermandref01_Wide.of {B : RO} {i1 : Int} {h : Heap} {Q : ByteArray → Heap → Prop} (hS : S_countermandref01_Wide B i1 h Q) : C_countermandref01_Wide B i1 h Q := by
  unfold S_countermandref01_Wide at hS
  unfold C_countermandref01_Wide
  refine Spec.of_run Try.func72 (N := 22) (rs := [ResultVar.tmp 2]) rfl rfl rfl (Nat.le_of_ble_eq_true rfl) ?_
  refine Run.seq ?_
  refine Run.ops0 (idx := [0]) rfl ?_
  refine Run.go rfl rfl rfl (sem_assign ((Value.string (ByteArray.mk #[]))) rfl ?_)
  refine Run.region_end ?_
  refine Run.seq ?_
  refine Run.ops0 (idx := [0]) rfl ?_
  refine Run.go rfl rfl rfl (sem_assign ((Value.string (ByteArray.mk #[]))) rfl ?_)
  refine Run.region_end ?_
  refine Run.seqJ (fun e h6 => ∃ i4 : Int, ∃ s5 : ByteArray, Agree [(0, (Value.int .u64 (i4))), (3, (Value.string s5))] e ∧ S_countermandref01_Wide_J1 B i4 s5 h6 Q) ?_ fun j3 => ?_
  · rintro e h6 ⟨i4, s5, hag, hS⟩
    refine Run.env hag ?_; clear hag
    refine Run.seq ?_
    refine Run.ops0 (idx := [0, 1, 2, 3, 4, 5, 6]) rfl ?_
    refine Run.go rfl rfl rfl (sem_move ((Value.string s5)) rfl ?_)
    refine Run.go rfl rfl rfl (sem_move ((Value.int .u64 (i4))) rfl ?_)
    refine Run.go rfl rfl rfl (sem_convI .u64 .u8 (i4) rfl TF.int_28 TF.int_5 ?_)
    refine Run.go rfl rfl rfl (sem_buildSliceL [(0, (Value.int .u8 (IntKind.wrap .u8 (i4))))] [(Value.int .u8 (IntKind.wrap .u8 (i4)))] TF.slc_38 TF.zero_5 rfl (by decide) (by decide) rfl rfl (fun k7 hb1 hb2 h8 hb3 => ?_))
    have hS := hS k7 hb1 hb2 h8 hb3
    refine Run.go rfl rfl rfl (sem_convW ((Value.slice (some ⟨k7, 0, none⟩) 1 1)) rfl (semH_mono (fun v h10 hv => ?_) hS))
    obtain ⟨s9, rfl, hS⟩ := hv
    obtain ⟨hi0, hS⟩ := hS
    refine Run.go rfl rfl rfl (sem_strAdd s5 s9 rfl rfl hi0 ?_)
    refine Run.go rfl rfl rfl (sem_assign ((Value.string (s5 ++ s9))) rfl ?_)
    refine Run.region_end ?_
    refine Run.ret ⟨.inr rfl, ?_⟩
    exact hS.imp fun h' hq => ⟨(s5 ++ s9), rfl, hq⟩
  refine Run.block ?_
  obtain ⟨J17, m15, h0, hS⟩ := hS
  refine Run.of_fin (h0.imp fun h' h0 => ?_)
  refine Run.loop (σ := Int × ByteArray × Nat) (fun x e h => J17 x.1 x.2.1 x.2.2 h ∧ Agree [(0, (Value.int .u64 (x.1))), (3, (Value.string x.2.1))] e) (fun x => x.2.2) ((i1), (ByteArray.mk #[]), m15) ⟨h0, ⟨rfl, rfl, trivial⟩⟩ ?_; clear h0
  rintro ⟨i11, s12, m14⟩ e h13 ⟨hJ, hag⟩ ih16
  have hS := hS i11 s12 m14 h13 hJ; clear hJ
  refine Run.env hag ?_; clear hag
  refine Run.seq ?_
  refine Run.seq ?_
  refine Run.ops0 (idx := [0, 1]) rfl ?_
  refine Run.go rfl rfl rfl (sem_move ((Value.int .u64 (i11))) rfl ?_)
  obtain ⟨hT, hF⟩ := hS
  by_cases hb18 : (i11 : Int) > (127)
  · have hS := hT hb18; clear hT hF
    refine Run.go rfl rfl rfl (sem_binI .u64 (i11) (127) (.bool true) rfl rfl (binI_gtr_t hb18) ?_)
    refine Run.region_end ?_
    refine Run.condT rfl ?_
    refine Run.skip ?_
    refine Run.block ?_
    refine Run.seq ?_
    refine Run.ops0 (idx := [0, 1, 2, 3, 4, 5, 6, 7, 8]) rfl ?_
    refine Run.go rfl rfl rfl (sem_move ((Value.string s12)) rfl ?_)
    refine Run.go rfl rfl rfl (sem_move ((Value.int .u64 (i11))) rfl ?_)
    obtain ⟨hi0, hS⟩ := hS
    refine Run.go rfl rfl rfl (sem_binI .u64 (i11) (128) ((Value.int .u64 (Int.tmod (i11) (128)))) rfl rfl (binI_rem hi0) ?_)
    refine Run.go rfl rfl rfl (sem_binI .u64 (128) (Int.tmod (i11) (128)) ((Value.int .u64 (IntKind.wrap .u64 ((128) + (Int.tmod (i11) (128)))))) rfl rfl rfl ?_)
    refine Run.go rfl rfl rfl (sem_convI .u64 .u8 (IntKind.wrap .u64 ((128) + (Int.tmod (i11) (128)))) rfl TF.int_28 TF.int_5 ?_)
    refine Run.go rfl rfl rfl (sem_buildSliceL [(0, (Value.int .u8 (IntKind.wrap .u8 (IntKind.wrap .u64 ((128) + (Int.tmod (i11) (128)))))))] [(Value.int .u8 (IntKind.wrap .u8 (IntKind.wrap .u64 ((128) + (Int.tmod (i11) (128))))))] TF.slc_38 TF.zero_5 rfl (by decide) (by decide) rfl rfl (fun k19 hb1 hb2 h20 hb3 => ?_))
    have hS := hS k19 hb1 hb2 h20 hb3
    refine Run.go rfl rfl rfl (sem_convW ((Value.slice (some ⟨k19, 0, none⟩) 1 1)) rfl (semH_mono (fun v h22 hv => ?_) hS))
    obtain ⟨s21, rfl, hS⟩ := hv
    obtain ⟨hi0, hS⟩ := hS
    refine Run.go rfl rfl rfl (sem_strAdd s12 s21 rfl rfl hi0 ?_)
    refine Run.go rfl rfl rfl (sem_assign ((Value.string (s12 ++ s21))) rfl ?_)
    refine Run.region_end ?_
    refine Run.ops0 (idx := [0, 1, 2]) rfl ?_
    refine Run.go rfl rfl rfl (sem_move ((Value.int .u64 (i11))) rfl ?_)
    obtain ⟨hi0, hS⟩ := hS
    refine Run.go rfl rfl rfl (sem_binI .u64 (i11) (128) ((Value.int .u64 (IntKind.wrap .u64 (Int.tdiv (i11) (128))))) rfl rfl (binI_quo hi0) ?_)
    refine Run.go rfl rfl rfl (sem_assign ((Value.int .u64 (IntKind.wrap .u64 (Int.tdiv (i11) (128))))) rfl ?_)
    refine Run.region_end ?_
    refine Run.inBlock ?_
    exact Run.of_fin (hS.imp fun h' ⟨m', hm, hS⟩ => ih16 ((IntKind.wrap .u64 (Int.tdiv (i11) (128))), (s12 ++ s21), m') _ _ ⟨hS, ⟨rfl, rfl, trivial⟩⟩ hm)
  · have hS := hF hb18; clear hT hF
    refine Run.go rfl rfl rfl (sem_binI .u64 (i11) (127) (.bool false) rfl rfl (binI_gtr_f hb18) ?_)
    refine Run.region_end ?_
    refine Run.condF rfl ?_
    refine Run.exit rfl ?_
    exact Run.of_fin (hS.imp fun h' hS => j3 _ _ ⟨(i11), s12, ⟨rfl, rfl, trivial⟩, hS⟩)
set_option maxHeartbeats 4000000 in
theorem C_stylus_Reader_word.of {B : RO} {p1 : Option Addr} {h : Heap} {Q : Int → Heap → Prop} (hS : S_stylus_Reader_word B p1 h Q) : C_stylus_Reader_word B p1 h Q := by
  unfold S_stylus_Reader_word at hS
  unfold C_stylus_Reader_word
  refine Spec.of_run Try.func73 (N := 46) (rs := [ResultVar.tmp 2]) rfl rfl rfl (Nat.le_of_ble_eq_true rfl) ?_
  refine Run.seq ?_
  refine Run.ops0 (idx := [0]) rfl ?_
  refine Run.go rfl rfl rfl (sem_assign ((Value.int .u64 (0))) rfl ?_)
  refine Run.region_end ?_
  refine Run.seq ?_
  refine Run.ops0 (idx := [0]) rfl ?_
  refine Run.go rfl rfl rfl (sem_assign ((Value.int .u64 (0))) rfl ?_)
  refine Run.region_end ?_
  refine Run.seq ?_
  refine Run.seq ?_
  refine Run.ops0 (idx := [0]) rfl ?_
  refine Run.go rfl rfl rfl (sem_assign ((Value.int .i64 (0))) rfl ?_)
  refine Run.region_end ?_
  refine Run.block ?_
  obtain ⟨J9, m7, h0, hS⟩ := hS
  refine Run.of_fin (h0.imp fun h' h0 => ?_)
  refine Run.loop (σ := Int × Int × Nat) (fun x e h => J9 x.1 x.2.1 x.2.2 h ∧ Agree [(0, (Value.pointer p1)), (3, (Value.int .u64 (x.1))), (4, (Value.int .i64 (x.2.1)))] e) (fun x => x.2.2) ((0), (0), m7) ⟨h0, ⟨rfl, rfl, rfl, trivial⟩⟩ ?_; clear h0
  rintro ⟨i3, i4, m6⟩ e h5 ⟨hJ, hag⟩ ih8
  have hS := hS i3 i4 m6 h5 hJ; clear hJ
  refine Run.env hag ?_; clear hag
  refine Run.seq ?_
  refine Run.seq ?_
  refine Run.ops0 (idx := [0, 1]) rfl ?_
  refine Run.go rfl rfl rfl (sem_move ((Value.int .i64 (i4))) rfl ?_)
  obtain ⟨hT, hF⟩ := hS
  by_cases hb10 : (i4 : Int) < (64)
  · have hS := hT hb10; clear hT hF
    refine Run.go rfl rfl rfl (sem_binI .i64 (i4) (64) (.bool true) rfl rfl (binI_lss_t hb10) ?_)
    refine Run.region_end ?_
    refine Run.condT rfl ?_
    refine Run.skip ?_
    refine Run.seq ?_
    refine Run.block ?_
    refine Run.seq ?_
    refine Run.ops0 (idx := [0, 1, 2]) rfl ?_
    refine Run.go rfl rfl rfl (sem_move ((Value.pointer p1)) rfl ?_)
    refine Run.go rfl rfl rfl (sem_callL [(Value.pointer p1), (Value.int .i64 (1))] (TF.goes_21) rfl rfl (Spec.mono hS fun v h11 hv => ?_))
    obtain ⟨s12, rfl, hS⟩ := hv
    refine Run.go rfl rfl rfl (sem_assign ((Value.string s12)) rfl ?_)
    refine Run.region_end ?_
    refine Run.seqJ (fun e h14 => Agree [(0, (Value.pointer p1)), (3, (Value.int .u64 (i3))), (4, (Value.int .i64 (i4))), (5, (Value.string s12))] e ∧ S_stylus_Reader_word_J1 B p1 i3 i4 m6 J9 s12 h14 Q) ?_ fun j13 => ?_
    · rintro e h14 ⟨hag, hS⟩
      refine Run.env hag ?_; clear hag
      refine Run.seq ?_
      refine Run.ops0 (idx := [0, 1, 2, 3, 4, 5, 6, 7, 8]) rfl ?_
      refine Run.go rfl rfl rfl (sem_move ((Value.int .u64 (i3))) rfl ?_)
      refine Run.go rfl rfl rfl (sem_move ((Value.string s12)) rfl ?_)
      obtain ⟨hi0, hi1, hS⟩ := hS
      refine Run.go rfl rfl rfl (sem_indexStr' s12 .i64 (0) rfl rfl TF.isStr_9 hi0 hi1 ?_)
      refine Run.go rfl rfl rfl (sem_binI .u8 (byteAt s12 (Int.toNat (0))) (127) ((Value.int .u8 (IntKind.wrap .u8 ((BitVec.ofInt (IntKind.bits .u8) (byteAt s12 (Int.toNat (0))) &&& BitVec.ofInt (IntKind.bits .u8) (127)).toNat : Int)))) rfl rfl rfl ?_)
      refine Run.go rfl rfl rfl (sem_convI .u8 .u64 (IntKind.wrap .u8 ((BitVec.ofInt (IntKind.bits .u8) (byteAt s12 (Int.toNat (0))) &&& BitVec.ofInt (IntKind.bits .u8) (127)).toNat : Int)) rfl TF.int_5 TF.int_28 ?_)
      refine Run.go rfl rfl rfl (sem_move ((Value.int .i64 (i4))) rfl ?_)
      obtain ⟨hi0, hS⟩ := hS
      refine Run.go rfl rfl rfl (sem_shl .u64 .i64 (IntKind.wrap .u64 (IntKind.wrap .u8 ((BitVec.ofInt (IntKind.bits .u8) (byteAt s12 (Int.toNat (0))) &&& BitVec.ofInt (IntKind.bits .u8) (127)).toNat : Int))) (i4) rfl rfl hi0 ?_)
      refine Run.go rfl rfl rfl (sem_binI .u64 (i3) (IntKind.wrap .u64 ((IntKind.wrap .u64 (IntKind.wrap .u8 ((BitVec.ofInt (IntKind.bits .u8) (byteAt s12 (Int.toNat (0))) &&& BitVec.ofInt (IntKind.bits .u8) (127)).toNat : Int))) * 2 ^ (min (Int.toNat (i4)) (IntKind.bits .u64)))) ((Value.int .u64 (IntKind.wrap .u64 ((BitVec.ofInt (IntKind.bits .u64) (i3) ||| BitVec.ofInt (IntKind.bits .u64) (IntKind.wrap .u64 ((IntKind.wrap .u64 (IntKind.wrap .u8 ((BitVec.ofInt (IntKind.bits .u8) (byteAt s12 (Int.toNat (0))) &&& BitVec.ofInt (IntKind.bits .u8) (127)).toNat : Int))) * 2 ^ (min (Int.toNat (i4)) (IntKind.bits .u64))))).toNat : Int)))) rfl rfl rfl ?_)
      refine Run.go rfl rfl rfl (sem_assign ((Value.int .u64 (IntKind.wrap .u64 ((BitVec.ofInt (IntKind.bits .u64) (i3) ||| BitVec.ofInt (IntKind.bits .u64) (IntKind.wrap .u64 ((IntKind.wrap .u64 (IntKind.wrap .u8 ((BitVec.ofInt (IntKind.bits .u8) (byteAt s12 (Int.toNat (0))) &&& BitVec.ofInt (IntKind.bits .u8) (127)).toNat : Int))) * 2 ^ (min (Int.toNat (i4)) (IntKind.bits .u64))))).toNat : Int)))) rfl ?_)
      refine Run.region_end ?_
      refine Run.seq ?_
      refine Run.ops0 (idx := [0, 1, 2]) rfl ?_
      refine Run.go rfl rfl rfl (sem_move ((Value.string s12)) rfl ?_)
      obtain ⟨hi0, hi1, hS⟩ := hS
      refine Run.go rfl rfl rfl (sem_indexStr' s12 .i64 (0) rfl rfl TF.isStr_9 hi0 hi1 ?_)
      obtain ⟨hT, hF⟩ := hS
      by_cases hb15 : (byteAt s12 (Int.toNat (0)) : Int) < (128)
      · have hS := hT hb15; clear hT hF
        refine Run.go rfl rfl rfl (sem_binI .u8 (byteAt s12 (Int.toNat (0))) (128) (.bool true) rfl rfl (binI_lss_t hb15) ?_)
        refine Run.region_end ?_
        refine Run.condT rfl ?_
        refine Run.seq ?_
        refine Run.ops0 (idx := [0, 1]) rfl ?_
        refine Run.go rfl rfl rfl (sem_move ((Value.int .u64 (IntKind.wrap .u64 ((BitVec.ofInt (IntKind.bits .u64) (i3) ||| BitVec.ofInt (IntKind.bits .u64) (IntKind.wrap .u64 ((IntKind.wrap .u64 (IntKind.wrap .u8 ((BitVec.ofInt (IntKind.bits .u8) (byteAt s12 (Int.toNat (0))) &&& BitVec.ofInt (IntKind.bits .u8) (127)).toNat : Int))) * 2 ^ (min (Int.toNat (i4)) (IntKind.bits .u64))))).toNat : Int)))) rfl ?_)
        refine Run.go rfl rfl rfl (sem_assign ((Value.int .u64 (IntKind.wrap .u64 ((BitVec.ofInt (IntKind.bits .u64) (i3) ||| BitVec.ofInt (IntKind.bits .u64) (IntKind.wrap .u64 ((IntKind.wrap .u64 (IntKind.wrap .u8 ((BitVec.ofInt (IntKind.bits .u8) (byteAt s12 (Int.toNat (0))) &&& BitVec.ofInt (IntKind.bits .u8) (127)).toNat : Int))) * 2 ^ (min (Int.toNat (i4)) (IntKind.bits .u64))))).toNat : Int)))) rfl ?_)
        refine Run.region_end ?_
        refine Run.ret ⟨.inr rfl, ?_⟩
        exact hS.imp fun h' hq => ⟨(IntKind.wrap .u64 ((BitVec.ofInt (IntKind.bits .u64) (i3) ||| BitVec.ofInt (IntKind.bits .u64) (IntKind.wrap .u64 ((IntKind.wrap .u64 (IntKind.wrap .u8 ((BitVec.ofInt (IntKind.bits .u8) (byteAt s12 (Int.toNat (0))) &&& BitVec.ofInt (IntKind.bits .u8) (127)).toNat : Int))) * 2 ^ (min (Int.toNat (i4)) (IntKind.bits .u64))))).toNat : Int)), rfl, hq⟩
      · have hS := hF hb15; clear hT hF
        refine Run.go rfl rfl rfl (sem_binI .u8 (byteAt s12 (Int.toNat (0))) (128) (.bool false) rfl rfl (binI_lss_f hb15) ?_)
        refine Run.region_end ?_
        refine Run.condF rfl ?_
        refine Run.skip ?_
        refine Run.inBlock ?_
        refine Run.ops0 (idx := [0, 1, 2]) rfl ?_
        refine Run.go rfl rfl rfl (sem_move ((Value.int .i64 (i4))) rfl ?_)
        refine Run.go rfl rfl rfl (sem_binI .i64 (i4) (7) ((Value.int .i64 (IntKind.wrap .i64 ((i4) + (7))))) rfl rfl rfl ?_)
        refine Run.go rfl rfl rfl (sem_assign ((Value.int .i64 (IntKind.wrap .i64 ((i4) + (7))))) rfl ?_)
        refine Run.region_end ?_
        exact Run.of_fin (hS.imp fun h' ⟨m', hm, hS⟩ => ih8 ((IntKind.wrap .u64 ((BitVec.ofInt (IntKind.bits .u64) (i3) ||| BitVec.ofInt (IntKind.bits .u64) (IntKind.wrap .u64 ((IntKind.wrap .u64 (IntKind.wrap .u8 ((BitVec.ofInt (IntKind.bits .u8) (byteAt s12 (Int.toNat (0))) &&& BitVec.ofInt (IntKind.bits .u8) (127)).toNat : Int))) * 2 ^ (min (Int.toNat (i4)) (IntKind.bits .u64))))).toNat : Int)), (IntKind.wrap .i64 ((i4) + (7))), m') _ _ ⟨hS, ⟨rfl, rfl, rfl, trivial⟩⟩ hm)
    refine Run.seq ?_
    refine Run.ops0 (idx := [0, 1, 2, 3, 4, 5, 6, 7, 8, 9, 10, 11, 12, 13, 14, 15, 16, 17, 18, 19]) rfl ?_
    refine Run.go rfl rfl rfl (sem_move ((Value.string s12)) rfl ?_)
    obtain ⟨hT, hF⟩ := hS
    by_cases hb16 : s12 = (ByteArray.mk #[])
    · have hS := hT hb16; clear hT hF
      refine Run.go rfl rfl rfl (sem_strEqT s12 (ByteArray.mk #[]) rfl rfl hb16 ?_)
      refine Run.go rfl rfl rfl (sem_move ((Value.bool true)) rfl ?_)
      refine Run.no rfl rfl rfl ?_
      refine Run.no rfl rfl rfl ?_
      refine Run.no rfl rfl rfl ?_
      refine Run.no rfl rfl rfl ?_
      refine Run.no rfl rfl rfl ?_
      refine Run.no rfl rfl rfl ?_
      refine Run.no rfl rfl rfl ?_
      refine Run.go rfl rfl rfl (sem_pick true ((Value.bool true)) rfl rfl ?_)
      refine Run.go rfl rfl rfl (sem_move ((Value.bool true)) rfl ?_)
      refine Run.no rfl rfl rfl ?_
      refine Run.no rfl rfl rfl ?_
      refine Run.no rfl rfl rfl ?_
      refine Run.no rfl rfl rfl ?_
      refine Run.no rfl rfl rfl ?_
      refine Run.no rfl rfl rfl ?_
      refine Run.no rfl rfl rfl ?_
      refine Run.go rfl rfl rfl (sem_pick true ((Value.bool true)) rfl rfl ?_)
      refine Run.region_end ?_
      refine Run.condT rfl ?_
      refine Run.exit rfl ?_
      refine Run.seq ?_
      refine Run.ops0 (idx := [0, 1]) rfl ?_
      refine Run.go rfl rfl rfl (sem_move ((Value.pointer p1)) rfl ?_)
      refine Run.go rfl rfl rfl (sem_callL [(Value.pointer p1)] (TF.goes_26) rfl rfl (Spec.mono hS fun v h17 hv => ?_))
      obtain ⟨rfl, hS⟩ := hv
      refine Run.region_end ?_
      refine Run.seq ?_
      refine Run.ops0 (idx := [0]) rfl ?_
      refine Run.go rfl rfl rfl (sem_assign ((Value.int .u64 (0))) rfl ?_)
      refine Run.region_end ?_
      refine Run.ret ⟨.inr rfl, ?_⟩
      exact hS.imp fun h' hq => ⟨(0), rfl, hq⟩
    · have hS := hF hb16; clear hT hF
      refine Run.go rfl rfl rfl (sem_strEqF s12 (ByteArray.mk #[]) rfl rfl hb16 ?_)
      refine Run.go rfl rfl rfl (sem_move ((Value.bool false)) rfl ?_)
      refine Run.go rfl rfl rfl (sem_move ((Value.int .i64 (i4))) rfl ?_)
      obtain ⟨hT, hF⟩ := hS
      by_cases hb18 : (i4 : Int) = 63
      · have hS := hT hb18; clear hT hF
        refine Run.go rfl rfl rfl (sem_binI .i64 (i4) (63) (.bool true) rfl rfl (binI_eql_t hb18) ?_)
        refine Run.go rfl rfl rfl (sem_move ((Value.bool true)) rfl ?_)
        refine Run.go rfl rfl rfl (sem_move ((Value.string s12)) rfl ?_)
        obtain ⟨hi0, hi1, hS⟩ := hS
        refine Run.go rfl rfl rfl (sem_indexStr' s12 .i64 (0) rfl rfl TF.isStr_9 hi0 hi1 ?_)
        obtain ⟨hT, hF⟩ := hS
        by_cases hb19 : (byteAt s12 (Int.toNat (0)) : Int) > (1)
        · have hS := hT hb19; clear hT hF
          refine Run.go rfl rfl rfl (sem_binI .u8 (byteAt s12 (Int.toNat (0))) (1) (.bool true) rfl rfl (binI_gtr_t hb19) ?_)
          refine Run.go rfl rfl rfl (sem_pick true ((Value.bool true)) rfl rfl ?_)
          refine Run.go rfl rfl rfl (sem_pick false ((Value.bool true)) rfl rfl ?_)
          refine Run.go rfl rfl rfl (sem_move ((Value.bool true)) rfl ?_)
          refine Run.no rfl rfl rfl ?_
          refine Run.no rfl rfl rfl ?_
          refine Run.no rfl rfl rfl ?_
          refine Run.no rfl rfl rfl ?_
          refine Run.no rfl rfl rfl ?_
          refine Run.no rfl rfl rfl ?_
          refine Run.no rfl rfl rfl ?_
          refine Run.go rfl rfl rfl (sem_pick true ((Value.bool true)) rfl rfl ?_)
          refine Run.region_end ?_
          refine Run.condT rfl ?_
          refine Run.exit rfl ?_
          refine Run.seq ?_
          refine Run.ops0 (idx := [0, 1]) rfl ?_
          refine Run.go rfl rfl rfl (sem_move ((Value.pointer p1)) rfl ?_)
          refine Run.go rfl rfl rfl (sem_callL [(Value.pointer p1)] (TF.goes_26) rfl rfl (Spec.mono hS fun v h20 hv => ?_))
          obtain ⟨rfl, hS⟩ := hv
          refine Run.region_end ?_
          refine Run.seq ?_
          refine Run.ops0 (idx := [0]) rfl ?_
          refine Run.go rfl rfl rfl (sem_assign ((Value.int .u64 (0))) rfl ?_)
          refine Run.region_end ?_
          refine Run.ret ⟨.inr rfl, ?_⟩
          exact hS.imp fun h' hq => ⟨(0), rfl, hq⟩
        · have hS := hF hb19; clear hT hF
          refine Run.go rfl rfl rfl (sem_binI .u8 (byteAt s12 (Int.toNat (0))) (1) (.bool false) rfl rfl (binI_gtr_f hb19) ?_)
          refine Run.go rfl rfl rfl (sem_pick true ((Value.bool false)) rfl rfl ?_)
          refine Run.go rfl rfl rfl (sem_pick false ((Value.bool false)) rfl rfl ?_)
          refine Run.go rfl rfl rfl (sem_move ((Value.bool false)) rfl ?_)
          refine Run.go rfl rfl rfl (sem_move ((Value.int .i64 (i4))) rfl ?_)
          obtain ⟨hT, hF⟩ := hS
          by_cases hb21 : (i4 : Int) > (0)
          · have hS := hT hb21; clear hT hF
            refine Run.go rfl rfl rfl (sem_binI .i64 (i4) (0) (.bool true) rfl rfl (binI_gtr_t hb21) ?_)
            refine Run.go rfl rfl rfl (sem_move ((Value.bool true)) rfl ?_)
            refine Run.go rfl rfl rfl (sem_move ((Value.string s12)) rfl ?_)
            obtain ⟨hi0, hi1, hS⟩ := hS
            refine Run.go rfl rfl rfl (sem_indexStr' s12 .i64 (0) rfl rfl TF.isStr_9 hi0 hi1 ?_)
            obtain ⟨hT, hF⟩ := hS
            by_cases hb22 : (byteAt s12 (Int.toNat (0)) : Int) = 0
            · have hS := hT hb22; clear hT hF
              refine Run.go rfl rfl rfl (sem_binI .u8 (byteAt s12 (Int.toNat (0))) (0) (.bool true) rfl rfl (binI_eql_t hb22) ?_)
              refine Run.go rfl rfl rfl (sem_pick true ((Value.bool true)) rfl rfl ?_)
              refine Run.go rfl rfl rfl (sem_pick false ((Value.bool true)) rfl rfl ?_)
              refine Run.region_end ?_
              refine Run.condT rfl ?_
              refine Run.exit rfl ?_
              refine Run.seq ?_
              refine Run.ops0 (idx := [0, 1]) rfl ?_
              refine Run.go rfl rfl rfl (sem_move ((Value.pointer p1)) rfl ?_)
              refine Run.go rfl rfl rfl (sem_callL [(Value.pointer p1)] (TF.goes_26) rfl rfl (Spec.mono hS fun v h23 hv => ?_))
              obtain ⟨rfl, hS⟩ := hv
              refine Run.region_end ?_
              refine Run.seq ?_
              refine Run.ops0 (idx := [0]) rfl ?_
              refine Run.go rfl rfl rfl (sem_assign ((Value.int .u64 (0))) rfl ?_)
              refine Run.region_end ?_
              refine Run.ret ⟨.inr rfl, ?_⟩
              exact hS.imp fun h' hq => ⟨(0), rfl, hq⟩
            · have hS := hF hb22; clear hT hF
              refine Run.go rfl rfl rfl (sem_binI .u8 (byteAt s12 (Int.toNat (0))) (0) (.bool false) rfl rfl (binI_eql_f hb22) ?_)
              refine Run.go rfl rfl rfl (sem_pick true ((Value.bool false)) rfl rfl ?_)
              refine Run.go rfl rfl rfl (sem_pick false ((Value.bool false)) rfl rfl ?_)
              refine Run.region_end ?_
              refine Run.condF rfl ?_
              refine Run.skip ?_
              exact Run.of_fin (hS.imp fun h' hS => j13 _ _ ⟨⟨rfl, rfl, rfl, rfl, trivial⟩, hS⟩)
          · have hS := hF hb21; clear hT hF
            refine Run.go rfl rfl rfl (sem_binI .i64 (i4) (0) (.bool false) rfl rfl (binI_gtr_f hb21) ?_)
            refine Run.go rfl rfl rfl (sem_move ((Value.bool false)) rfl ?_)
            refine Run.no rfl rfl rfl ?_
            refine Run.no rfl rfl rfl ?_
            refine Run.no rfl rfl rfl ?_
            refine Run.go rfl rfl rfl (sem_pick false ((Value.bool false)) rfl rfl ?_)
            refine Run.go rfl rfl rfl (sem_pick false ((Value.bool false)) rfl rfl ?_)
            refine Run.region_end ?_
            refine Run.condF rfl ?_
            refine Run.skip ?_
            exact Run.of_fin (hS.imp fun h' hS => j13 _ _ ⟨⟨rfl, rfl, rfl, rfl, trivial⟩, hS⟩)
      · have hS := hF hb18; clear hT hF
        refine Run.go rfl rfl rfl (sem_binI .i64 (i4) (63) (.bool false) rfl rfl (binI_eql_f hb18) ?_)
        refine Run.go rfl rfl rfl (sem_move ((Value.bool false)) rfl ?_)
        refine Run.no rfl rfl rfl ?_
        refine Run.no rfl rfl rfl ?_
        refine Run.no rfl rfl rfl ?_
        refine Run.go rfl rfl rfl (sem_pick false ((Value.bool false)) rfl rfl ?_)
        refine Run.go rfl rfl rfl (sem_pick false ((Value.bool false)) rfl rfl ?_)
        refine Run.go rfl rfl rfl (sem_move ((Value.bool false)) rfl ?_)
        refine Run.go rfl rfl rfl (sem_move ((Value.int .i64 (i4))) rfl ?_)
        obtain ⟨hT, hF⟩ := hS
        by_cases hb24 : (i4 : Int) > (0)
        · have hS := hT hb24; clear hT hF
          refine Run.go rfl rfl rfl (sem_binI .i64 (i4) (0) (.bool true) rfl rfl (binI_gtr_t hb24) ?_)
          refine Run.go rfl rfl rfl (sem_move ((Value.bool true)) rfl ?_)
          refine Run.go rfl rfl rfl (sem_move ((Value.string s12)) rfl ?_)
          obtain ⟨hi0, hi1, hS⟩ := hS
          refine Run.go rfl rfl rfl (sem_indexStr' s12 .i64 (0) rfl rfl TF.isStr_9 hi0 hi1 ?_)
          obtain ⟨hT, hF⟩ := hS
          by_cases hb25 : (byteAt s12 (Int.toNat (0)) : Int) = 0
          · have hS := hT hb25; clear hT hF
            refine Run.go rfl rfl rfl (sem_binI .u8 (byteAt s12 (Int.toNat (0))) (0) (.bool true) rfl rfl (binI_eql_t hb25) ?_)
            refine Run.go rfl rfl rfl (sem_pick true ((Value.bool true)) rfl rfl ?_)
            refine Run.go rfl rfl rfl (sem_pick false ((Value.bool true)) rfl rfl ?_)
            refine Run.region_end ?_
            refine Run.condT rfl ?_
            refine Run.exit rfl ?_
            refine Run.seq ?_
            refine Run.ops0 (idx := [0, 1]) rfl ?_
            refine Run.go rfl rfl rfl (sem_move ((Value.pointer p1)) rfl ?_)
            refine Run.go rfl rfl rfl (sem_callL [(Value.pointer p1)] (TF.goes_26) rfl rfl (Spec.mono hS fun v h26 hv => ?_))
            obtain ⟨rfl, hS⟩ := hv
            refine Run.region_end ?_
            refine Run.seq ?_
            refine Run.ops0 (idx := [0]) rfl ?_
            refine Run.go rfl rfl rfl (sem_assign ((Value.int .u64 (0))) rfl ?_)
            refine Run.region_end ?_
            refine Run.ret ⟨.inr rfl, ?_⟩
            exact hS.imp fun h' hq => ⟨(0), rfl, hq⟩
          · have hS := hF hb25; clear hT hF
            refine Run.go rfl rfl rfl (sem_binI .u8 (byteAt s12 (Int.toNat (0))) (0) (.bool false) rfl rfl (binI_eql_f hb25) ?_)
            refine Run.go rfl rfl rfl (sem_pick true ((Value.bool false)) rfl rfl ?_)
            refine Run.go rfl rfl rfl (sem_pick false ((Value.bool false)) rfl rfl ?_)
            refine Run.region_end ?_
            refine Run.condF rfl ?_
            refine Run.skip ?_
            exact Run.of_fin (hS.imp fun h' hS => j13 _ _ ⟨⟨rfl, rfl, rfl, rfl, trivial⟩, hS⟩)
        · have hS := hF hb24; clear hT hF
          refine Run.go rfl rfl rfl (sem_binI .i64 (i4) (0) (.bool false) rfl rfl (binI_gtr_f hb24) ?_)
          refine Run.go rfl rfl rfl (sem_move ((Value.bool false)) rfl ?_)
          refine Run.no rfl rfl rfl ?_
          refine Run.no rfl rfl rfl ?_
          refine Run.no rfl rfl rfl ?_
          refine Run.go rfl rfl rfl (sem_pick false ((Value.bool false)) rfl rfl ?_)
          refine Run.go rfl rfl rfl (sem_pick false ((Value.bool false)) rfl rfl ?_)
          refine Run.region_end ?_
          refine Run.condF rfl ?_
          refine Run.skip ?_
          exact Run.of_fin (hS.imp fun h' hS => j13 _ _ ⟨⟨rfl, rfl, rfl, rfl, trivial⟩, hS⟩)
  · have hS := hF hb10; clear hT hF
    refine Run.go rfl rfl rfl (sem_binI .i64 (i4) (64) (.bool false) rfl rfl (binI_lss_f hb10) ?_)
    refine Run.region_end ?_
    refine Run.condF rfl ?_
    refine Run.exit rfl ?_
    refine Run.seq ?_
    refine Run.ops0 (idx := [0, 1]) rfl ?_
    refine Run.go rfl rfl rfl (sem_move ((Value.pointer p1)) rfl ?_)
    refine Run.go rfl rfl rfl (sem_callL [(Value.pointer p1)] (TF.goes_26) rfl rfl (Spec.mono hS fun v h27 hv => ?_))
    obtain ⟨rfl, hS⟩ := hv
    refine Run.region_end ?_
    refine Run.seq ?_
    refine Run.ops0 (idx := [0]) rfl ?_
    refine Run.go rfl rfl rfl (sem_assign ((Value.int .u64 (0))) rfl ?_)
    refine Run.region_end ?_
    refine Run.ret ⟨.inr rfl, ?_⟩
    exact hS.imp fun h' hq => ⟨(0), rfl, hq⟩
set_option maxHeartbeats 4000000 in
theorem C_stylus_Stylus_Raw.of {B : RO} {p1 : Option Addr} {s2 : ByteArray} {h : Heap} {Q : Heap → Prop} (hS : S_stylus_Stylus_Raw B p1 s2 h Q) : C_stylus_Stylus_Raw B p1 s2 h Q := by
  unfold S_stylus_Stylus_Raw at hS
  unfold C_stylus_Stylus_Raw
  refine Spec.of_run Try.func74 (N := 13) (rs := []) rfl rfl rfl (Nat.le_of_ble_eq_true rfl) ?_
  refine Run.ops0 (idx := [0, 1, 2, 3, 4, 5, 6, 7, 8, 9]) rfl ?_
  refine Run.go rfl rfl rfl (sem_move ((Value.pointer p1)) rfl ?_)
  refine Run.go rfl rfl rfl (sem_move ((Value.pointer p1)) rfl ?_)
  obtain ⟨A3, e4, hS⟩ := hS
  refine Run.go rfl rfl rfl (sem_nilCheck A3 (congrArg Value.pointer e4) ?_)
  refine Run.go rfl rfl rfl (sem_fieldAddr A3 0 rfl TF.fld_40_0 ?_)
  refine Run.ldSl hS fun a5 n6 c7 h8 hl hS => ?_
  refine Run.go rfl rfl rfl (sem_load1 A3 ((Value.slice a5 n6 c7)) rfl TF.agg_38 hl ?_)
  refine Run.go rfl rfl rfl (sem_move ((Value.string s2)) rfl ?_)
  refine Run.go rfl rfl rfl (sem_appendL [(Value.slice a5 n6 c7), (Value.string s2)] rfl (semH_mono (fun v h9 hv => ?_) hS))
  obtain ⟨a10, n11, c12, rfl, hS⟩ := hv
  obtain ⟨A13, e14, hS⟩ := hS
  refine Run.go rfl rfl rfl (sem_nilCheck A13 (congrArg Value.pointer e14) ?_)
  refine Run.go rfl rfl rfl (sem_fieldAddr A13 0 rfl TF.fld_40_0 ?_)
  obtain ⟨h15, hst, hS⟩ := hS
  refine Run.go rfl rfl rfl (sem_store1 A13 ((Value.slice a10 n11 c12)) h15 rfl rfl rfl TF.sz_38 hst ?_)
  refine Run.region_end ?_
  refine Run.fall ⟨.inl rfl, ?_⟩
  exact hS.imp fun h' hq => ⟨rfl, hq⟩
set_option maxHeartbeats 4000000 in
theorem C_countermandref01_Nat.of {B : RO} {i1 : Int} {h : Heap} {Q : ByteArray → Heap → Prop} (hS : S_countermandref01_Nat B i1 h Q) : C_countermandref01_Nat B i1 h Q := by
  unfold S_countermandref01_Nat at hS
  unfold C_countermandref01_Nat
  refine Spec.of_run Try.func75 (N := 8) (rs := [ResultVar.tmp 2]) rfl rfl rfl (Nat.le_of_ble_eq_true rfl) ?_
  refine Run.seq ?_
  refine Run.ops0 (idx := [0]) rfl ?_
  refine Run.go rfl rfl rfl (sem_assign ((Value.string (ByteArray.mk #[]))) rfl ?_)
  refine Run.region_end ?_
  refine Run.seq ?_
  refine Run.seq ?_
  refine Run.ops0 (idx := [0, 1]) rfl ?_
  refine Run.go rfl rfl rfl (sem_move ((Value.int .i64 (i1))) rfl ?_)
  obtain ⟨hT, hF⟩ := hS
  by_cases hb3 : (i1 : Int) < (0)
  · have hS := hT hb3; clear hT hF
    refine Run.go rfl rfl rfl (sem_binI .i64 (i1) (0) (.bool true) rfl rfl (binI_lss_t hb3) ?_)
    refine Run.region_end ?_
    refine Run.condT rfl ?_
    refine Run.seq ?_
    refine Run.ops0 (idx := [0]) rfl ?_
    refine Run.go rfl rfl rfl (sem_assign ((Value.string (ByteArray.mk #[]))) rfl ?_)
    refine Run.region_end ?_
    refine Run.ret ⟨.inr rfl, ?_⟩
    exact hS.imp fun h' hq => ⟨(ByteArray.mk #[]), rfl, hq⟩
  · have hS := hF hb3; clear hT hF
    refine Run.go rfl rfl rfl (sem_binI .i64 (i1) (0) (.bool false) rfl rfl (binI_lss_f hb3) ?_)
    refine Run.region_end ?_
    refine Run.condF rfl ?_
    refine Run.skip ?_
    refine Run.seq ?_
    refine Run.ops0 (idx := [0, 1, 2, 3]) rfl ?_
    refine Run.go rfl rfl rfl (sem_move ((Value.int .i64 (i1))) rfl ?_)
    refine Run.go rfl rfl rfl (sem_convI .i64 .u64 (i1) rfl TF.int_3 TF.int_28 ?_)
    refine Run.go rfl rfl rfl (sem_callL [(Value.int .u64 (IntKind.wrap .u64 (i1)))] (TF.goes_72) rfl rfl (Spec.mono hS fun v h4 hv => ?_))
    obtain ⟨s5, rfl, hS⟩ := hv
    refine Run.go rfl rfl rfl (sem_assign ((Value.string s5)) rfl ?_)
    refine Run.region_end ?_
    refine Run.ret ⟨.inr rfl, ?_⟩
    exact hS.imp fun h' hq => ⟨s5, rfl, hq⟩
set_option maxHeartbeats 4000000 in
theorem C_countermandref01_Int.of {B : RO} {i1 : Int} {h : Heap} {Q : ByteArray → Heap → Prop} (hS : S_countermandref01_Int B i1 h Q) : C_countermandref01_Int B i1 h Q := by
  unfold S_countermandref01_Int at hS
  unfold C_countermandref01_Int
  refine Spec.of_run Try.func76 (N := 16) (rs := [ResultVar.tmp 2]) rfl rfl rfl (Nat.le_of_ble_eq_true rfl) ?_
  refine Run.seq ?_
  refine Run.ops0 (idx := [0]) rfl ?_
  refine Run.go rfl rfl rfl (sem_assign ((Value.string (ByteArray.mk #[]))) rfl ?_)
  refine Run.region_end ?_
  refine Run.seq ?_
  refine Run.seq ?_
  refine Run.ops0 (idx := [0, 1]) rfl ?_
  refine Run.go rfl rfl rfl (sem_move ((Value.int .i64 (i1))) rfl ?_)
  obtain ⟨hT, hF⟩ := hS
  by_cases hb3 : (i1 : Int) < (0)
  · have hS := hT hb3; clear hT hF
    refine Run.go rfl rfl rfl (sem_binI .i64 (i1) (0) (.bool true) rfl rfl (binI_lss_t hb3) ?_)
    refine Run.region_end ?_
    refine Run.condT rfl ?_
    refine Run.seq ?_
    refine Run.ops0 (idx := [0, 1, 2, 3, 4, 5, 6, 7]) rfl ?_
    refine Run.go rfl rfl rfl (sem_move ((Value.int .i64 (i1))) rfl ?_)
    refine Run.go rfl rfl rfl (sem_binI .i64 (i1) (1) ((Value.int .i64 (IntKind.wrap .i64 ((i1) + (1))))) rfl rfl rfl ?_)
    refine Run.go rfl rfl rfl (sem_neg .i64 (IntKind.wrap .i64 ((i1) + (1))) rfl ?_)
    refine Run.go rfl rfl rfl (sem_convI .i64 .u64 (IntKind.wrap .i64 (0 - (IntKind.wrap .i64 ((i1) + (1))))) rfl TF.int_3 TF.int_28 ?_)
    refine Run.go rfl rfl rfl (sem_binI .u64 (2) (IntKind.wrap .u64 (IntKind.wrap .i64 (0 - (IntKind.wrap .i64 ((i1) + (1)))))) ((Value.int .u64 (IntKind.wrap .u64 ((2) * (IntKind.wrap .u64 (IntKind.wrap .i64 (0 - (IntKind.wrap .i64 ((i1) + (1)))))))))) rfl rfl rfl ?_)
    refine Run.go rfl rfl rfl (sem_binI .u64 (IntKind.wrap .u64 ((2) * (IntKind.wrap .u64 (IntKind.wrap .i64 (0 - (IntKind.wrap .i64 ((i1) + (1)))))))) (1) ((Value.int .u64 (IntKind.wrap .u64 ((IntKind.wrap .u64 ((2) * (IntKind.wrap .u64 (IntKind.wrap .i64 (0 - (IntKind.wrap .i64 ((i1) + (1)))))))) + (1))))) rfl rfl rfl ?_)
    refine Run.go rfl rfl rfl (sem_callL [(Value.int .u64 (IntKind.wrap .u64 ((IntKind.wrap .u64 ((2) * (IntKind.wrap .u64 (IntKind.wrap .i64 (0 - (IntKind.wrap .i64 ((i1) + (1)))))))) + (1))))] (TF.goes_72) rfl rfl (Spec.mono hS fun v h4 hv => ?_))
    obtain ⟨s5, rfl, hS⟩ := hv
    refine Run.go rfl rfl rfl (sem_assign ((Value.string s5)) rfl ?_)
    refine Run.region_end ?_
    refine Run.ret ⟨.inr rfl, ?_⟩
    exact hS.imp fun h' hq => ⟨s5, rfl, hq⟩
  · have hS := hF hb3; clear hT hF
    refine Run.go rfl rfl rfl (sem_binI .i64 (i1) (0) (.bool false) rfl rfl (binI_lss_f hb3) ?_)
    refine Run.region_end ?_
    refine Run.condF rfl ?_
    refine Run.skip ?_
    refine Run.seq ?_
    refine Run.ops0 (idx := [0, 1, 2, 3, 4]) rfl ?_
    refine Run.go rfl rfl rfl (sem_move ((Value.int .i64 (i1))) rfl ?_)
    refine Run.go rfl rfl rfl (sem_convI .i64 .u64 (i1) rfl TF.int_3 TF.int_28 ?_)
    refine Run.go rfl rfl rfl (sem_binI .u64 (2) (IntKind.wrap .u64 (i1)) ((Value.int .u64 (IntKind.wrap .u64 ((2) * (IntKind.wrap .u64 (i1)))))) rfl rfl rfl ?_)
    refine Run.go rfl rfl rfl (sem_callL [(Value.int .u64 (IntKind.wrap .u64 ((2) * (IntKind.wrap .u64 (i1)))))] (TF.goes_72) rfl rfl (Spec.mono hS fun v h6 hv => ?_))
    obtain ⟨s7, rfl, hS⟩ := hv
    refine Run.go rfl rfl rfl (sem_assign ((Value.string s7)) rfl ?_)
    refine Run.region_end ?_
    refine Run.ret ⟨.inr rfl, ?_⟩
    exact hS.imp fun h' hq => ⟨s7, rfl, hq⟩
set_option maxHeartbeats 4000000 in
theorem C_countermandref01_Text.of {B : RO} {s1 : ByteArray} {h : Heap} {Q : ByteArray → Heap → Prop} (hS : S_countermandref01_Text B s1 h Q) : C_countermandref01_Text B s1 h Q := by
  unfold S_countermandref01_Text at hS
  unfold C_countermandref01_Text
  refine Spec.of_run Try.func77 (N := 8) (rs := [ResultVar.tmp 2]) rfl rfl rfl (Nat.le_of_ble_eq_true rfl) ?_
  refine Run.seq ?_
  refine Run.ops0 (idx := [0]) rfl ?_
  refine Run.go rfl rfl rfl (sem_assign ((Value.string (ByteArray.mk #[]))) rfl ?_)
  refine Run.region_end ?_
  refine Run.seq ?_
  refine Run.ops0 (idx := [0, 1, 2, 3, 4, 5]) rfl ?_
  refine Run.go rfl rfl rfl (sem_move ((Value.string s1)) rfl ?_)
  refine Run.go rfl rfl rfl (sem_lenStr s1 rfl TF.isStr_9 ?_)
  refine Run.go rfl rfl rfl (sem_callL [(Value.int .i64 ((ByteArray.size s1 : Nat)))] (TF.goes_75) rfl rfl (Spec.mono hS fun v h3 hv => ?_))
  obtain ⟨s4, rfl, hS⟩ := hv
  refine Run.go rfl rfl rfl (sem_move ((Value.string s1)) rfl ?_)
  obtain ⟨hi0, hS⟩ := hS
  refine Run.go rfl rfl rfl (sem_strAdd s4 s1 rfl rfl hi0 ?_)
  refine Run.go rfl rfl rfl (sem_assign ((Value.string (s4 ++ s1))) rfl ?_)
  refine Run.region_end ?_
  refine Run.ret ⟨.inr rfl, ?_⟩
  exact hS.imp fun h' hq => ⟨(s4 ++ s1), rfl, hq⟩
end Go.Proofs.Ytoajfmmomgpjcaa.H
