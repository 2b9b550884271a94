/- The functions do what they ask for. No condition. -/
import Derived.Test.YtoajfmmomgpjcaaXfS
namespace Go.Proofs.Ytoajfmmomgpjcaa.H
open Go
set_option linter.unusedVariables false
set_option maxRecDepth 100000

set_option maxHeartbeats 4000000 in
theorem C_draft_Draft_string_Get.of {B : RO} {p1 : Option Addr} {i2 : Int} {h : Heap} {Q : ByteArray → Bool → Heap → Prop} (hS : S_draft_Draft_string_Get B p1 i2 h Q) : C_draft_Draft_string_Get B p1 i2 h Q := by
  unfold S_draft_Draft_string_Get at hS
  unfold C_draft_Draft_string_Get
  refine Spec.of_run Try.func90 (N := 29) (rs := [ResultVar.tmp 4, ResultVar.tmp 5]) rfl rfl rfl (Nat.le_of_ble_eq_true rfl) ?_
  refine Run.seq ?_
  refine Run.ops0 (idx := [0, 1]) rfl ?_
  refine Run.go rfl rfl rfl (sem_assign ((Value.string (ByteArray.mk #[]))) rfl ?_)
  refine Run.go rfl rfl rfl (sem_assign ((Value.bool false)) rfl ?_)
  refine Run.region_end ?_
  refine Run.seq ?_
  refine Run.ops0 (idx := [0]) rfl ?_
  refine Run.go rfl rfl rfl (sem_assign ((Value.string (ByteArray.mk #[]))) rfl ?_)
  refine Run.region_end ?_
  refine Run.seq ?_
  refine Run.seq ?_
  refine Run.ops0 (idx := [0, 1]) rfl ?_
  refine Run.go rfl rfl rfl (sem_move ((Value.pointer p1)) rfl ?_)
  obtain ⟨hT, hF⟩ := hS
  by_cases hb5 : p1 = none
  · have hS := hT hb5; clear hT hF
    refine Run.go rfl rfl rfl (sem_ptrNilT p1 (.inl rfl) true rfl rfl TF.ptr_155 hb5 rfl ?_)
    refine Run.region_end ?_
    refine Run.condT rfl ?_
    refine Run.seq ?_
    refine Run.ops0 (idx := [0, 1, 2]) rfl ?_
    refine Run.go rfl rfl rfl (sem_move ((Value.string (ByteArray.mk #[]))) rfl ?_)
    refine Run.go rfl rfl rfl (sem_assign ((Value.string (ByteArray.mk #[]))) rfl ?_)
    refine Run.go rfl rfl rfl (sem_assign ((Value.bool false)) rfl ?_)
    refine Run.region_end ?_
    refine Run.ret ⟨.inr rfl, ?_⟩
    exact hS.imp fun h' hq => ⟨(ByteArray.mk #[]), (false), rfl, hq⟩
  · have hS := hF hb5; clear hT hF
    refine Run.go rfl rfl rfl (sem_ptrNilF p1 (.inl rfl) false rfl rfl TF.ptr_155 hb5 rfl ?_)
    refine Run.region_end ?_
    refine Run.condF rfl ?_
    refine Run.skip ?_
    refine Run.seq ?_
    refine Run.ops0 (idx := [0, 1, 2, 3, 4, 5, 6, 7]) rfl ?_
    refine Run.go rfl rfl rfl (sem_move ((Value.pointer p1)) rfl ?_)
    refine Run.go rfl rfl rfl (sem_move ((Value.int .i64 (i2))) rfl ?_)
    refine Run.go rfl rfl rfl (sem_callL [(Value.pointer p1), (Value.int .i64 (i2))] (TF.goes_101) rfl rfl (Spec.mono hS fun v h6 hv => ?_))
    obtain ⟨i7, b8, rfl, hS⟩ := hv
    refine Run.go rfl rfl rfl (sem_move ((Value.tuple #[(Value.int .i64 (i7)), (Value.bool b8)])) rfl ?_)
    refine Run.go rfl rfl rfl (sem_extract #[(Value.int .i64 (i7)), (Value.bool b8)] ((Value.int .i64 (i7))) rfl rfl ?_)
    obtain ⟨hT, hF⟩ := hS
    cases b8
    · have hS := hF rfl; clear hT hF
      refine Run.go rfl rfl rfl (sem_extract #[(Value.int .i64 (i7)), (Value.bool false)] (.bool false) rfl rfl ?_)
      refine Run.go rfl rfl rfl (sem_assign ((Value.int .i64 (i7))) rfl ?_)
      refine Run.go rfl rfl rfl (sem_assign ((Value.bool false)) rfl ?_)
      refine Run.region_end ?_
      refine Run.seq ?_
      refine Run.seq ?_
      refine Run.ops0 (idx := [0, 1]) rfl ?_
      refine Run.go rfl rfl rfl (sem_move ((Value.bool false)) rfl ?_)
      refine Run.go rfl rfl rfl (sem_not false rfl ?_)
      refine Run.region_end ?_
      refine Run.condT rfl ?_
      refine Run.seq ?_
      refine Run.ops0 (idx := [0, 1, 2]) rfl ?_
      refine Run.go rfl rfl rfl (sem_move ((Value.string (ByteArray.mk #[]))) rfl ?_)
      refine Run.go rfl rfl rfl (sem_assign ((Value.string (ByteArray.mk #[]))) rfl ?_)
      refine Run.go rfl rfl rfl (sem_assign ((Value.bool false)) rfl ?_)
      refine Run.region_end ?_
      refine Run.ret ⟨.inr rfl, ?_⟩
      exact hS.imp fun h' hq => ⟨(ByteArray.mk #[]), (false), rfl, hq⟩
    · have hS := hT rfl; clear hT hF
      refine Run.go rfl rfl rfl (sem_extract #[(Value.int .i64 (i7)), (Value.bool true)] (.bool true) rfl rfl ?_)
      refine Run.go rfl rfl rfl (sem_assign ((Value.int .i64 (i7))) rfl ?_)
      refine Run.go rfl rfl rfl (sem_assign ((Value.bool true)) rfl ?_)
      refine Run.region_end ?_
      refine Run.seq ?_
      refine Run.seq ?_
      refine Run.ops0 (idx := [0, 1]) rfl ?_
      refine Run.go rfl rfl rfl (sem_move ((Value.bool true)) rfl ?_)
      refine Run.go rfl rfl rfl (sem_not true rfl ?_)
      refine Run.region_end ?_
      refine Run.condF rfl ?_
      refine Run.skip ?_
      refine Run.seq ?_
      refine Run.ops0 (idx := [0, 1, 2, 3, 4, 5, 6, 7, 8, 9]) rfl ?_
      refine Run.go rfl rfl rfl (sem_move ((Value.pointer p1)) rfl ?_)
      obtain ⟨A9, e10, hS⟩ := hS
      refine Run.go rfl rfl rfl (sem_nilCheck A9 (congrArg Value.pointer e10) ?_)
      refine Run.go rfl rfl rfl (sem_fieldAddr A9 0 rfl TF.fld_158_0 ?_)
      refine Run.ldSl hS fun a11 n12 c13 h14 hl hS => ?_
      refine Run.go rfl rfl rfl (sem_load1 A9 ((Value.slice a11 n12 c13)) rfl TF.agg_156 hl ?_)
      refine Run.go rfl rfl rfl (sem_move ((Value.int .i64 (i7))) rfl ?_)
      obtain ⟨A15, e16, hi0, hi1, hS⟩ := hS
      refine Run.go rfl rfl rfl (sem_indexAddrS A15 n12 c13 .i64 (i7) (congrArg (fun a => Value.slice a n12 c13) e16) rfl TF.slc_156 hi0 hi1 ?_)
      refine Run.go rfl rfl rfl (sem_fieldAddr (Addr.add A15 (Int.toNat (i7) * 2)) 1 rfl TF.fld_176_1 ?_)
      obtain ⟨s17, hl, hS⟩ := hS
      refine Run.go rfl rfl rfl (sem_load1 (Addr.add (Addr.add A15 (Int.toNat (i7) * 2)) 1) ((Value.string s17)) rfl TF.agg_9 hl ?_)
      refine Run.go rfl rfl rfl (sem_assign ((Value.string s17)) rfl ?_)
      refine Run.go rfl rfl rfl (sem_assign ((Value.bool true)) rfl ?_)
      refine Run.region_end ?_
      refine Run.ret ⟨.inr rfl, ?_⟩
      exact hS.imp fun h' hq => ⟨s17, (true), rfl, hq⟩
set_option maxHeartbeats 4000000 in
theorem C_draft_Draft_string_Put.of {B : RO} {p1 : Option Addr} {i2 : Int} {s3 : ByteArray} {h : Heap} {Q : Bool → Heap → Prop} (hS : S_draft_Draft_string_Put B p1 i2 s3 h Q) : C_draft_Draft_string_Put B p1 i2 s3 h Q := by
  unfold S_draft_Draft_string_Put at hS
  unfold C_draft_Draft_string_Put
  refine Spec.of_run Try.func91 (N := 39) (rs := [ResultVar.tmp 6]) rfl rfl rfl (Nat.le_of_ble_eq_true rfl) ?_
  refine Run.seq ?_
  refine Run.ops0 (idx := [0]) rfl ?_
  refine Run.go rfl rfl rfl (sem_assign ((Value.bool false)) rfl ?_)
  refine Run.region_end ?_
  refine Run.seq ?_
  refine Run.seq ?_
  refine Run.ops0 (idx := [0, 1]) rfl ?_
  refine Run.go rfl rfl rfl (sem_move ((Value.pointer p1)) rfl ?_)
  obtain ⟨hT, hF⟩ := hS
  by_cases hb5 : p1 = none
  · have hS := hT hb5; clear hT hF
    refine Run.go rfl rfl rfl (sem_ptrNilT p1 (.inl rfl) true rfl rfl TF.ptr_155 hb5 rfl ?_)
    refine Run.region_end ?_
    refine Run.condT rfl ?_
    refine Run.seq ?_
    refine Run.ops0 (idx := [0]) rfl ?_
    refine Run.go rfl rfl rfl (sem_assign ((Value.bool false)) rfl ?_)
    refine Run.region_end ?_
    refine Run.ret ⟨.inr rfl, ?_⟩
    exact hS.imp fun h' hq => ⟨(false), rfl, hq⟩
  · have hS := hF hb5; clear hT hF
    refine Run.go rfl rfl rfl (sem_ptrNilF p1 (.inl rfl) false rfl rfl TF.ptr_155 hb5 rfl ?_)
    refine Run.region_end ?_
    refine Run.condF rfl ?_
    refine Run.skip ?_
    refine Run.seq ?_
    refine Run.ops0 (idx := [0, 1, 2, 3, 4, 5, 6, 7]) rfl ?_
    refine Run.go rfl rfl rfl (sem_move ((Value.pointer p1)) rfl ?_)
    refine Run.go rfl rfl rfl (sem_move ((Value.int .i64 (i2))) rfl ?_)
    refine Run.go rfl rfl rfl (sem_callL [(Value.pointer p1), (Value.int .i64 (i2))] (TF.goes_101) rfl rfl (Spec.mono hS fun v h6 hv => ?_))
    obtain ⟨i7, b8, rfl, hS⟩ := hv
    refine Run.go rfl rfl rfl (sem_move ((Value.tuple #[(Value.int .i64 (i7)), (Value.bool b8)])) rfl ?_)
    refine Run.go rfl rfl rfl (sem_extract #[(Value.int .i64 (i7)), (Value.bool b8)] ((Value.int .i64 (i7))) rfl rfl ?_)
    obtain ⟨hT, hF⟩ := hS
    cases b8
    · have hS := hF rfl; clear hT hF
      refine Run.go rfl rfl rfl (sem_extract #[(Value.int .i64 (i7)), (Value.bool false)] (.bool false) rfl rfl ?_)
      refine Run.go rfl rfl rfl (sem_assign ((Value.int .i64 (i7))) rfl ?_)
      refine Run.go rfl rfl rfl (sem_assign ((Value.bool false)) rfl ?_)
      refine Run.region_end ?_
      refine Run.seq ?_
      refine Run.seq ?_
      refine Run.ops0 (idx := [0]) rfl ?_
      refine Run.go rfl rfl rfl (sem_move ((Value.bool false)) rfl ?_)
      refine Run.region_end ?_
      refine Run.condF rfl ?_
      refine Run.ops0 (idx := [0, 1, 2, 3, 4, 5, 6, 7, 8, 9, 10, 11, 12, 13]) rfl ?_
      refine Run.go rfl rfl rfl (sem_move ((Value.pointer p1)) rfl ?_)
      refine Run.go rfl rfl rfl (sem_move ((Value.pointer p1)) rfl ?_)
      obtain ⟨A9, e10, hS⟩ := hS
      refine Run.go rfl rfl rfl (sem_nilCheck A9 (congrArg Value.pointer e10) ?_)
      refine Run.go rfl rfl rfl (sem_fieldAddr A9 0 rfl TF.fld_158_0 ?_)
      refine Run.ldSl hS fun a11 n12 c13 h14 hl hS => ?_
      refine Run.go rfl rfl rfl (sem_load1 A9 ((Value.slice a11 n12 c13)) rfl TF.agg_156 hl ?_)
      refine Run.go rfl rfl rfl (sem_move ((Value.int .i64 (i7))) rfl ?_)
      refine Run.go rfl rfl rfl (sem_move ((Value.int .i64 (i2))) rfl ?_)
      refine Run.go rfl rfl rfl (sem_move ((Value.string s3)) rfl ?_)
      refine Run.go rfl rfl rfl (sem_buildSL [(0, (Value.int .i64 (i2))), (1, (Value.string s3))] [(Value.int .i64 (i2)), (Value.string s3)] TF.zero_176 TF.places_176 rfl rfl ?_)
      refine Run.go rfl rfl rfl (sem_buildSliceL [(0, (Value.agg #[(Value.int .i64 (i2)), (Value.string s3)]))] [(Value.int .i64 (i2)), (Value.string s3)] TF.slc_156 TF.zero_176 rfl (by decide) (by decide) rfl rfl (fun k15 hb1 hb2 h16 hb3 => ?_))
      have hS := hS k15 hb1 hb2 h16 hb3
      refine Run.go rfl rfl rfl (sem_callL [(Value.slice a11 n12 c13), (Value.int .i64 (i7)), (Value.slice (some ⟨k15, 0, none⟩) 1 1)] (TF.goes_102) rfl rfl (Spec.mono hS fun v h17 hv => ?_))
      obtain ⟨a18, n19, c20, rfl, hS⟩ := hv
      obtain ⟨A21, e22, hS⟩ := hS
      refine Run.go rfl rfl rfl (sem_nilCheck A21 (congrArg Value.pointer e22) ?_)
      refine Run.go rfl rfl rfl (sem_fieldAddr A21 0 rfl TF.fld_158_0 ?_)
      obtain ⟨h23, hst, hS⟩ := hS
      refine Run.go rfl rfl rfl (sem_store1 A21 ((Value.slice a18 n19 c20)) h23 rfl rfl rfl TF.sz_156 hst ?_)
      refine Run.region_end ?_
      refine Run.seq ?_
      refine Run.ops0 (idx := [0]) rfl ?_
      refine Run.go rfl rfl rfl (sem_assign ((Value.bool true)) rfl ?_)
      refine Run.region_end ?_
      refine Run.ret ⟨.inr rfl, ?_⟩
      exact hS.imp fun h' hq => ⟨(true), rfl, hq⟩
    · have hS := hT rfl; clear hT hF
      refine Run.go rfl rfl rfl (sem_extract #[(Value.int .i64 (i7)), (Value.bool true)] (.bool true) rfl rfl ?_)
      refine Run.go rfl rfl rfl (sem_assign ((Value.int .i64 (i7))) rfl ?_)
      refine Run.go rfl rfl rfl (sem_assign ((Value.bool true)) rfl ?_)
      refine Run.region_end ?_
      refine Run.seq ?_
      refine Run.seq ?_
      refine Run.ops0 (idx := [0]) rfl ?_
      refine Run.go rfl rfl rfl (sem_move ((Value.bool true)) rfl ?_)
      refine Run.region_end ?_
      refine Run.condT rfl ?_
      refine Run.ops0 (idx := [0, 1, 2, 3, 4, 5, 6, 7, 8]) rfl ?_
      refine Run.go rfl rfl rfl (sem_move ((Value.pointer p1)) rfl ?_)
      obtain ⟨A24, e25, hS⟩ := hS
      refine Run.go rfl rfl rfl (sem_nilCheck A24 (congrArg Value.pointer e25) ?_)
      refine Run.go rfl rfl rfl (sem_fieldAddr A24 0 rfl TF.fld_158_0 ?_)
      refine Run.ldSl hS fun a26 n27 c28 h29 hl hS => ?_
      refine Run.go rfl rfl rfl (sem_load1 A24 ((Value.slice a26 n27 c28)) rfl TF.agg_156 hl ?_)
      refine Run.go rfl rfl rfl (sem_move ((Value.int .i64 (i7))) rfl ?_)
      refine Run.go rfl rfl rfl (sem_move ((Value.string s3)) rfl ?_)
      obtain ⟨A30, e31, hi0, hi1, hS⟩ := hS
      refine Run.go rfl rfl rfl (sem_indexAddrS A30 n27 c28 .i64 (i7) (congrArg (fun a => Value.slice a n27 c28) e31) rfl TF.slc_156 hi0 hi1 ?_)
      refine Run.go rfl rfl rfl (sem_fieldAddr (Addr.add A30 (Int.toNat (i7) * 2)) 1 rfl TF.fld_176_1 ?_)
      obtain ⟨h32, hst, hS⟩ := hS
      refine Run.go rfl rfl rfl (sem_store1 (Addr.add (Addr.add A30 (Int.toNat (i7) * 2)) 1) ((Value.string s3)) h32 rfl rfl rfl TF.sz_9 hst ?_)
      refine Run.region_end ?_
      refine Run.seq ?_
      refine Run.ops0 (idx := [0]) rfl ?_
      refine Run.go rfl rfl rfl (sem_assign ((Value.bool true)) rfl ?_)
      refine Run.region_end ?_
      refine Run.ret ⟨.inr rfl, ?_⟩
      exact hS.imp fun h' hq => ⟨(true), rfl, hq⟩
set_option maxHeartbeats 4000000 in
theorem C_draft_Draft_string_Len.of {B : RO} {p1 : Option Addr} {h : Heap} {Q : Int → Heap → Prop} (hS : S_draft_Draft_string_Len B p1 h Q) : C_draft_Draft_string_Len B p1 h Q := by
  unfold S_draft_Draft_string_Len at hS
  unfold C_draft_Draft_string_Len
  refine Spec.of_run Try.func92 (N := 10) (rs := [ResultVar.tmp 2]) rfl rfl rfl (Nat.le_of_ble_eq_true rfl) ?_
  refine Run.seq ?_
  refine Run.ops0 (idx := [0]) rfl ?_
  refine Run.go rfl rfl rfl (sem_assign ((Value.int .i64 (0))) rfl ?_)
  refine Run.region_end ?_
  refine Run.seq ?_
  refine Run.seq ?_
  refine Run.ops0 (idx := [0, 1]) rfl ?_
  refine Run.go rfl rfl rfl (sem_move ((Value.pointer p1)) rfl ?_)
  obtain ⟨hT, hF⟩ := hS
  by_cases hb3 : p1 = none
  · have hS := hT hb3; clear hT hF
    refine Run.go rfl rfl rfl (sem_ptrNilT p1 (.inl rfl) true rfl rfl TF.ptr_155 hb3 rfl ?_)
    refine Run.region_end ?_
    refine Run.condT rfl ?_
    refine Run.seq ?_
    refine Run.ops0 (idx := [0]) rfl ?_
    refine Run.go rfl rfl rfl (sem_assign ((Value.int .i64 (0))) rfl ?_)
    refine Run.region_end ?_
    refine Run.ret ⟨.inr rfl, ?_⟩
    exact hS.imp fun h' hq => ⟨(0), rfl, hq⟩
  · have hS := hF hb3; clear hT hF
    refine Run.go rfl rfl rfl (sem_ptrNilF p1 (.inl rfl) false rfl rfl TF.ptr_155 hb3 rfl ?_)
    refine Run.region_end ?_
    refine Run.condF rfl ?_
    refine Run.skip ?_
    refine Run.seq ?_
    refine Run.ops0 (idx := [0, 1, 2, 3, 4, 5]) rfl ?_
    refine Run.go rfl rfl rfl (sem_move ((Value.pointer p1)) rfl ?_)
    obtain ⟨A4, e5, hS⟩ := hS
    refine Run.go rfl rfl rfl (sem_nilCheck A4 (congrArg Value.pointer e5) ?_)
    refine Run.go rfl rfl rfl (sem_fieldAddr A4 0 rfl TF.fld_158_0 ?_)
    refine Run.ldSl hS fun a6 n7 c8 h9 hl hS => ?_
    refine Run.go rfl rfl rfl (sem_load1 A4 ((Value.slice a6 n7 c8)) rfl TF.agg_156 hl ?_)
    refine Run.go rfl rfl rfl (sem_lenSl a6 n7 c8 rfl TF.sl_156 ?_)
    refine Run.go rfl rfl rfl (sem_assign ((Value.int .i64 ((n7 : Nat)))) rfl ?_)
    refine Run.region_end ?_
    refine Run.ret ⟨.inr rfl, ?_⟩
    exact hS.imp fun h' hq => ⟨((n7 : Nat)), rfl, hq⟩
set_option maxHeartbeats 4000000 in
theorem C_draft_Draft_int_find.of {B : RO} {p1 : Option Addr} {i2 : Int} {h : Heap} {Q : Int → Bool → Heap → Prop} (hS : S_draft_Draft_int_find B p1 i2 h Q) : C_draft_Draft_int_find B p1 i2 h Q := by
  unfold S_draft_Draft_int_find at hS
  unfold C_draft_Draft_int_find
  refine Spec.of_run Try.func93 (N := 14) (rs := [ResultVar.tmp 4, ResultVar.tmp 5]) rfl rfl rfl (Nat.le_of_ble_eq_true rfl) ?_
  refine Run.seq ?_
  refine Run.ops0 (idx := [0, 1]) rfl ?_
  refine Run.go rfl rfl rfl (sem_assign ((Value.int .i64 (0))) rfl ?_)
  refine Run.go rfl rfl rfl (sem_assign ((Value.bool false)) rfl ?_)
  refine Run.region_end ?_
  refine Run.seq ?_
  refine Run.ops0 (idx := [0, 1, 2, 3, 4, 5, 6, 7, 8, 9]) rfl ?_
  refine Run.go rfl rfl rfl (sem_move ((Value.pointer p1)) rfl ?_)
  obtain ⟨A5, e6, hS⟩ := hS
  refine Run.go rfl rfl rfl (sem_nilCheck A5 (congrArg Value.pointer e6) ?_)
  refine Run.go rfl rfl rfl (sem_fieldAddr A5 0 rfl TF.fld_122_0 ?_)
  refine Run.ldSl hS fun a7 n8 c9 h10 hl hS => ?_
  refine Run.go rfl rfl rfl (sem_load1 A5 ((Value.slice a7 n8 c9)) rfl TF.agg_120 hl ?_)
  refine Run.go rfl rfl rfl (sem_move ((Value.int .i64 (i2))) rfl ?_)
  refine Run.go rfl rfl rfl (sem_callL [(Value.slice a7 n8 c9), (Value.int .i64 (i2)), (Value.func (.func 104) #[] #[])] (TF.goes_103) rfl rfl (Spec.mono hS fun v h11 hv => ?_))
  obtain ⟨i12, b13, rfl, hS⟩ := hv
  refine Run.go rfl rfl rfl (sem_extract #[(Value.int .i64 (i12)), (Value.bool b13)] ((Value.int .i64 (i12))) rfl rfl ?_)
  refine Run.go rfl rfl rfl (sem_extract #[(Value.int .i64 (i12)), (Value.bool b13)] ((Value.bool b13)) rfl rfl ?_)
  refine Run.go rfl rfl rfl (sem_assign ((Value.int .i64 (i12))) rfl ?_)
  refine Run.go rfl rfl rfl (sem_assign ((Value.bool b13)) rfl ?_)
  refine Run.region_end ?_
  refine Run.ret ⟨.inr rfl, ?_⟩
  exact hS.imp fun h' hq => ⟨(i12), (b13), rfl, hq⟩
set_option maxHeartbeats 4000000 in
theorem C_slices_Insert_s_draft_entry_int_draft_entry_int.of {B : RO} {a1 : Option Addr} {n2 : Nat} {c3 : Nat} {i4 : Int} {a5 : Option Addr} {n6 : Nat} {c7 : Nat} {h : Heap} {Q : Option Addr → Nat → Nat → Heap → Prop} (hS : S_slices_Insert_s_draft_entry_int_draft_entry_int B a1 n2 c3 i4 a5 n6 c7 h Q) : C_slices_Insert_s_draft_entry_int_draft_entry_int B a1 n2 c3 i4 a5 n6 c7 h Q := by
  unfold S_slices_Insert_s_draft_entry_int_draft_entry_int at hS
  unfold C_slices_Insert_s_draft_entry_int_draft_entry_int
  refine Spec.of_run Try.func94 (N := 95) (rs := [ResultVar.tmp 6]) rfl rfl rfl (Nat.le_of_ble_eq_true rfl) ?_
  refine Run.seq ?_
  refine Run.ops0 (idx := [0]) rfl ?_
  refine Run.go rfl rfl rfl (sem_assign ((Value.slice none 0 0)) rfl ?_)
  refine Run.region_end ?_
  refine Run.seq ?_
  refine Run.ops0 (idx := [0, 1, 2]) rfl ?_
  refine Run.go rfl rfl rfl (sem_move ((Value.slice a1 n2 c3)) rfl ?_)
  refine Run.go rfl rfl rfl (sem_move ((Value.int .i64 (i4))) rfl ?_)
  obtain ⟨hi0, hi1, hi2, hS⟩ := hS
  refine Run.go rfl rfl rfl (sem_sliceSlI a1 n2 c3 (i4) ((n2 : Nat)) rfl TF.slc_120 ⟨_, rfl⟩ rfl hi0 hi1 hi2 ?_)
  refine Run.region_end ?_
  refine Run.seq ?_
  refine Run.ops0 (idx := [0, 1, 2]) rfl ?_
  refine Run.go rfl rfl rfl (sem_move ((Value.slice a5 n6 c7)) rfl ?_)
  refine Run.go rfl rfl rfl (sem_lenSl a5 n6 c7 rfl TF.sl_120 ?_)
  refine Run.go rfl rfl rfl (sem_assign ((Value.int .i64 ((n6 : Nat)))) rfl ?_)
  refine Run.region_end ?_
  refine Run.seq ?_
  refine Run.seq ?_
  refine Run.ops0 (idx := [0, 1]) rfl ?_
  refine Run.go rfl rfl rfl (sem_move ((Value.int .i64 ((n6 : Nat)))) rfl ?_)
  obtain ⟨hT, hF⟩ := hS
  by_cases hb11 : ((n6 : Nat) : Int) = 0
  · have hS := hT hb11; clear hT hF
    refine Run.go rfl rfl rfl (sem_binI .i64 ((n6 : Nat)) (0) (.bool true) rfl rfl (binI_eql_t hb11) ?_)
    refine Run.region_end ?_
    refine Run.condT rfl ?_
    refine Run.seq ?_
    refine Run.ops0 (idx := [0, 1]) rfl ?_
    refine Run.go rfl rfl rfl (sem_move ((Value.slice a1 n2 c3)) rfl ?_)
    refine Run.go rfl rfl rfl (sem_assign ((Value.slice a1 n2 c3)) rfl ?_)
    refine Run.region_end ?_
    refine Run.ret ⟨.inr rfl, ?_⟩
    exact hS.imp fun h' hq => ⟨a1, n2, c3, rfl, hq⟩
  · have hS := hF hb11; clear hT hF
    refine Run.go rfl rfl rfl (sem_binI .i64 ((n6 : Nat)) (0) (.bool false) rfl rfl (binI_eql_f hb11) ?_)
    refine Run.region_end ?_
    refine Run.condF rfl ?_
    refine Run.skip ?_
    refine Run.seq ?_
    refine Run.ops0 (idx := [0, 1, 2]) rfl ?_
    refine Run.go rfl rfl rfl (sem_move ((Value.slice a1 n2 c3)) rfl ?_)
    refine Run.go rfl rfl rfl (sem_lenSl a1 n2 c3 rfl TF.sl_120 ?_)
    refine Run.go rfl rfl rfl (sem_assign ((Value.int .i64 ((n2 : Nat)))) rfl ?_)
    refine Run.region_end ?_
    refine Run.seq ?_
    refine Run.seq ?_
    refine Run.ops0 (idx := [0, 1, 2]) rfl ?_
    refine Run.go rfl rfl rfl (sem_move ((Value.int .i64 (i4))) rfl ?_)
    refine Run.go rfl rfl rfl (sem_move ((Value.int .i64 ((n2 : Nat)))) rfl ?_)
    obtain ⟨hT, hF⟩ := hS
    by_cases hb12 : (i4 : Int) = (n2 : Nat)
    · have hS := hT hb12; clear hT hF
      refine Run.go rfl rfl rfl (sem_binI .i64 (i4) ((n2 : Nat)) (.bool true) rfl rfl (binI_eql_t hb12) ?_)
      refine Run.region_end ?_
      refine Run.condT rfl ?_
      refine Run.seq ?_
      refine Run.ops0 (idx := [0, 1, 2, 3]) rfl ?_
      refine Run.go rfl rfl rfl (sem_move ((Value.slice a1 n2 c3)) rfl ?_)
      refine Run.go rfl rfl rfl (sem_move ((Value.slice a5 n6 c7)) rfl ?_)
      refine Run.go rfl rfl rfl (sem_appendL [(Value.slice a1 n2 c3), (Value.slice a5 n6 c7)] rfl (semH_mono (fun v h13 hv => ?_) hS))
      obtain ⟨a14, n15, c16, rfl, hS⟩ := hv
      refine Run.go rfl rfl rfl (sem_assign ((Value.slice a14 n15 c16)) rfl ?_)
      refine Run.region_end ?_
      refine Run.ret ⟨.inr rfl, ?_⟩
      exact hS.imp fun h' hq => ⟨a14, n15, c16, rfl, hq⟩
    · have hS := hF hb12; clear hT hF
      refine Run.go rfl rfl rfl (sem_binI .i64 (i4) ((n2 : Nat)) (.bool false) rfl rfl (binI_eql_f hb12) ?_)
      refine Run.region_end ?_
      refine Run.condF rfl ?_
      refine Run.skip ?_
      refine Run.seq ?_
      refine Run.seq ?_
      refine Run.ops0 (idx := [0, 1, 2, 3, 4, 5]) rfl ?_
      refine Run.go rfl rfl rfl (sem_move ((Value.int .i64 ((n2 : Nat)))) rfl ?_)
      refine Run.go rfl rfl rfl (sem_move ((Value.int .i64 ((n6 : Nat)))) rfl ?_)
      refine Run.go rfl rfl rfl (sem_binI .i64 ((n2 : Nat)) ((n6 : Nat)) ((Value.int .i64 (IntKind.wrap .i64 (((n2 : Nat)) + ((n6 : Nat)))))) rfl rfl rfl ?_)
      refine Run.go rfl rfl rfl (sem_move ((Value.slice a1 n2 c3)) rfl ?_)
      refine Run.go rfl rfl rfl (sem_capSl a1 (n2) (c3) rfl TF.sl_120 ?_)
      obtain ⟨hT, hF⟩ := hS
      by_cases hb17 : (IntKind.wrap .i64 (((n2 : Nat)) + ((n6 : Nat))) : Int) > ((c3 : Nat))
      · have hS := hT hb17; clear hT hF
        refine Run.go rfl rfl rfl (sem_binI .i64 (IntKind.wrap .i64 (((n2 : Nat)) + ((n6 : Nat)))) ((c3 : Nat)) (.bool true) rfl rfl (binI_gtr_t hb17) ?_)
        refine Run.region_end ?_
        refine Run.condT rfl ?_
        refine Run.seq ?_
        refine Run.ops0 (idx := [0, 1, 2, 3, 4, 5, 6, 7, 8, 9]) rfl ?_
        refine Run.go rfl rfl rfl (sem_move ((Value.slice a1 n2 c3)) rfl ?_)
        refine Run.go rfl rfl rfl (sem_move ((Value.int .i64 (i4))) rfl ?_)
        obtain ⟨hi0, hi1, hi2, hS⟩ := hS
        refine Run.go rfl rfl rfl (sem_sliceSlI a1 n2 c3 (0) (i4) rfl TF.slc_120 rfl ⟨_, rfl⟩ hi0 hi1 hi2 ?_)
        refine Run.go rfl rfl rfl (sem_move ((Value.int .i64 ((n2 : Nat)))) rfl ?_)
        refine Run.go rfl rfl rfl (sem_move ((Value.int .i64 ((n6 : Nat)))) rfl ?_)
        refine Run.go rfl rfl rfl (sem_binI .i64 ((n2 : Nat)) ((n6 : Nat)) ((Value.int .i64 (IntKind.wrap .i64 (((n2 : Nat)) + ((n6 : Nat)))))) rfl rfl rfl ?_)
        refine Run.go rfl rfl rfl (sem_move ((Value.int .i64 (i4))) rfl ?_)
        refine Run.go rfl rfl rfl (sem_binI .i64 (IntKind.wrap .i64 (((n2 : Nat)) + ((n6 : Nat)))) (i4) ((Value.int .i64 (IntKind.wrap .i64 ((IntKind.wrap .i64 (((n2 : Nat)) + ((n6 : Nat)))) - (i4))))) rfl rfl rfl ?_)
        refine Run.go rfl rfl rfl (sem_appendL [(Value.slice (if c3 = Int.toNat (0) then a1 else Option.map (·.add (Int.toNat (0) * 2)) a1) (Int.toNat (i4) - Int.toNat (0)) (c3 - Int.toNat (0))), (Value.int .i64 (IntKind.wrap .i64 ((IntKind.wrap .i64 (((n2 : Nat)) + ((n6 : Nat)))) - (i4))))] rfl (semH_mono (fun v h18 hv => ?_) hS))
        obtain ⟨a19, n20, c21, rfl, hS⟩ := hv
        refine Run.go rfl rfl rfl (sem_assign ((Value.slice a19 n20 c21)) rfl ?_)
        refine Run.region_end ?_
        refine Run.seq ?_
        refine Run.ops0 (idx := [0, 1, 2, 3, 4]) rfl ?_
        refine Run.go rfl rfl rfl (sem_move ((Value.slice a19 n20 c21)) rfl ?_)
        refine Run.go rfl rfl rfl (sem_move ((Value.int .i64 (i4))) rfl ?_)
        obtain ⟨hi0, hi1, hi2, hS⟩ := hS
        refine Run.go rfl rfl rfl (sem_sliceSlI a19 n20 c21 (i4) ((n20 : Nat)) rfl TF.slc_120 ⟨_, rfl⟩ rfl hi0 hi1 hi2 ?_)
        refine Run.go rfl rfl rfl (sem_move ((Value.slice a5 n6 c7)) rfl ?_)
        refine Run.go rfl rfl rfl (sem_copyL [(Value.slice (if c21 = Int.toNat (i4) then a19 else Option.map (·.add (Int.toNat (i4) * 2)) a19) (Int.toNat ((n20 : Nat)) - Int.toNat (i4)) (c21 - Int.toNat (i4))), (Value.slice a5 n6 c7)] rfl (semH_mono (fun v h22 hv => ?_) hS))
        obtain ⟨i23, rfl, hS⟩ := hv
        refine Run.region_end ?_
        refine Run.seq ?_
        refine Run.draw (fun h' => h' = h22) [8] [.q 0, .q 1, .q 2, .q 3, .q 4, .q 5, .q 6, .q 7, .x 8] TF.mixed (by kernel_rfl) rfl ?_
        refine RunO.quiet rfl rfl rfl (quiet_eq (sem_move ((Value.slice a19 n20 c21)) rfl ⟨rfl, rfl⟩)) ?_
        refine RunO.quiet rfl rfl rfl (quiet_eq (sem_move ((Value.int .i64 (i4))) rfl ⟨rfl, rfl⟩)) ?_
        refine RunO.quiet rfl rfl rfl (quiet_eq (sem_move ((Value.int .i64 ((n6 : Nat)))) rfl ⟨rfl, rfl⟩)) ?_
        refine RunO.quiet rfl rfl rfl (quiet_eq (sem_binI .i64 (i4) ((n6 : Nat)) ((Value.int .i64 (IntKind.wrap .i64 ((i4) + ((n6 : Nat)))))) rfl rfl rfl ⟨rfl, rfl⟩)) ?_
        obtain ⟨hi0, hi1, hi2, hS⟩ := hS
        refine RunO.quiet rfl rfl rfl (quiet_eq (sem_sliceSlI a19 n20 c21 (IntKind.wrap .i64 ((i4) + ((n6 : Nat)))) ((n20 : Nat)) rfl TF.slc_120 ⟨_, rfl⟩ rfl hi0 hi1 hi2 ⟨rfl, rfl⟩)) ?_
        refine RunO.quiet rfl rfl rfl (quiet_eq (sem_move ((Value.slice a1 n2 c3)) rfl ⟨rfl, rfl⟩)) ?_
        refine RunO.quiet rfl rfl rfl (quiet_eq (sem_move ((Value.int .i64 (i4))) rfl ⟨rfl, rfl⟩)) ?_
        obtain ⟨hi0, hi1, hi2, hS⟩ := hS
        refine RunO.quiet rfl rfl rfl (quiet_eq (sem_sliceSlI a1 n2 c3 (i4) ((n2 : Nat)) rfl TF.slc_120 ⟨_, rfl⟩ rfl hi0 hi1 hi2 ⟨rfl, rfl⟩)) ?_
        refine OpH.go rfl rfl rfl (sem_copyL [(Value.slice (if c21 = Int.toNat (IntKind.wrap .i64 ((i4) + ((n6 : Nat)))) then a19 else Option.map (·.add (Int.toNat (IntKind.wrap .i64 ((i4) + ((n6 : Nat)))) * 2)) a19) (Int.toNat ((n20 : Nat)) - Int.toNat (IntKind.wrap .i64 ((i4) + ((n6 : Nat))))) (c21 - Int.toNat (IntKind.wrap .i64 ((i4) + ((n6 : Nat)))))), (Value.slice (if c3 = Int.toNat (i4) then a1 else Option.map (·.add (Int.toNat (i4) * 2)) a1) (Int.toNat ((n2 : Nat)) - Int.toNat (i4)) (c3 - Int.toNat (i4)))] rfl (semH_mono (fun v h24 hv => ?_) hS))
        obtain ⟨i25, rfl, hS⟩ := hv
        refine ⟨fun hz => Bool.noConfusion hz, ?_⟩
        refine Run.seq ?_
        refine Run.ops0 (idx := [0, 1]) rfl ?_
        refine Run.go rfl rfl rfl (sem_move ((Value.slice a19 n20 c21)) rfl ?_)
        refine Run.go rfl rfl rfl (sem_assign ((Value.slice a19 n20 c21)) rfl ?_)
        refine Run.region_end ?_
        refine Run.ret ⟨.inr rfl, ?_⟩
        exact hS.imp fun h' hq => ⟨a19, n20, c21, rfl, hq⟩
      · have hS := hF hb17; clear hT hF
        refine Run.go rfl rfl rfl (sem_binI .i64 (IntKind.wrap .i64 (((n2 : Nat)) + ((n6 : Nat)))) ((c3 : Nat)) (.bool false) rfl rfl (binI_gtr_f hb17) ?_)
        refine Run.region_end ?_
        refine Run.condF rfl ?_
        refine Run.skip ?_
        refine Run.seq ?_
        refine Run.ops0 (idx := [0, 1, 2, 3, 4, 5]) rfl ?_
        refine Run.go rfl rfl rfl (sem_move ((Value.slice a1 n2 c3)) rfl ?_)
        refine Run.go rfl rfl rfl (sem_move ((Value.int .i64 ((n2 : Nat)))) rfl ?_)
        refine Run.go rfl rfl rfl (sem_move ((Value.int .i64 ((n6 : Nat)))) rfl ?_)
        refine Run.go rfl rfl rfl (sem_binI .i64 ((n2 : Nat)) ((n6 : Nat)) ((Value.int .i64 (IntKind.wrap .i64 (((n2 : Nat)) + ((n6 : Nat)))))) rfl rfl rfl ?_)
        obtain ⟨hi0, hi1, hi2, hS⟩ := hS
        refine Run.go rfl rfl rfl (sem_sliceSlI a1 n2 c3 (0) (IntKind.wrap .i64 (((n2 : Nat)) + ((n6 : Nat)))) rfl TF.slc_120 rfl ⟨_, rfl⟩ hi0 hi1 hi2 ?_)
        refine Run.go rfl rfl rfl (sem_assign ((Value.slice (if c3 = Int.toNat (0) then a1 else Option.map (·.add (Int.toNat (0) * 2)) a1) (Int.toNat (IntKind.wrap .i64 (((n2 : Nat)) + ((n6 : Nat)))) - Int.toNat (0)) (c3 - Int.toNat (0)))) rfl ?_)
        refine Run.region_end ?_
        refine Run.seq ?_
        refine Run.seq ?_
        refine Run.ops0 (idx := [0, 1, 2, 3, 4, 5, 6, 7]) rfl ?_
        refine Run.go rfl rfl rfl (sem_move ((Value.slice a5 n6 c7)) rfl ?_)
        refine Run.go rfl rfl rfl (sem_move ((Value.slice (if c3 = Int.toNat (0) then a1 else Option.map (·.add (Int.toNat (0) * 2)) a1) (Int.toNat (IntKind.wrap .i64 (((n2 : Nat)) + ((n6 : Nat)))) - Int.toNat (0)) (c3 - Int.toNat (0)))) rfl ?_)
        refine Run.go rfl rfl rfl (sem_move ((Value.int .i64 (i4))) rfl ?_)
        refine Run.go rfl rfl rfl (sem_move ((Value.int .i64 ((n6 : Nat)))) rfl ?_)
        refine Run.go rfl rfl rfl (sem_binI .i64 (i4) ((n6 : Nat)) ((Value.int .i64 (IntKind.wrap .i64 ((i4) + ((n6 : Nat)))))) rfl rfl rfl ?_)
        obtain ⟨hi0, hi1, hi2, hS⟩ := hS
        refine Run.go rfl rfl rfl (sem_sliceSlI (if c3 = Int.toNat (0) then a1 else Option.map (·.add (Int.toNat (0) * 2)) a1) (Int.toNat (IntKind.wrap .i64 (((n2 : Nat)) + ((n6 : Nat)))) - Int.toNat (0)) (c3 - Int.toNat (0)) (IntKind.wrap .i64 ((i4) + ((n6 : Nat)))) (((Int.toNat (IntKind.wrap .i64 (((n2 : Nat)) + ((n6 : Nat)))) - Int.toNat (0)) : Nat)) rfl TF.slc_120 ⟨_, rfl⟩ rfl hi0 hi1 hi2 ?_)
        refine Run.go rfl rfl rfl (sem_callXL [(Value.slice a5 n6 c7), (Value.slice (if (c3 - Int.toNat (0)) = Int.toNat (IntKind.wrap .i64 ((i4) + ((n6 : Nat)))) then (if c3 = Int.toNat (0) then a1 else Option.map (·.add (Int.toNat (0) * 2)) a1) else Option.map (·.add (Int.toNat (IntKind.wrap .i64 ((i4) + ((n6 : Nat)))) * 2)) (if c3 = Int.toNat (0) then a1 else Option.map (·.add (Int.toNat (0) * 2)) a1)) (Int.toNat (((Int.toNat (IntKind.wrap .i64 (((n2 : Nat)) + ((n6 : Nat)))) - Int.toNat (0)) : Nat)) - Int.toNat (IntKind.wrap .i64 ((i4) + ((n6 : Nat))))) ((c3 - Int.toNat (0)) - Int.toNat (IntKind.wrap .i64 ((i4) + ((n6 : Nat))))))] (TF.goesx_105) rfl rfl (semH_mono (fun v h26 hv => ?_) hS))
        obtain ⟨b27, rfl, hS⟩ := hv
        obtain ⟨hT, hF⟩ := hS
        cases b27
        · have hS := hF rfl; clear hT hF
          refine Run.go rfl rfl rfl (sem_not false rfl ?_)
          refine Run.region_end ?_
          refine Run.condT rfl ?_
          refine Run.seq ?_
          refine Run.draw (fun h' => h' = h26) [8] [.q 0, .q 1, .q 2, .q 3, .q 4, .q 5, .q 6, .q 7, .x 8] TF.mixed (by kernel_rfl) rfl ?_
          refine RunO.quiet rfl rfl rfl (quiet_eq (sem_move ((Value.slice (if c3 = Int.toNat (0) then a1 else Option.map (·.add (Int.toNat (0) * 2)) a1) (Int.toNat (IntKind.wrap .i64 (((n2 : Nat)) + ((n6 : Nat)))) - Int.toNat (0)) (c3 - Int.toNat (0)))) rfl ⟨rfl, rfl⟩)) ?_
          refine RunO.quiet rfl rfl rfl (quiet_eq (sem_move ((Value.int .i64 (i4))) rfl ⟨rfl, rfl⟩)) ?_
          refine RunO.quiet rfl rfl rfl (quiet_eq (sem_move ((Value.int .i64 ((n6 : Nat)))) rfl ⟨rfl, rfl⟩)) ?_
          refine RunO.quiet rfl rfl rfl (quiet_eq (sem_binI .i64 (i4) ((n6 : Nat)) ((Value.int .i64 (IntKind.wrap .i64 ((i4) + ((n6 : Nat)))))) rfl rfl rfl ⟨rfl, rfl⟩)) ?_
          obtain ⟨hi0, hi1, hi2, hS⟩ := hS
          refine RunO.quiet rfl rfl rfl (quiet_eq (sem_sliceSlI (if c3 = Int.toNat (0) then a1 else Option.map (·.add (Int.toNat (0) * 2)) a1) (Int.toNat (IntKind.wrap .i64 (((n2 : Nat)) + ((n6 : Nat)))) - Int.toNat (0)) (c3 - Int.toNat (0)) (IntKind.wrap .i64 ((i4) + ((n6 : Nat)))) (((Int.toNat (IntKind.wrap .i64 (((n2 : Nat)) + ((n6 : Nat)))) - Int.toNat (0)) : Nat)) rfl TF.slc_120 ⟨_, rfl⟩ rfl hi0 hi1 hi2 ⟨rfl, rfl⟩)) ?_
          refine RunO.quiet rfl rfl rfl (quiet_eq (sem_move ((Value.slice (if c3 = Int.toNat (0) then a1 else Option.map (·.add (Int.toNat (0) * 2)) a1) (Int.toNat (IntKind.wrap .i64 (((n2 : Nat)) + ((n6 : Nat)))) - Int.toNat (0)) (c3 - Int.toNat (0)))) rfl ⟨rfl, rfl⟩)) ?_
          refine RunO.quiet rfl rfl rfl (quiet_eq (sem_move ((Value.int .i64 (i4))) rfl ⟨rfl, rfl⟩)) ?_
          obtain ⟨hi0, hi1, hi2, hS⟩ := hS
          refine RunO.quiet rfl rfl rfl (quiet_eq (sem_sliceSlI (if c3 = Int.toNat (0) then a1 else Option.map (·.add (Int.toNat (0) * 2)) a1) (Int.toNat (IntKind.wrap .i64 (((n2 : Nat)) + ((n6 : Nat)))) - Int.toNat (0)) (c3 - Int.toNat (0)) (i4) (((Int.toNat (IntKind.wrap .i64 (((n2 : Nat)) + ((n6 : Nat)))) - Int.toNat (0)) : Nat)) rfl TF.slc_120 ⟨_, rfl⟩ rfl hi0 hi1 hi2 ⟨rfl, rfl⟩)) ?_
          refine OpH.go rfl rfl rfl (sem_copyL [(Value.slice (if (c3 - Int.toNat (0)) = Int.toNat (IntKind.wrap .i64 ((i4) + ((n6 : Nat)))) then (if c3 = Int.toNat (0) then a1 else Option.map (·.add (Int.toNat (0) * 2)) a1) else Option.map (·.add (Int.toNat (IntKind.wrap .i64 ((i4) + ((n6 : Nat)))) * 2)) (if c3 = Int.toNat (0) then a1 else Option.map (·.add (Int.toNat (0) * 2)) a1)) (Int.toNat (((Int.toNat (IntKind.wrap .i64 (((n2 : Nat)) + ((n6 : Nat)))) - Int.toNat (0)) : Nat)) - Int.toNat (IntKind.wrap .i64 ((i4) + ((n6 : Nat))))) ((c3 - Int.toNat (0)) - Int.toNat (IntKind.wrap .i64 ((i4) + ((n6 : Nat)))))), (Value.slice (if (c3 - Int.toNat (0)) = Int.toNat (i4) then (if c3 = Int.toNat (0) then a1 else Option.map (·.add (Int.toNat (0) * 2)) a1) else Option.map (·.add (Int.toNat (i4) * 2)) (if c3 = Int.toNat (0) then a1 else Option.map (·.add (Int.toNat (0) * 2)) a1)) (Int.toNat (((Int.toNat (IntKind.wrap .i64 (((n2 : Nat)) + ((n6 : Nat)))) - Int.toNat (0)) : Nat)) - Int.toNat (i4)) ((c3 - Int.toNat (0)) - Int.toNat (i4)))] rfl (semH_mono (fun v h28 hv => ?_) hS))
          obtain ⟨i29, rfl, hS⟩ := hv
          refine ⟨fun hz => Bool.noConfusion hz, ?_⟩
          refine Run.seq ?_
          refine Run.ops0 (idx := [0, 1, 2, 3, 4]) rfl ?_
          refine Run.go rfl rfl rfl (sem_move ((Value.slice (if c3 = Int.toNat (0) then a1 else Option.map (·.add (Int.toNat (0) * 2)) a1) (Int.toNat (IntKind.wrap .i64 (((n2 : Nat)) + ((n6 : Nat)))) - Int.toNat (0)) (c3 - Int.toNat (0)))) rfl ?_)
          refine Run.go rfl rfl rfl (sem_move ((Value.int .i64 (i4))) rfl ?_)
          obtain ⟨hi0, hi1, hi2, hS⟩ := hS
          refine Run.go rfl rfl rfl (sem_sliceSlI (if c3 = Int.toNat (0) then a1 else Option.map (·.add (Int.toNat (0) * 2)) a1) (Int.toNat (IntKind.wrap .i64 (((n2 : Nat)) + ((n6 : Nat)))) - Int.toNat (0)) (c3 - Int.toNat (0)) (i4) (((Int.toNat (IntKind.wrap .i64 (((n2 : Nat)) + ((n6 : Nat)))) - Int.toNat (0)) : Nat)) rfl TF.slc_120 ⟨_, rfl⟩ rfl hi0 hi1 hi2 ?_)
          refine Run.go rfl rfl rfl (sem_move ((Value.slice a5 n6 c7)) rfl ?_)
          refine Run.go rfl rfl rfl (sem_copyL [(Value.slice (if (c3 - Int.toNat (0)) = Int.toNat (i4) then (if c3 = Int.toNat (0) then a1 else Option.map (·.add (Int.toNat (0) * 2)) a1) else Option.map (·.add (Int.toNat (i4) * 2)) (if c3 = Int.toNat (0) then a1 else Option.map (·.add (Int.toNat (0) * 2)) a1)) (Int.toNat (((Int.toNat (IntKind.wrap .i64 (((n2 : Nat)) + ((n6 : Nat)))) - Int.toNat (0)) : Nat)) - Int.toNat (i4)) ((c3 - Int.toNat (0)) - Int.toNat (i4))), (Value.slice a5 n6 c7)] rfl (semH_mono (fun v h30 hv => ?_) hS))
          obtain ⟨i31, rfl, hS⟩ := hv
          refine Run.region_end ?_
          refine Run.seq ?_
          refine Run.ops0 (idx := [0, 1]) rfl ?_
          refine Run.go rfl rfl rfl (sem_move ((Value.slice (if c3 = Int.toNat (0) then a1 else Option.map (·.add (Int.toNat (0) * 2)) a1) (Int.toNat (IntKind.wrap .i64 (((n2 : Nat)) + ((n6 : Nat)))) - Int.toNat (0)) (c3 - Int.toNat (0)))) rfl ?_)
          refine Run.go rfl rfl rfl (sem_assign ((Value.slice (if c3 = Int.toNat (0) then a1 else Option.map (·.add (Int.toNat (0) * 2)) a1) (Int.toNat (IntKind.wrap .i64 (((n2 : Nat)) + ((n6 : Nat)))) - Int.toNat (0)) (c3 - Int.toNat (0)))) rfl ?_)
          refine Run.region_end ?_
          refine Run.ret ⟨.inr rfl, ?_⟩
          exact hS.imp fun h' hq => ⟨(if c3 = Int.toNat (0) then a1 else Option.map (·.add (Int.toNat (0) * 2)) a1), (Int.toNat (IntKind.wrap .i64 (((n2 : Nat)) + ((n6 : Nat)))) - Int.toNat (0)), (c3 - Int.toNat (0)), rfl, hq⟩
        · have hS := hT rfl; clear hT hF
          refine Run.go rfl rfl rfl (sem_not true rfl ?_)
          refine Run.region_end ?_
          refine Run.condF rfl ?_
          refine Run.skip ?_
          refine Run.seq ?_
          refine Run.ops0 (idx := [0, 1, 2, 3, 4]) rfl ?_
          refine Run.go rfl rfl rfl (sem_move ((Value.slice (if c3 = Int.toNat (0) then a1 else Option.map (·.add (Int.toNat (0) * 2)) a1) (Int.toNat (IntKind.wrap .i64 (((n2 : Nat)) + ((n6 : Nat)))) - Int.toNat (0)) (c3 - Int.toNat (0)))) rfl ?_)
          refine Run.go rfl rfl rfl (sem_move ((Value.int .i64 ((n2 : Nat)))) rfl ?_)
          obtain ⟨hi0, hi1, hi2, hS⟩ := hS
          refine Run.go rfl rfl rfl (sem_sliceSlI (if c3 = Int.toNat (0) then a1 else Option.map (·.add (Int.toNat (0) * 2)) a1) (Int.toNat (IntKind.wrap .i64 (((n2 : Nat)) + ((n6 : Nat)))) - Int.toNat (0)) (c3 - Int.toNat (0)) ((n2 : Nat)) (((Int.toNat (IntKind.wrap .i64 (((n2 : Nat)) + ((n6 : Nat)))) - Int.toNat (0)) : Nat)) rfl TF.slc_120 ⟨_, rfl⟩ rfl hi0 hi1 hi2 ?_)
          refine Run.go rfl rfl rfl (sem_move ((Value.slice a5 n6 c7)) rfl ?_)
          refine Run.go rfl rfl rfl (sem_copyL [(Value.slice (if (c3 - Int.toNat (0)) = Int.toNat ((n2 : Nat)) then (if c3 = Int.toNat (0) then a1 else Option.map (·.add (Int.toNat (0) * 2)) a1) else Option.map (·.add (Int.toNat ((n2 : Nat)) * 2)) (if c3 = Int.toNat (0) then a1 else Option.map (·.add (Int.toNat (0) * 2)) a1)) (Int.toNat (((Int.toNat (IntKind.wrap .i64 (((n2 : Nat)) + ((n6 : Nat)))) - Int.toNat (0)) : Nat)) - Int.toNat ((n2 : Nat))) ((c3 - Int.toNat (0)) - Int.toNat ((n2 : Nat)))), (Value.slice a5 n6 c7)] rfl (semH_mono (fun v h32 hv => ?_) hS))
          obtain ⟨i33, rfl, hS⟩ := hv
          refine Run.region_end ?_
          refine Run.seq ?_
          refine Run.ops0 (idx := [0, 1, 2, 3, 4]) rfl ?_
          refine Run.go rfl rfl rfl (sem_move ((Value.slice (if c3 = Int.toNat (0) then a1 else Option.map (·.add (Int.toNat (0) * 2)) a1) (Int.toNat (IntKind.wrap .i64 (((n2 : Nat)) + ((n6 : Nat)))) - Int.toNat (0)) (c3 - Int.toNat (0)))) rfl ?_)
          refine Run.go rfl rfl rfl (sem_move ((Value.int .i64 (i4))) rfl ?_)
          obtain ⟨hi0, hi1, hi2, hS⟩ := hS
          refine Run.go rfl rfl rfl (sem_sliceSlI (if c3 = Int.toNat (0) then a1 else Option.map (·.add (Int.toNat (0) * 2)) a1) (Int.toNat (IntKind.wrap .i64 (((n2 : Nat)) + ((n6 : Nat)))) - Int.toNat (0)) (c3 - Int.toNat (0)) (i4) (((Int.toNat (IntKind.wrap .i64 (((n2 : Nat)) + ((n6 : Nat)))) - Int.toNat (0)) : Nat)) rfl TF.slc_120 ⟨_, rfl⟩ rfl hi0 hi1 hi2 ?_)
          refine Run.go rfl rfl rfl (sem_move ((Value.int .i64 ((n6 : Nat)))) rfl ?_)
          refine Run.go rfl rfl rfl (sem_callL [(Value.slice (if (c3 - Int.toNat (0)) = Int.toNat (i4) then (if c3 = Int.toNat (0) then a1 else Option.map (·.add (Int.toNat (0) * 2)) a1) else Option.map (·.add (Int.toNat (i4) * 2)) (if c3 = Int.toNat (0) then a1 else Option.map (·.add (Int.toNat (0) * 2)) a1)) (Int.toNat (((Int.toNat (IntKind.wrap .i64 (((n2 : Nat)) + ((n6 : Nat)))) - Int.toNat (0)) : Nat)) - Int.toNat (i4)) ((c3 - Int.toNat (0)) - Int.toNat (i4))), (Value.int .i64 ((n6 : Nat)))] (TF.goes_106) rfl rfl (Spec.mono hS fun v h34 hv => ?_))
          obtain ⟨rfl, hS⟩ := hv
          refine Run.region_end ?_
          refine Run.seq ?_
          refine Run.ops0 (idx := [0, 1]) rfl ?_
          refine Run.go rfl rfl rfl (sem_move ((Value.slice (if c3 = Int.toNat (0) then a1 else Option.map (·.add (Int.toNat (0) * 2)) a1) (Int.toNat (IntKind.wrap .i64 (((n2 : Nat)) + ((n6 : Nat)))) - Int.toNat (0)) (c3 - Int.toNat (0)))) rfl ?_)
          refine Run.go rfl rfl rfl (sem_assign ((Value.slice (if c3 = Int.toNat (0) then a1 else Option.map (·.add (Int.toNat (0) * 2)) a1) (Int.toNat (IntKind.wrap .i64 (((n2 : Nat)) + ((n6 : Nat)))) - Int.toNat (0)) (c3 - Int.toNat (0)))) rfl ?_)
          refine Run.region_end ?_
          refine Run.ret ⟨.inr rfl, ?_⟩
          exact hS.imp fun h' hq => ⟨(if c3 = Int.toNat (0) then a1 else Option.map (·.add (Int.toNat (0) * 2)) a1), (Int.toNat (IntKind.wrap .i64 (((n2 : Nat)) + ((n6 : Nat)))) - Int.toNat (0)), (c3 - Int.toNat (0)), rfl, hq⟩
set_option maxHeartbeats 4000000 in
theorem C_draft_Draft_int_All_1.of {B : RO} {v1 : Value} {A2 : Addr} {h : Heap} {Q : Heap → Prop} (hS : S_draft_Draft_int_All_1 B v1 A2 h Q) : C_draft_Draft_int_All_1 B v1 A2 h Q := by
  unfold S_draft_Draft_int_All_1 at hS
  unfold C_draft_Draft_int_All_1
  refine Spec.of_run Try.func95 (N := 24) (rs := []) rfl rfl rfl (Nat.le_of_ble_eq_true rfl) ?_
  refine Run.seq ?_
  refine Run.seq ?_
  refine Run.ops0 (idx := [0, 1]) rfl ?_
  obtain ⟨p3, hl, hS⟩ := hS
  refine Run.go rfl rfl rfl (sem_load1 A2 ((Value.pointer p3)) rfl TF.agg_119 hl ?_)
  obtain ⟨hT, hF⟩ := hS
  by_cases hb4 : p3 = none
  · have hS := hT hb4; clear hT hF
    refine Run.go rfl rfl rfl (sem_ptrNilT p3 (.inl rfl) true rfl rfl TF.ptr_119 hb4 rfl ?_)
    refine Run.region_end ?_
    refine Run.condT rfl ?_
    refine Run.ret ⟨.inr rfl, ?_⟩
    exact hS.imp fun h' hq => ⟨rfl, hq⟩
  · have hS := hF hb4; clear hT hF
    refine Run.go rfl rfl rfl (sem_ptrNilF p3 (.inl rfl) false rfl rfl TF.ptr_119 hb4 rfl ?_)
    refine Run.region_end ?_
    refine Run.condF rfl ?_
    refine Run.skip ?_
    refine Run.seq ?_
    refine Run.ops0 (idx := [0, 1, 2, 3, 4, 5]) rfl ?_
    obtain ⟨p5, hl, hS⟩ := hS
    refine Run.go rfl rfl rfl (sem_load1 A2 ((Value.pointer p5)) rfl TF.agg_119 hl ?_)
    obtain ⟨A6, e7, hS⟩ := hS
    refine Run.go rfl rfl rfl (sem_nilCheck A6 (congrArg Value.pointer e7) ?_)
    refine Run.go rfl rfl rfl (sem_fieldAddr A6 0 rfl TF.fld_122_0 ?_)
    refine Run.ldSl hS fun a8 n9 c10 h11 hl hS => ?_
    refine Run.go rfl rfl rfl (sem_load1 A6 ((Value.slice a8 n9 c10)) rfl TF.agg_120 hl ?_)
    refine Run.go rfl rfl rfl (sem_lenSl a8 n9 c10 rfl TF.sl_120 ?_)
    refine Run.go rfl rfl rfl (sem_move ((Value.int .i64 (0))) rfl ?_)
    refine Run.region_end ?_
    refine Run.block ?_
    obtain ⟨J17, m15, h0, hS⟩ := hS
    refine Run.of_fin (h0.imp fun h' h0 => ?_)
    refine Run.loop (σ := Int × Nat) (fun x e h => J17 x.1 x.2 h ∧ Agree [(0, v1), (10, (Value.slice a8 n9 c10)), (11, (Value.int .i64 ((n9 : Nat)))), (12, (Value.int .i64 (x.1)))] e) (fun x => x.2) ((0), m15) ⟨h0, ⟨rfl, rfl, rfl, rfl, trivial⟩⟩ ?_; clear h0
    rintro ⟨i12, m14⟩ e h13 ⟨hJ, hag⟩ ih16
    have hS := hS i12 m14 h13 hJ; clear hJ
    refine Run.env hag ?_; clear hag
    refine Run.seq ?_
    refine Run.ops0 (idx := [0]) rfl ?_
    obtain ⟨hT, hF⟩ := hS
    by_cases hb18 : (i12 : Int) < ((n9 : Nat))
    · have hS := hT hb18; clear hT hF
      refine Run.go rfl rfl rfl (sem_binI .i64 (i12) ((n9 : Nat)) (.bool true) rfl rfl (binI_lss_t hb18) ?_)
      refine Run.region_end ?_
      refine Run.seq ?_
      refine Run.condT rfl ?_
      refine Run.skip ?_
      refine Run.seq ?_
      refine Run.block ?_
      refine Run.seq ?_
      refine Run.ops0 (idx := [0, 1, 2, 3]) rfl ?_
      obtain ⟨A19, e20, hi0, hi1, hS⟩ := hS
      refine Run.go rfl rfl rfl (sem_indexAddrS A19 n9 c10 .i64 (i12) (congrArg (fun a => Value.slice a n9 c10) e20) rfl TF.slc_120 hi0 hi1 ?_)
      obtain ⟨i21, i22, hl, hS⟩ := hS
      refine Run.go rfl rfl rfl (sem_loadN (Addr.add A19 (Int.toNat (i12) * 2)) [(Value.int .i64 (i21)), (Value.int .i64 (i22))] rfl TF.agg_163 TF.sz_163 hl ?_)
      refine Run.go rfl rfl rfl (sem_allocN [(Value.int .i64 (0)), (Value.int .i64 (0))] TF.zero_163 (fun k23 hb1 hb2 h24 hb3 => ?_))
      have hS := hS k23 hb1 hb2 h24 hb3
      obtain ⟨h25, hst, hS⟩ := hS
      refine Run.go rfl rfl rfl (sem_storeN ⟨k23, 0, none⟩ [(Value.int .i64 (i21)), (Value.int .i64 (i22))] h25 rfl rfl TF.sz_163 hst ?_)
      refine Run.region_end ?_
      refine Run.seq ?_
      refine Run.ops0 (idx := [0, 1, 2, 3, 4, 5, 6]) rfl ?_
      refine Run.go rfl rfl rfl (sem_move (v1) rfl ?_)
      refine Run.go rfl rfl rfl (sem_fieldAddr ⟨k23, 0, none⟩ 0 rfl TF.fld_163_0 ?_)
      obtain ⟨i26, hl, hS⟩ := hS
      refine Run.go rfl rfl rfl (sem_load1 ⟨k23, 0, none⟩ ((Value.int .i64 (i26))) rfl TF.agg_3 hl ?_)
      refine Run.go rfl rfl rfl (sem_fieldAddr ⟨k23, 0, none⟩ 1 rfl TF.fld_163_1 ?_)
      obtain ⟨i27, hl, hS⟩ := hS
      refine Run.go rfl rfl rfl (sem_load1 ⟨k23, 1, none⟩ ((Value.int .i64 (i27))) rfl TF.agg_3 hl ?_)
      refine Run.go rfl rfl rfl (sem_callV (v1) [(Value.int .i64 (i26)), (Value.int .i64 (i27))] rfl rfl hS (fun nx h' ha => ha.mono fun v h28 hv => ?_))
      obtain ⟨b29, rfl, hS⟩ := hv
      obtain ⟨hT, hF⟩ := hS
      cases b29
      · have hS := hF rfl; clear hT hF
        refine Run.go rfl rfl rfl (sem_not false rfl ?_)
        refine Run.region_end ?_
        refine Run.condT rfl ?_
        refine Run.ret ⟨.inr rfl, ?_⟩
        exact hS.imp fun h' hq => ⟨rfl, hq⟩
      · have hS := hT rfl; clear hT hF
        refine Run.go rfl rfl rfl (sem_not true rfl ?_)
        refine Run.region_end ?_
        refine Run.condF rfl ?_
        refine Run.skip ?_
        refine Run.inBlock ?_
        refine Run.ops0 (idx := [0, 1]) rfl ?_
        refine Run.go rfl rfl rfl (sem_binI .i64 (i12) (1) ((Value.int .i64 (IntKind.wrap .i64 ((i12) + (1))))) rfl rfl rfl ?_)
        refine Run.go rfl rfl rfl (sem_move ((Value.int .i64 (IntKind.wrap .i64 ((i12) + (1))))) rfl ?_)
        refine Run.region_end ?_
        exact Run.of_fin (hS.imp fun h' ⟨m', hm, hS⟩ => ih16 ((IntKind.wrap .i64 ((i12) + (1))), m') _ _ ⟨hS, ⟨rfl, rfl, rfl, rfl, trivial⟩⟩ hm)
    · have hS := hF hb18; clear hT hF
      refine Run.go rfl rfl rfl (sem_binI .i64 (i12) ((n9 : Nat)) (.bool false) rfl rfl (binI_lss_f hb18) ?_)
      refine Run.region_end ?_
      refine Run.seq ?_
      refine Run.condF rfl ?_
      refine Run.exit rfl ?_
      refine Run.fall ⟨.inl rfl, ?_⟩
      exact hS.imp fun h' hq => ⟨rfl, hq⟩
set_option maxHeartbeats 4000000 in
theorem C_slices_Clone_s_draft_entry_int_draft_entry_int.of {B : RO} {a1 : Option Addr} {n2 : Nat} {c3 : Nat} {h : Heap} {Q : Option Addr → Nat → Nat → Heap → Prop} (hS : S_slices_Clone_s_draft_entry_int_draft_entry_int B a1 n2 c3 h Q) : C_slices_Clone_s_draft_entry_int_draft_entry_int B a1 n2 c3 h Q := by
  unfold S_slices_Clone_s_draft_entry_int_draft_entry_int at hS
  unfold C_slices_Clone_s_draft_entry_int_draft_entry_int
  refine Spec.of_run Try.func96 (N := 8) (rs := [ResultVar.tmp 2]) rfl rfl rfl (Nat.le_of_ble_eq_true rfl) ?_
  refine Run.seq ?_
  refine Run.ops0 (idx := [0]) rfl ?_
  refine Run.go rfl rfl rfl (sem_assign ((Value.slice none 0 0)) rfl ?_)
  refine Run.region_end ?_
  refine Run.seq ?_
  refine Run.seq ?_
  refine Run.ops0 (idx := [0, 1]) rfl ?_
  refine Run.go rfl rfl rfl (sem_move ((Value.slice a1 n2 c3)) rfl ?_)
  obtain ⟨hT, hF⟩ := hS
  by_cases hb7 : a1 = none
  · have hS := hT hb7; clear hT hF
    refine Run.go rfl rfl rfl (sem_slNilT (a1) (n2) (c3) (.inl rfl) true rfl rfl TF.sl_120 hb7 rfl ?_)
    refine Run.region_end ?_
    refine Run.condT rfl ?_
    refine Run.seq ?_
    refine Run.ops0 (idx := [0]) rfl ?_
    refine Run.go rfl rfl rfl (sem_assign ((Value.slice none 0 0)) rfl ?_)
    refine Run.region_end ?_
    refine Run.ret ⟨.inr rfl, ?_⟩
    exact hS.imp fun h' hq => ⟨none, 0, 0, rfl, hq⟩
  · have hS := hF hb7; clear hT hF
    refine Run.go rfl rfl rfl (sem_slNilF (a1) (n2) (c3) (.inl rfl) false rfl rfl TF.sl_120 hb7 rfl ?_)
    refine Run.region_end ?_
    refine Run.condF rfl ?_
    refine Run.skip ?_
    refine Run.seq ?_
    refine Run.ops0 (idx := [0, 1, 2, 3]) rfl ?_
    refine Run.go rfl rfl rfl (sem_buildSlice0N TF.slc_120 (fun k8 hb1 hb2 h9 hb3 => ?_))
    have hS := hS k8 hb1 hb2 h9 hb3
    refine Run.go rfl rfl rfl (sem_move ((Value.slice a1 n2 c3)) rfl ?_)
    refine Run.go rfl rfl rfl (sem_appendL [(Value.slice (some ⟨k8, 0, none⟩) 0 0), (Value.slice a1 n2 c3)] rfl (semH_mono (fun v h10 hv => ?_) hS))
    obtain ⟨a11, n12, c13, rfl, hS⟩ := hv
    refine Run.go rfl rfl rfl (sem_assign ((Value.slice a11 n12 c13)) rfl ?_)
    refine Run.region_end ?_
    refine Run.ret ⟨.inr rfl, ?_⟩
    exact hS.imp fun h' hq => ⟨a11, n12, c13, rfl, hq⟩
set_option maxHeartbeats 4000000 in
theorem C_draft_Draft_string_find.of {B : RO} {p1 : Option Addr} {i2 : Int} {h : Heap} {Q : Int → Bool → Heap → Prop} (hS : S_draft_Draft_string_find B p1 i2 h Q) : C_draft_Draft_string_find B p1 i2 h Q := by
  unfold S_draft_Draft_string_find at hS
  unfold C_draft_Draft_string_find
  refine Spec.of_run Try.func101 (N := 14) (rs := [ResultVar.tmp 4, ResultVar.tmp 5]) rfl rfl rfl (Nat.le_of_ble_eq_true rfl) ?_
  refine Run.seq ?_
  refine Run.ops0 (idx := [0, 1]) rfl ?_
  refine Run.go rfl rfl rfl (sem_assign ((Value.int .i64 (0))) rfl ?_)
  refine Run.go rfl rfl rfl (sem_assign ((Value.bool false)) rfl ?_)
  refine Run.region_end ?_
  refine Run.seq ?_
  refine Run.ops0 (idx := [0, 1, 2, 3, 4, 5, 6, 7, 8, 9]) rfl ?_
  refine Run.go rfl rfl rfl (sem_move ((Value.pointer p1)) rfl ?_)
  obtain ⟨A5, e6, hS⟩ := hS
  refine Run.go rfl rfl rfl (sem_nilCheck A5 (congrArg Value.pointer e6) ?_)
  refine Run.go rfl rfl rfl (sem_fieldAddr A5 0 rfl TF.fld_158_0 ?_)
  refine Run.ldSl hS fun a7 n8 c9 h10 hl hS => ?_
  refine Run.go rfl rfl rfl (sem_load1 A5 ((Value.slice a7 n8 c9)) rfl TF.agg_156 hl ?_)
  refine Run.go rfl rfl rfl (sem_move ((Value.int .i64 (i2))) rfl ?_)
  refine Run.go rfl rfl rfl (sem_callL [(Value.slice a7 n8 c9), (Value.int .i64 (i2)), (Value.func (.func 109) #[] #[])] (TF.goes_108) rfl rfl (Spec.mono hS fun v h11 hv => ?_))
  obtain ⟨i12, b13, rfl, hS⟩ := hv
  refine Run.go rfl rfl rfl (sem_extract #[(Value.int .i64 (i12)), (Value.bool b13)] ((Value.int .i64 (i12))) rfl rfl ?_)
  refine Run.go rfl rfl rfl (sem_extract #[(Value.int .i64 (i12)), (Value.bool b13)] ((Value.bool b13)) rfl rfl ?_)
  refine Run.go rfl rfl rfl (sem_assign ((Value.int .i64 (i12))) rfl ?_)
  refine Run.go rfl rfl rfl (sem_assign ((Value.bool b13)) rfl ?_)
  refine Run.region_end ?_
  refine Run.ret ⟨.inr rfl, ?_⟩
  exact hS.imp fun h' hq => ⟨(i12), (b13), rfl, hq⟩
set_option maxHeartbeats 4000000 in
theorem C_slices_Insert_s_draft_entry_string_draft_entry_string.of {B : RO} {a1 : Option Addr} {n2 : Nat} {c3 : Nat} {i4 : Int} {a5 : Option Addr} {n6 : Nat} {c7 : Nat} {h : Heap} {Q : Option Addr → Nat → Nat → Heap → Prop} (hS : S_slices_Insert_s_draft_entry_string_draft_entry_string B a1 n2 c3 i4 a5 n6 c7 h Q) : C_slices_Insert_s_draft_entry_string_draft_entry_string B a1 n2 c3 i4 a5 n6 c7 h Q := by
  unfold S_slices_Insert_s_draft_entry_string_draft_entry_string at hS
  unfold C_slices_Insert_s_draft_entry_string_draft_entry_string
  refine Spec.of_run Try.func102 (N := 95) (rs := [ResultVar.tmp 6]) rfl rfl rfl (Nat.le_of_ble_eq_true rfl) ?_
  refine Run.seq ?_
  refine Run.ops0 (idx := [0]) rfl ?_
  refine Run.go rfl rfl rfl (sem_assign ((Value.slice none 0 0)) rfl ?_)
  refine Run.region_end ?_
  refine Run.seq ?_
  refine Run.ops0 (idx := [0, 1, 2]) rfl ?_
  refine Run.go rfl rfl rfl (sem_move ((Value.slice a1 n2 c3)) rfl ?_)
  refine Run.go rfl rfl rfl (sem_move ((Value.int .i64 (i4))) rfl ?_)
  obtain ⟨hi0, hi1, hi2, hS⟩ := hS
  refine Run.go rfl rfl rfl (sem_sliceSlI a1 n2 c3 (i4) ((n2 : Nat)) rfl TF.slc_156 ⟨_, rfl⟩ rfl hi0 hi1 hi2 ?_)
  refine Run.region_end ?_
  refine Run.seq ?_
  refine Run.ops0 (idx := [0, 1, 2]) rfl ?_
  refine Run.go rfl rfl rfl (sem_move ((Value.slice a5 n6 c7)) rfl ?_)
  refine Run.go rfl rfl rfl (sem_lenSl a5 n6 c7 rfl TF.sl_156 ?_)
  refine Run.go rfl rfl rfl (sem_assign ((Value.int .i64 ((n6 : Nat)))) rfl ?_)
  refine Run.region_end ?_
  refine Run.seq ?_
  refine Run.seq ?_
  refine Run.ops0 (idx := [0, 1]) rfl ?_
  refine Run.go rfl rfl rfl (sem_move ((Value.int .i64 ((n6 : Nat)))) rfl ?_)
  obtain ⟨hT, hF⟩ := hS
  by_cases hb11 : ((n6 : Nat) : Int) = 0
  · have hS := hT hb11; clear hT hF
    refine Run.go rfl rfl rfl (sem_binI .i64 ((n6 : Nat)) (0) (.bool true) rfl rfl (binI_eql_t hb11) ?_)
    refine Run.region_end ?_
    refine Run.condT rfl ?_
    refine Run.seq ?_
    refine Run.ops0 (idx := [0, 1]) rfl ?_
    refine Run.go rfl rfl rfl (sem_move ((Value.slice a1 n2 c3)) rfl ?_)
    refine Run.go rfl rfl rfl (sem_assign ((Value.slice a1 n2 c3)) rfl ?_)
    refine Run.region_end ?_
    refine Run.ret ⟨.inr rfl, ?_⟩
    exact hS.imp fun h' hq => ⟨a1, n2, c3, rfl, hq⟩
  · have hS := hF hb11; clear hT hF
    refine Run.go rfl rfl rfl (sem_binI .i64 ((n6 : Nat)) (0) (.bool false) rfl rfl (binI_eql_f hb11) ?_)
    refine Run.region_end ?_
    refine Run.condF rfl ?_
    refine Run.skip ?_
    refine Run.seq ?_
    refine Run.ops0 (idx := [0, 1, 2]) rfl ?_
    refine Run.go rfl rfl rfl (sem_move ((Value.slice a1 n2 c3)) rfl ?_)
    refine Run.go rfl rfl rfl (sem_lenSl a1 n2 c3 rfl TF.sl_156 ?_)
    refine Run.go rfl rfl rfl (sem_assign ((Value.int .i64 ((n2 : Nat)))) rfl ?_)
    refine Run.region_end ?_
    refine Run.seq ?_
    refine Run.seq ?_
    refine Run.ops0 (idx := [0, 1, 2]) rfl ?_
    refine Run.go rfl rfl rfl (sem_move ((Value.int .i64 (i4))) rfl ?_)
    refine Run.go rfl rfl rfl (sem_move ((Value.int .i64 ((n2 : Nat)))) rfl ?_)
    obtain ⟨hT, hF⟩ := hS
    by_cases hb12 : (i4 : Int) = (n2 : Nat)
    · have hS := hT hb12; clear hT hF
      refine Run.go rfl rfl rfl (sem_binI .i64 (i4) ((n2 : Nat)) (.bool true) rfl rfl (binI_eql_t hb12) ?_)
      refine Run.region_end ?_
      refine Run.condT rfl ?_
      refine Run.seq ?_
      refine Run.ops0 (idx := [0, 1, 2, 3]) rfl ?_
      refine Run.go rfl rfl rfl (sem_move ((Value.slice a1 n2 c3)) rfl ?_)
      refine Run.go rfl rfl rfl (sem_move ((Value.slice a5 n6 c7)) rfl ?_)
      refine Run.go rfl rfl rfl (sem_appendL [(Value.slice a1 n2 c3), (Value.slice a5 n6 c7)] rfl (semH_mono (fun v h13 hv => ?_) hS))
      obtain ⟨a14, n15, c16, rfl, hS⟩ := hv
      refine Run.go rfl rfl rfl (sem_assign ((Value.slice a14 n15 c16)) rfl ?_)
      refine Run.region_end ?_
      refine Run.ret ⟨.inr rfl, ?_⟩
      exact hS.imp fun h' hq => ⟨a14, n15, c16, rfl, hq⟩
    · have hS := hF hb12; clear hT hF
      refine Run.go rfl rfl rfl (sem_binI .i64 (i4) ((n2 : Nat)) (.bool false) rfl rfl (binI_eql_f hb12) ?_)
      refine Run.region_end ?_
      refine Run.condF rfl ?_
      refine Run.skip ?_
      refine Run.seq ?_
      refine Run.seq ?_
      refine Run.ops0 (idx := [0, 1, 2, 3, 4, 5]) rfl ?_
      refine Run.go rfl rfl rfl (sem_move ((Value.int .i64 ((n2 : Nat)))) rfl ?_)
      refine Run.go rfl rfl rfl (sem_move ((Value.int .i64 ((n6 : Nat)))) rfl ?_)
      refine Run.go rfl rfl rfl (sem_binI .i64 ((n2 : Nat)) ((n6 : Nat)) ((Value.int .i64 (IntKind.wrap .i64 (((n2 : Nat)) + ((n6 : Nat)))))) rfl rfl rfl ?_)
      refine Run.go rfl rfl rfl (sem_move ((Value.slice a1 n2 c3)) rfl ?_)
      refine Run.go rfl rfl rfl (sem_capSl a1 (n2) (c3) rfl TF.sl_156 ?_)
      obtain ⟨hT, hF⟩ := hS
      by_cases hb17 : (IntKind.wrap .i64 (((n2 : Nat)) + ((n6 : Nat))) : Int) > ((c3 : Nat))
      · have hS := hT hb17; clear hT hF
        refine Run.go rfl rfl rfl (sem_binI .i64 (IntKind.wrap .i64 (((n2 : Nat)) + ((n6 : Nat)))) ((c3 : Nat)) (.bool true) rfl rfl (binI_gtr_t hb17) ?_)
        refine Run.region_end ?_
        refine Run.condT rfl ?_
        refine Run.seq ?_
        refine Run.ops0 (idx := [0, 1, 2, 3, 4, 5, 6, 7, 8, 9]) rfl ?_
        refine Run.go rfl rfl rfl (sem_move ((Value.slice a1 n2 c3)) rfl ?_)
        refine Run.go rfl rfl rfl (sem_move ((Value.int .i64 (i4))) rfl ?_)
        obtain ⟨hi0, hi1, hi2, hS⟩ := hS
        refine Run.go rfl rfl rfl (sem_sliceSlI a1 n2 c3 (0) (i4) rfl TF.slc_156 rfl ⟨_, rfl⟩ hi0 hi1 hi2 ?_)
        refine Run.go rfl rfl rfl (sem_move ((Value.int .i64 ((n2 : Nat)))) rfl ?_)
        refine Run.go rfl rfl rfl (sem_move ((Value.int .i64 ((n6 : Nat)))) rfl ?_)
        refine Run.go rfl rfl rfl (sem_binI .i64 ((n2 : Nat)) ((n6 : Nat)) ((Value.int .i64 (IntKind.wrap .i64 (((n2 : Nat)) + ((n6 : Nat)))))) rfl rfl rfl ?_)
        refine Run.go rfl rfl rfl (sem_move ((Value.int .i64 (i4))) rfl ?_)
        refine Run.go rfl rfl rfl (sem_binI .i64 (IntKind.wrap .i64 (((n2 : Nat)) + ((n6 : Nat)))) (i4) ((Value.int .i64 (IntKind.wrap .i64 ((IntKind.wrap .i64 (((n2 : Nat)) + ((n6 : Nat)))) - (i4))))) rfl rfl rfl ?_)
        refine Run.go rfl rfl rfl (sem_appendL [(Value.slice (if c3 = Int.toNat (0) then a1 else Option.map (·.add (Int.toNat (0) * 2)) a1) (Int.toNat (i4) - Int.toNat (0)) (c3 - Int.toNat (0))), (Value.int .i64 (IntKind.wrap .i64 ((IntKind.wrap .i64 (((n2 : Nat)) + ((n6 : Nat)))) - (i4))))] rfl (semH_mono (fun v h18 hv => ?_) hS))
        obtain ⟨a19, n20, c21, rfl, hS⟩ := hv
        refine Run.go rfl rfl rfl (sem_assign ((Value.slice a19 n20 c21)) rfl ?_)
        refine Run.region_end ?_
        refine Run.seq ?_
        refine Run.ops0 (idx := [0, 1, 2, 3, 4]) rfl ?_
        refine Run.go rfl rfl rfl (sem_move ((Value.slice a19 n20 c21)) rfl ?_)
        refine Run.go rfl rfl rfl (sem_move ((Value.int .i64 (i4))) rfl ?_)
        obtain ⟨hi0, hi1, hi2, hS⟩ := hS
        refine Run.go rfl rfl rfl (sem_sliceSlI a19 n20 c21 (i4) ((n20 : Nat)) rfl TF.slc_156 ⟨_, rfl⟩ rfl hi0 hi1 hi2 ?_)
        refine Run.go rfl rfl rfl (sem_move ((Value.slice a5 n6 c7)) rfl ?_)
        refine Run.go rfl rfl rfl (sem_copyL [(Value.slice (if c21 = Int.toNat (i4) then a19 else Option.map (·.add (Int.toNat (i4) * 2)) a19) (Int.toNat ((n20 : Nat)) - Int.toNat (i4)) (c21 - Int.toNat (i4))), (Value.slice a5 n6 c7)] rfl (semH_mono (fun v h22 hv => ?_) hS))
        obtain ⟨i23, rfl, hS⟩ := hv
        refine Run.region_end ?_
        refine Run.seq ?_
        refine Run.draw (fun h' => h' = h22) [8] [.q 0, .q 1, .q 2, .q 3, .q 4, .q 5, .q 6, .q 7, .x 8] TF.mixed (by kernel_rfl) rfl ?_
        refine RunO.quiet rfl rfl rfl (quiet_eq (sem_move ((Value.slice a19 n20 c21)) rfl ⟨rfl, rfl⟩)) ?_
        refine RunO.quiet rfl rfl rfl (quiet_eq (sem_move ((Value.int .i64 (i4))) rfl ⟨rfl, rfl⟩)) ?_
        refine RunO.quiet rfl rfl rfl (quiet_eq (sem_move ((Value.int .i64 ((n6 : Nat)))) rfl ⟨rfl, rfl⟩)) ?_
        refine RunO.quiet rfl rfl rfl (quiet_eq (sem_binI .i64 (i4) ((n6 : Nat)) ((Value.int .i64 (IntKind.wrap .i64 ((i4) + ((n6 : Nat)))))) rfl rfl rfl ⟨rfl, rfl⟩)) ?_
        obtain ⟨hi0, hi1, hi2, hS⟩ := hS
        refine RunO.quiet rfl rfl rfl (quiet_eq (sem_sliceSlI a19 n20 c21 (IntKind.wrap .i64 ((i4) + ((n6 : Nat)))) ((n20 : Nat)) rfl TF.slc_156 ⟨_, rfl⟩ rfl hi0 hi1 hi2 ⟨rfl, rfl⟩)) ?_
        refine RunO.quiet rfl rfl rfl (quiet_eq (sem_move ((Value.slice a1 n2 c3)) rfl ⟨rfl, rfl⟩)) ?_
        refine RunO.quiet rfl rfl rfl (quiet_eq (sem_move ((Value.int .i64 (i4))) rfl ⟨rfl, rfl⟩)) ?_
        obtain ⟨hi0, hi1, hi2, hS⟩ := hS
        refine RunO.quiet rfl rfl rfl (quiet_eq (sem_sliceSlI a1 n2 c3 (i4) ((n2 : Nat)) rfl TF.slc_156 ⟨_, rfl⟩ rfl hi0 hi1 hi2 ⟨rfl, rfl⟩)) ?_
        refine OpH.go rfl rfl rfl (sem_copyL [(Value.slice (if c21 = Int.toNat (IntKind.wrap .i64 ((i4) + ((n6 : Nat)))) then a19 else Option.map (·.add (Int.toNat (IntKind.wrap .i64 ((i4) + ((n6 : Nat)))) * 2)) a19) (Int.toNat ((n20 : Nat)) - Int.toNat (IntKind.wrap .i64 ((i4) + ((n6 : Nat))))) (c21 - Int.toNat (IntKind.wrap .i64 ((i4) + ((n6 : Nat)))))), (Value.slice (if c3 = Int.toNat (i4) then a1 else Option.map (·.add (Int.toNat (i4) * 2)) a1) (Int.toNat ((n2 : Nat)) - Int.toNat (i4)) (c3 - Int.toNat (i4)))] rfl (semH_mono (fun v h24 hv => ?_) hS))
        obtain ⟨i25, rfl, hS⟩ := hv
        refine ⟨fun hz => Bool.noConfusion hz, ?_⟩
        refine Run.seq ?_
        refine Run.ops0 (idx := [0, 1]) rfl ?_
        refine Run.go rfl rfl rfl (sem_move ((Value.slice a19 n20 c21)) rfl ?_)
        refine Run.go rfl rfl rfl (sem_assign ((Value.slice a19 n20 c21)) rfl ?_)
        refine Run.region_end ?_
        refine Run.ret ⟨.inr rfl, ?_⟩
        exact hS.imp fun h' hq => ⟨a19, n20, c21, rfl, hq⟩
      · have hS := hF hb17; clear hT hF
        refine Run.go rfl rfl rfl (sem_binI .i64 (IntKind.wrap .i64 (((n2 : Nat)) + ((n6 : Nat)))) ((c3 : Nat)) (.bool false) rfl rfl (binI_gtr_f hb17) ?_)
        refine Run.region_end ?_
        refine Run.condF rfl ?_
        refine Run.skip ?_
        refine Run.seq ?_
        refine Run.ops0 (idx := [0, 1, 2, 3, 4, 5]) rfl ?_
        refine Run.go rfl rfl rfl (sem_move ((Value.slice a1 n2 c3)) rfl ?_)
        refine Run.go rfl rfl rfl (sem_move ((Value.int .i64 ((n2 : Nat)))) rfl ?_)
        refine Run.go rfl rfl rfl (sem_move ((Value.int .i64 ((n6 : Nat)))) rfl ?_)
        refine Run.go rfl rfl rfl (sem_binI .i64 ((n2 : Nat)) ((n6 : Nat)) ((Value.int .i64 (IntKind.wrap .i64 (((n2 : Nat)) + ((n6 : Nat)))))) rfl rfl rfl ?_)
        obtain ⟨hi0, hi1, hi2, hS⟩ := hS
        refine Run.go rfl rfl rfl (sem_sliceSlI a1 n2 c3 (0) (IntKind.wrap .i64 (((n2 : Nat)) + ((n6 : Nat)))) rfl TF.slc_156 rfl ⟨_, rfl⟩ hi0 hi1 hi2 ?_)
        refine Run.go rfl rfl rfl (sem_assign ((Value.slice (if c3 = Int.toNat (0) then a1 else Option.map (·.add (Int.toNat (0) * 2)) a1) (Int.toNat (IntKind.wrap .i64 (((n2 : Nat)) + ((n6 : Nat)))) - Int.toNat (0)) (c3 - Int.toNat (0)))) rfl ?_)
        refine Run.region_end ?_
        refine Run.seq ?_
        refine Run.seq ?_
        refine Run.ops0 (idx := [0, 1, 2, 3, 4, 5, 6, 7]) rfl ?_
        refine Run.go rfl rfl rfl (sem_move ((Value.slice a5 n6 c7)) rfl ?_)
        refine Run.go rfl rfl rfl (sem_move ((Value.slice (if c3 = Int.toNat (0) then a1 else Option.map (·.add (Int.toNat (0) * 2)) a1) (Int.toNat (IntKind.wrap .i64 (((n2 : Nat)) + ((n6 : Nat)))) - Int.toNat (0)) (c3 - Int.toNat (0)))) rfl ?_)
        refine Run.go rfl rfl rfl (sem_move ((Value.int .i64 (i4))) rfl ?_)
        refine Run.go rfl rfl rfl (sem_move ((Value.int .i64 ((n6 : Nat)))) rfl ?_)
        refine Run.go rfl rfl rfl (sem_binI .i64 (i4) ((n6 : Nat)) ((Value.int .i64 (IntKind.wrap .i64 ((i4) + ((n6 : Nat)))))) rfl rfl rfl ?_)
        obtain ⟨hi0, hi1, hi2, hS⟩ := hS
        refine Run.go rfl rfl rfl (sem_sliceSlI (if c3 = Int.toNat (0) then a1 else Option.map (·.add (Int.toNat (0) * 2)) a1) (Int.toNat (IntKind.wrap .i64 (((n2 : Nat)) + ((n6 : Nat)))) - Int.toNat (0)) (c3 - Int.toNat (0)) (IntKind.wrap .i64 ((i4) + ((n6 : Nat)))) (((Int.toNat (IntKind.wrap .i64 (((n2 : Nat)) + ((n6 : Nat)))) - Int.toNat (0)) : Nat)) rfl TF.slc_156 ⟨_, rfl⟩ rfl hi0 hi1 hi2 ?_)
        refine Run.go rfl rfl rfl (sem_callXL [(Value.slice a5 n6 c7), (Value.slice (if (c3 - Int.toNat (0)) = Int.toNat (IntKind.wrap .i64 ((i4) + ((n6 : Nat)))) then (if c3 = Int.toNat (0) then a1 else Option.map (·.add (Int.toNat (0) * 2)) a1) else Option.map (·.add (Int.toNat (IntKind.wrap .i64 ((i4) + ((n6 : Nat)))) * 2)) (if c3 = Int.toNat (0) then a1 else Option.map (·.add (Int.toNat (0) * 2)) a1)) (Int.toNat (((Int.toNat (IntKind.wrap .i64 (((n2 : Nat)) + ((n6 : Nat)))) - Int.toNat (0)) : Nat)) - Int.toNat (IntKind.wrap .i64 ((i4) + ((n6 : Nat))))) ((c3 - Int.toNat (0)) - Int.toNat (IntKind.wrap .i64 ((i4) + ((n6 : Nat))))))] (TF.goesx_110) rfl rfl (semH_mono (fun v h26 hv => ?_) hS))
        obtain ⟨b27, rfl, hS⟩ := hv
        obtain ⟨hT, hF⟩ := hS
        cases b27
        · have hS := hF rfl; clear hT hF
          refine Run.go rfl rfl rfl (sem_not false rfl ?_)
          refine Run.region_end ?_
          refine Run.condT rfl ?_
          refine Run.seq ?_
          refine Run.draw (fun h' => h' = h26) [8] [.q 0, .q 1, .q 2, .q 3, .q 4, .q 5, .q 6, .q 7, .x 8] TF.mixed (by kernel_rfl) rfl ?_
          refine RunO.quiet rfl rfl rfl (quiet_eq (sem_move ((Value.slice (if c3 = Int.toNat (0) then a1 else Option.map (·.add (Int.toNat (0) * 2)) a1) (Int.toNat (IntKind.wrap .i64 (((n2 : Nat)) + ((n6 : Nat)))) - Int.toNat (0)) (c3 - Int.toNat (0)))) rfl ⟨rfl, rfl⟩)) ?_
          refine RunO.quiet rfl rfl rfl (quiet_eq (sem_move ((Value.int .i64 (i4))) rfl ⟨rfl, rfl⟩)) ?_
          refine RunO.quiet rfl rfl rfl (quiet_eq (sem_move ((Value.int .i64 ((n6 : Nat)))) rfl ⟨rfl, rfl⟩)) ?_
          refine RunO.quiet rfl rfl rfl (quiet_eq (sem_binI .i64 (i4) ((n6 : Nat)) ((Value.int .i64 (IntKind.wrap .i64 ((i4) + ((n6 : Nat)))))) rfl rfl rfl ⟨rfl, rfl⟩)) ?_
          obtain ⟨hi0, hi1, hi2, hS⟩ := hS
          refine RunO.quiet rfl rfl rfl (quiet_eq (sem_sliceSlI (if c3 = Int.toNat (0) then a1 else Option.map (·.add (Int.toNat (0) * 2)) a1) (Int.toNat (IntKind.wrap .i64 (((n2 : Nat)) + ((n6 : Nat)))) - Int.toNat (0)) (c3 - Int.toNat (0)) (IntKind.wrap .i64 ((i4) + ((n6 : Nat)))) (((Int.toNat (IntKind.wrap .i64 (((n2 : Nat)) + ((n6 : Nat)))) - Int.toNat (0)) : Nat)) rfl TF.slc_156 ⟨_, rfl⟩ rfl hi0 hi1 hi2 ⟨rfl, rfl⟩)) ?_
          refine RunO.quiet rfl rfl rfl (quiet_eq (sem_move ((Value.slice (if c3 = Int.toNat (0) then a1 else Option.map (·.add (Int.toNat (0) * 2)) a1) (Int.toNat (IntKind.wrap .i64 (((n2 : Nat)) + ((n6 : Nat)))) - Int.toNat (0)) (c3 - Int.toNat (0)))) rfl ⟨rfl, rfl⟩)) ?_
          refine RunO.quiet rfl rfl rfl (quiet_eq (sem_move ((Value.int .i64 (i4))) rfl ⟨rfl, rfl⟩)) ?_
          obtain ⟨hi0, hi1, hi2, hS⟩ := hS
          refine RunO.quiet rfl rfl rfl (quiet_eq (sem_sliceSlI (if c3 = Int.toNat (0) then a1 else Option.map (·.add (Int.toNat (0) * 2)) a1) (Int.toNat (IntKind.wrap .i64 (((n2 : Nat)) + ((n6 : Nat)))) - Int.toNat (0)) (c3 - Int.toNat (0)) (i4) (((Int.toNat (IntKind.wrap .i64 (((n2 : Nat)) + ((n6 : Nat)))) - Int.toNat (0)) : Nat)) rfl TF.slc_156 ⟨_, rfl⟩ rfl hi0 hi1 hi2 ⟨rfl, rfl⟩)) ?_
          refine OpH.go rfl rfl rfl (sem_copyL [(Value.slice (if (c3 - Int.toNat (0)) = Int.toNat (IntKind.wrap .i64 ((i4) + ((n6 : Nat)))) then (if c3 = Int.toNat (0) then a1 else Option.map (·.add (Int.toNat (0) * 2)) a1) else Option.map (·.add (Int.toNat (IntKind.wrap .i64 ((i4) + ((n6 : Nat)))) * 2)) (if c3 = Int.toNat (0) then a1 else Option.map (·.add (Int.toNat (0) * 2)) a1)) (Int.toNat (((Int.toNat (IntKind.wrap .i64 (((n2 : Nat)) + ((n6 : Nat)))) - Int.toNat (0)) : Nat)) - Int.toNat (IntKind.wrap .i64 ((i4) + ((n6 : Nat))))) ((c3 - Int.toNat (0)) - Int.toNat (IntKind.wrap .i64 ((i4) + ((n6 : Nat)))))), (Value.slice (if (c3 - Int.toNat (0)) = Int.toNat (i4) then (if c3 = Int.toNat (0) then a1 else Option.map (·.add (Int.toNat (0) * 2)) a1) else Option.map (·.add (Int.toNat (i4) * 2)) (if c3 = Int.toNat (0) then a1 else Option.map (·.add (Int.toNat (0) * 2)) a1)) (Int.toNat (((Int.toNat (IntKind.wrap .i64 (((n2 : Nat)) + ((n6 : Nat)))) - Int.toNat (0)) : Nat)) - Int.toNat (i4)) ((c3 - Int.toNat (0)) - Int.toNat (i4)))] rfl (semH_mono (fun v h28 hv => ?_) hS))
          obtain ⟨i29, rfl, hS⟩ := hv
          refine ⟨fun hz => Bool.noConfusion hz, ?_⟩
          refine Run.seq ?_
          refine Run.ops0 (idx := [0, 1, 2, 3, 4]) rfl ?_
          refine Run.go rfl rfl rfl (sem_move ((Value.slice (if c3 = Int.toNat (0) then a1 else Option.map (·.add (Int.toNat (0) * 2)) a1) (Int.toNat (IntKind.wrap .i64 (((n2 : Nat)) + ((n6 : Nat)))) - Int.toNat (0)) (c3 - Int.toNat (0)))) rfl ?_)
          refine Run.go rfl rfl rfl (sem_move ((Value.int .i64 (i4))) rfl ?_)
          obtain ⟨hi0, hi1, hi2, hS⟩ := hS
          refine Run.go rfl rfl rfl (sem_sliceSlI (if c3 = Int.toNat (0) then a1 else Option.map (·.add (Int.toNat (0) * 2)) a1) (Int.toNat (IntKind.wrap .i64 (((n2 : Nat)) + ((n6 : Nat)))) - Int.toNat (0)) (c3 - Int.toNat (0)) (i4) (((Int.toNat (IntKind.wrap .i64 (((n2 : Nat)) + ((n6 : Nat)))) - Int.toNat (0)) : Nat)) rfl TF.slc_156 ⟨_, rfl⟩ rfl hi0 hi1 hi2 ?_)
          refine Run.go rfl rfl rfl (sem_move ((Value.slice a5 n6 c7)) rfl ?_)
          refine Run.go rfl rfl rfl (sem_copyL [(Value.slice (if (c3 - Int.toNat (0)) = Int.toNat (i4) then (if c3 = Int.toNat (0) then a1 else Option.map (·.add (Int.toNat (0) * 2)) a1) else Option.map (·.add (Int.toNat (i4) * 2)) (if c3 = Int.toNat (0) then a1 else Option.map (·.add (Int.toNat (0) * 2)) a1)) (Int.toNat (((Int.toNat (IntKind.wrap .i64 (((n2 : Nat)) + ((n6 : Nat)))) - Int.toNat (0)) : Nat)) - Int.toNat (i4)) ((c3 - Int.toNat (0)) - Int.toNat (i4))), (Value.slice a5 n6 c7)] rfl (semH_mono (fun v h30 hv => ?_) hS))
          obtain ⟨i31, rfl, hS⟩ := hv
          refine Run.region_end ?_
          refine Run.seq ?_
          refine Run.ops0 (idx := [0, 1]) rfl ?_
          refine Run.go rfl rfl rfl (sem_move ((Value.slice (if c3 = Int.toNat (0) then a1 else Option.map (·.add (Int.toNat (0) * 2)) a1) (Int.toNat (IntKind.wrap .i64 (((n2 : Nat)) + ((n6 : Nat)))) - Int.toNat (0)) (c3 - Int.toNat (0)))) rfl ?_)
          refine Run.go rfl rfl rfl (sem_assign ((Value.slice (if c3 = Int.toNat (0) then a1 else Option.map (·.add (Int.toNat (0) * 2)) a1) (Int.toNat (IntKind.wrap .i64 (((n2 : Nat)) + ((n6 : Nat)))) - Int.toNat (0)) (c3 - Int.toNat (0)))) rfl ?_)
          refine Run.region_end ?_
          refine Run.ret ⟨.inr rfl, ?_⟩
          exact hS.imp fun h' hq => ⟨(if c3 = Int.toNat (0) then a1 else Option.map (·.add (Int.toNat (0) * 2)) a1), (Int.toNat (IntKind.wrap .i64 (((n2 : Nat)) + ((n6 : Nat)))) - Int.toNat (0)), (c3 - Int.toNat (0)), rfl, hq⟩
        · have hS := hT rfl; clear hT hF
          refine Run.go rfl rfl rfl (sem_not true rfl ?_)
          refine Run.region_end ?_
          refine Run.condF rfl ?_
          refine Run.skip ?_
          refine Run.seq ?_
          refine Run.ops0 (idx := [0, 1, 2, 3, 4]) rfl ?_
          refine Run.go rfl rfl rfl (sem_move ((Value.slice (if c3 = Int.toNat (0) then a1 else Option.map (·.add (Int.toNat (0) * 2)) a1) (Int.toNat (IntKind.wrap .i64 (((n2 : Nat)) + ((n6 : Nat)))) - Int.toNat (0)) (c3 - Int.toNat (0)))) rfl ?_)
          refine Run.go rfl rfl rfl (sem_move ((Value.int .i64 ((n2 : Nat)))) rfl ?_)
          obtain ⟨hi0, hi1, hi2, hS⟩ := hS
          refine Run.go rfl rfl rfl (sem_sliceSlI (if c3 = Int.toNat (0) then a1 else Option.map (·.add (Int.toNat (0) * 2)) a1) (Int.toNat (IntKind.wrap .i64 (((n2 : Nat)) + ((n6 : Nat)))) - Int.toNat (0)) (c3 - Int.toNat (0)) ((n2 : Nat)) (((Int.toNat (IntKind.wrap .i64 (((n2 : Nat)) + ((n6 : Nat)))) - Int.toNat (0)) : Nat)) rfl TF.slc_156 ⟨_, rfl⟩ rfl hi0 hi1 hi2 ?_)
          refine Run.go rfl rfl rfl (sem_move ((Value.slice a5 n6 c7)) rfl ?_)
          refine Run.go rfl rfl rfl (sem_copyL [(Value.slice (if (c3 - Int.toNat (0)) = Int.toNat ((n2 : Nat)) then (if c3 = Int.toNat (0) then a1 else Option.map (·.add (Int.toNat (0) * 2)) a1) else Option.map (·.add (Int.toNat ((n2 : Nat)) * 2)) (if c3 = Int.toNat (0) then a1 else Option.map (·.add (Int.toNat (0) * 2)) a1)) (Int.toNat (((Int.toNat (IntKind.wrap .i64 (((n2 : Nat)) + ((n6 : Nat)))) - Int.toNat (0)) : Nat)) - Int.toNat ((n2 : Nat))) ((c3 - Int.toNat (0)) - Int.toNat ((n2 : Nat)))), (Value.slice a5 n6 c7)] rfl (semH_mono (fun v h32 hv => ?_) hS))
          obtain ⟨i33, rfl, hS⟩ := hv
          refine Run.region_end ?_
          refine Run.seq ?_
          refine Run.ops0 (idx := [0, 1, 2, 3, 4]) rfl ?_
          refine Run.go rfl rfl rfl (sem_move ((Value.slice (if c3 = Int.toNat (0) then a1 else Option.map (·.add (Int.toNat (0) * 2)) a1) (Int.toNat (IntKind.wrap .i64 (((n2 : Nat)) + ((n6 : Nat)))) - Int.toNat (0)) (c3 - Int.toNat (0)))) rfl ?_)
          refine Run.go rfl rfl rfl (sem_move ((Value.int .i64 (i4))) rfl ?_)
          obtain ⟨hi0, hi1, hi2, hS⟩ := hS
          refine Run.go rfl rfl rfl (sem_sliceSlI (if c3 = Int.toNat (0) then a1 else Option.map (·.add (Int.toNat (0) * 2)) a1) (Int.toNat (IntKind.wrap .i64 (((n2 : Nat)) + ((n6 : Nat)))) - Int.toNat (0)) (c3 - Int.toNat (0)) (i4) (((Int.toNat (IntKind.wrap .i64 (((n2 : Nat)) + ((n6 : Nat)))) - Int.toNat (0)) : Nat)) rfl TF.slc_156 ⟨_, rfl⟩ rfl hi0 hi1 hi2 ?_)
          refine Run.go rfl rfl rfl (sem_move ((Value.int .i64 ((n6 : Nat)))) rfl ?_)
          refine Run.go rfl rfl rfl (sem_callL [(Value.slice (if (c3 - Int.toNat (0)) = Int.toNat (i4) then (if c3 = Int.toNat (0) then a1 else Option.map (·.add (Int.toNat (0) * 2)) a1) else Option.map (·.add (Int.toNat (i4) * 2)) (if c3 = Int.toNat (0) then a1 else Option.map (·.add (Int.toNat (0) * 2)) a1)) (Int.toNat (((Int.toNat (IntKind.wrap .i64 (((n2 : Nat)) + ((n6 : Nat)))) - Int.toNat (0)) : Nat)) - Int.toNat (i4)) ((c3 - Int.toNat (0)) - Int.toNat (i4))), (Value.int .i64 ((n6 : Nat)))] (TF.goes_111) rfl rfl (Spec.mono hS fun v h34 hv => ?_))
          obtain ⟨rfl, hS⟩ := hv
          refine Run.region_end ?_
          refine Run.seq ?_
          refine Run.ops0 (idx := [0, 1]) rfl ?_
          refine Run.go rfl rfl rfl (sem_move ((Value.slice (if c3 = Int.toNat (0) then a1 else Option.map (·.add (Int.toNat (0) * 2)) a1) (Int.toNat (IntKind.wrap .i64 (((n2 : Nat)) + ((n6 : Nat)))) - Int.toNat (0)) (c3 - Int.toNat (0)))) rfl ?_)
          refine Run.go rfl rfl rfl (sem_assign ((Value.slice (if c3 = Int.toNat (0) then a1 else Option.map (·.add (Int.toNat (0) * 2)) a1) (Int.toNat (IntKind.wrap .i64 (((n2 : Nat)) + ((n6 : Nat)))) - Int.toNat (0)) (c3 - Int.toNat (0)))) rfl ?_)
          refine Run.region_end ?_
          refine Run.ret ⟨.inr rfl, ?_⟩
          exact hS.imp fun h' hq => ⟨(if c3 = Int.toNat (0) then a1 else Option.map (·.add (Int.toNat (0) * 2)) a1), (Int.toNat (IntKind.wrap .i64 (((n2 : Nat)) + ((n6 : Nat)))) - Int.toNat (0)), (c3 - Int.toNat (0)), rfl, hq⟩
set_option maxHeartbeats 4000000 in
theorem C_slices_BinarySearchFunc_s_draft_entry_int_draft_entry_int_int.of {B : RO} {a1 : Option Addr} {n2 : Nat} {c3 : Nat} {i4 : Int} {v5 : Value} {h : Heap} {Q : Int → Bool → Heap → Prop} (hS : S_slices_BinarySearchFunc_s_draft_entry_int_draft_entry_int_int B a1 n2 c3 i4 v5 h Q) : C_slices_BinarySearchFunc_s_draft_entry_int_draft_entry_int_int B a1 n2 c3 i4 v5 h Q := by
  unfold S_slices_BinarySearchFunc_s_draft_entry_int_draft_entry_int_int at hS
  unfold C_slices_BinarySearchFunc_s_draft_entry_int_draft_entry_int_int
  refine Spec.of_run Try.func103 (N := 49) (rs := [ResultVar.tmp 6, ResultVar.tmp 7]) rfl rfl rfl (Nat.le_of_ble_eq_true rfl) ?_
  refine Run.seq ?_
  refine Run.ops0 (idx := [0, 1]) rfl ?_
  refine Run.go rfl rfl rfl (sem_assign ((Value.int .i64 (0))) rfl ?_)
  refine Run.go rfl rfl rfl (sem_assign ((Value.bool false)) rfl ?_)
  refine Run.region_end ?_
  refine Run.seq ?_
  refine Run.ops0 (idx := [0, 1, 2]) rfl ?_
  refine Run.go rfl rfl rfl (sem_move ((Value.slice a1 n2 c3)) rfl ?_)
  refine Run.go rfl rfl rfl (sem_lenSl a1 n2 c3 rfl TF.sl_120 ?_)
  refine Run.go rfl rfl rfl (sem_assign ((Value.int .i64 ((n2 : Nat)))) rfl ?_)
  refine Run.region_end ?_
  refine Run.seq ?_
  refine Run.ops0 (idx := [0, 1, 2]) rfl ?_
  refine Run.go rfl rfl rfl (sem_move ((Value.int .i64 ((n2 : Nat)))) rfl ?_)
  refine Run.go rfl rfl rfl (sem_assign ((Value.int .i64 (0))) rfl ?_)
  refine Run.go rfl rfl rfl (sem_assign ((Value.int .i64 ((n2 : Nat)))) rfl ?_)
  refine Run.region_end ?_
  refine Run.seqJ (fun e h10 => ∃ i9 : Int, Agree [(0, (Value.slice a1 n2 c3)), (1, (Value.int .i64 (i4))), (2, v5), (8, (Value.int .i64 ((n2 : Nat)))), (9, (Value.int .i64 (i9)))] e ∧ S_slices_BinarySearchFunc_s_draft_entry_int_draft_entry_int_int_J1 B a1 n2 c3 i4 v5 i9 h10 Q) ?_ fun j8 => ?_
  · rintro e h10 ⟨i9, hag, hS⟩
    refine Run.env hag ?_; clear hag
    refine Run.seq ?_
    refine Run.ops0 (idx := [0, 1, 2, 3, 4, 5, 6, 7, 8, 9, 10, 11, 12, 13, 14, 15]) rfl ?_
    refine Run.go rfl rfl rfl (sem_move ((Value.int .i64 (i9))) rfl ?_)
    refine Run.go rfl rfl rfl (sem_move ((Value.int .i64 (i9))) rfl ?_)
    refine Run.go rfl rfl rfl (sem_move ((Value.int .i64 ((n2 : Nat)))) rfl ?_)
    obtain ⟨hT, hF⟩ := hS
    by_cases hb11 : (i9 : Int) < ((n2 : Nat))
    · have hS := hT hb11; clear hT hF
      refine Run.go rfl rfl rfl (sem_binI .i64 (i9) ((n2 : Nat)) (.bool true) rfl rfl (binI_lss_t hb11) ?_)
      refine Run.go rfl rfl rfl (sem_move ((Value.bool true)) rfl ?_)
      refine Run.go rfl rfl rfl (sem_move (v5) rfl ?_)
      refine Run.go rfl rfl rfl (sem_move ((Value.slice a1 n2 c3)) rfl ?_)
      refine Run.go rfl rfl rfl (sem_move ((Value.int .i64 (i9))) rfl ?_)
      obtain ⟨A12, e13, hi0, hi1, hS⟩ := hS
      refine Run.go rfl rfl rfl (sem_indexAddrS A12 n2 c3 .i64 (i9) (congrArg (fun a => Value.slice a n2 c3) e13) rfl TF.slc_120 hi0 hi1 ?_)
      obtain ⟨i14, i15, hl, hS⟩ := hS
      refine Run.go rfl rfl rfl (sem_loadN (Addr.add A12 (Int.toNat (i9) * 2)) [(Value.int .i64 (i14)), (Value.int .i64 (i15))] rfl TF.agg_163 TF.sz_163 hl ?_)
      refine Run.go rfl rfl rfl (sem_move ((Value.int .i64 (i4))) rfl ?_)
      refine Run.go rfl rfl rfl (sem_callV (v5) [(Value.agg #[(Value.int .i64 (i14)), (Value.int .i64 (i15))]), (Value.int .i64 (i4))] rfl rfl hS (fun nx h' ha => ha.mono fun v h16 hv => ?_))
      obtain ⟨i17, rfl, hS⟩ := hv
      refine Run.go rfl rfl rfl (sem_binI .i64 (i17) (0) ((Value.bool ((i17 : Int) == (0)))) rfl rfl rfl ?_)
      refine Run.go rfl rfl rfl (sem_pick true ((Value.bool ((i17 : Int) == (0)))) rfl rfl ?_)
      refine Run.go rfl rfl rfl (sem_assign ((Value.int .i64 (i9))) rfl ?_)
      refine Run.go rfl rfl rfl (sem_assign ((Value.bool ((i17 : Int) == (0)))) rfl ?_)
      refine Run.region_end ?_
      refine Run.ret ⟨.inr rfl, ?_⟩
      exact hS.imp fun h' hq => ⟨(i9), (((i17 : Int) == (0))), rfl, hq⟩
    · have hS := hF hb11; clear hT hF
      refine Run.go rfl rfl rfl (sem_binI .i64 (i9) ((n2 : Nat)) (.bool false) rfl rfl (binI_lss_f hb11) ?_)
      refine Run.go rfl rfl rfl (sem_move ((Value.bool false)) rfl ?_)
      refine Run.no rfl rfl rfl ?_
      refine Run.no rfl rfl rfl ?_
      refine Run.no rfl rfl rfl ?_
      refine Run.no rfl rfl rfl ?_
      refine Run.no rfl rfl rfl ?_
      refine Run.no rfl rfl rfl ?_
      refine Run.no rfl rfl rfl ?_
      refine Run.no rfl rfl rfl ?_
      refine Run.go rfl rfl rfl (sem_pick false ((Value.bool false)) rfl rfl ?_)
      refine Run.go rfl rfl rfl (sem_assign ((Value.int .i64 (i9))) rfl ?_)
      refine Run.go rfl rfl rfl (sem_assign ((Value.bool false)) rfl ?_)
      refine Run.region_end ?_
      refine Run.ret ⟨.inr rfl, ?_⟩
      exact hS.imp fun h' hq => ⟨(i9), (false), rfl, hq⟩
  refine Run.block ?_
  obtain ⟨J24, m22, h0, hS⟩ := hS
  refine Run.of_fin (h0.imp fun h' h0 => ?_)
  refine Run.loop (σ := Int × Int × Nat) (fun x e h => J24 x.1 x.2.1 x.2.2 h ∧ Agree [(0, (Value.slice a1 n2 c3)), (1, (Value.int .i64 (i4))), (2, v5), (8, (Value.int .i64 ((n2 : Nat)))), (9, (Value.int .i64 (x.1))), (10, (Value.int .i64 (x.2.1)))] e) (fun x => x.2.2) ((0), ((n2 : Nat)), m22) ⟨h0, ⟨rfl, rfl, rfl, rfl, rfl, rfl, trivial⟩⟩ ?_; clear h0
  rintro ⟨i18, i19, m21⟩ e h20 ⟨hJ, hag⟩ ih23
  have hS := hS i18 i19 m21 h20 hJ; clear hJ
  refine Run.env hag ?_; clear hag
  refine Run.seq ?_
  refine Run.seq ?_
  refine Run.ops0 (idx := [0, 1, 2]) rfl ?_
  refine Run.go rfl rfl rfl (sem_move ((Value.int .i64 (i18))) rfl ?_)
  refine Run.go rfl rfl rfl (sem_move ((Value.int .i64 (i19))) rfl ?_)
  obtain ⟨hT, hF⟩ := hS
  by_cases hb25 : (i18 : Int) < (i19)
  · have hS := hT hb25; clear hT hF
    refine Run.go rfl rfl rfl (sem_binI .i64 (i18) (i19) (.bool true) rfl rfl (binI_lss_t hb25) ?_)
    refine Run.region_end ?_
    refine Run.condT rfl ?_
    refine Run.skip ?_
    refine Run.block ?_
    refine Run.seq ?_
    refine Run.ops0 (idx := [0, 1, 2, 3, 4, 5, 6]) rfl ?_
    refine Run.go rfl rfl rfl (sem_move ((Value.int .i64 (i18))) rfl ?_)
    refine Run.go rfl rfl rfl (sem_move ((Value.int .i64 (i19))) rfl ?_)
    refine Run.go rfl rfl rfl (sem_binI .i64 (i18) (i19) ((Value.int .i64 (IntKind.wrap .i64 ((i18) + (i19))))) rfl rfl rfl ?_)
    refine Run.go rfl rfl rfl (sem_convI .i64 .u64 (IntKind.wrap .i64 ((i18) + (i19))) rfl TF.int_3 TF.int_43 ?_)
    obtain ⟨hi0, hS⟩ := hS
    refine Run.go rfl rfl rfl (sem_shr .u64 .u64 (IntKind.wrap .u64 (IntKind.wrap .i64 ((i18) + (i19)))) (1) rfl rfl hi0 ?_)
    refine Run.go rfl rfl rfl (sem_convI .u64 .i64 (Int.fdiv (IntKind.wrap .u64 (IntKind.wrap .i64 ((i18) + (i19)))) (2 ^ (min (Int.toNat (1)) (IntKind.bits .u64)))) rfl TF.int_43 TF.int_3 ?_)
    refine Run.go rfl rfl rfl (sem_assign ((Value.int .i64 (IntKind.wrap .i64 (Int.fdiv (IntKind.wrap .u64 (IntKind.wrap .i64 ((i18) + (i19)))) (2 ^ (min (Int.toNat (1)) (IntKind.bits .u64))))))) rfl ?_)
    refine Run.region_end ?_
    refine Run.seq ?_
    refine Run.ops0 (idx := [0, 1, 2, 3, 4, 5, 6, 7]) rfl ?_
    refine Run.go rfl rfl rfl (sem_move (v5) rfl ?_)
    refine Run.go rfl rfl rfl (sem_move ((Value.slice a1 n2 c3)) rfl ?_)
    refine Run.go rfl rfl rfl (sem_move ((Value.int .i64 (IntKind.wrap .i64 (Int.fdiv (IntKind.wrap .u64 (IntKind.wrap .i64 ((i18) + (i19)))) (2 ^ (min (Int.toNat (1)) (IntKind.bits .u64))))))) rfl ?_)
    obtain ⟨A26, e27, hi0, hi1, hS⟩ := hS
    refine Run.go rfl rfl rfl (sem_indexAddrS A26 n2 c3 .i64 (IntKind.wrap .i64 (Int.fdiv (IntKind.wrap .u64 (IntKind.wrap .i64 ((i18) + (i19)))) (2 ^ (min (Int.toNat (1)) (IntKind.bits .u64))))) (congrArg (fun a => Value.slice a n2 c3) e27) rfl TF.slc_120 hi0 hi1 ?_)
    obtain ⟨i28, i29, hl, hS⟩ := hS
    refine Run.go rfl rfl rfl (sem_loadN (Addr.add A26 (Int.toNat (IntKind.wrap .i64 (Int.fdiv (IntKind.wrap .u64 (IntKind.wrap .i64 ((i18) + (i19)))) (2 ^ (min (Int.toNat (1)) (IntKind.bits .u64))))) * 2)) [(Value.int .i64 (i28)), (Value.int .i64 (i29))] rfl TF.agg_163 TF.sz_163 hl ?_)
    refine Run.go rfl rfl rfl (sem_move ((Value.int .i64 (i4))) rfl ?_)
    refine Run.go rfl rfl rfl (sem_callV (v5) [(Value.agg #[(Value.int .i64 (i28)), (Value.int .i64 (i29))]), (Value.int .i64 (i4))] rfl rfl hS (fun nx h' ha => ha.mono fun v h30 hv => ?_))
    obtain ⟨i31, rfl, hS⟩ := hv
    obtain ⟨hT, hF⟩ := hS
    by_cases hb32 : (i31 : Int) < (0)
    · have hS := hT hb32; clear hT hF
      refine Run.go rfl rfl rfl (sem_binI .i64 (i31) (0) (.bool true) rfl rfl (binI_lss_t hb32) ?_)
      refine Run.region_end ?_
      refine Run.condT rfl ?_
      refine Run.ops0 (idx := [0, 1, 2]) rfl ?_
      refine Run.go rfl rfl rfl (sem_move ((Value.int .i64 (IntKind.wrap .i64 (Int.fdiv (IntKind.wrap .u64 (IntKind.wrap .i64 ((i18) + (i19)))) (2 ^ (min (Int.toNat (1)) (IntKind.bits .u64))))))) rfl ?_)
      refine Run.go rfl rfl rfl (sem_binI .i64 (IntKind.wrap .i64 (Int.fdiv (IntKind.wrap .u64 (IntKind.wrap .i64 ((i18) + (i19)))) (2 ^ (min (Int.toNat (1)) (IntKind.bits .u64))))) (1) ((Value.int .i64 (IntKind.wrap .i64 ((IntKind.wrap .i64 (Int.fdiv (IntKind.wrap .u64 (IntKind.wrap .i64 ((i18) + (i19)))) (2 ^ (min (Int.toNat (1)) (IntKind.bits .u64))))) + (1))))) rfl rfl rfl ?_)
      refine Run.go rfl rfl rfl (sem_assign ((Value.int .i64 (IntKind.wrap .i64 ((IntKind.wrap .i64 (Int.fdiv (IntKind.wrap .u64 (IntKind.wrap .i64 ((i18) + (i19)))) (2 ^ (min (Int.toNat (1)) (IntKind.bits .u64))))) + (1))))) rfl ?_)
      refine Run.region_end ?_
      refine Run.inBlock ?_
      exact Run.of_fin (hS.imp fun h' ⟨m', hm, hS⟩ => ih23 ((IntKind.wrap .i64 ((IntKind.wrap .i64 (Int.fdiv (IntKind.wrap .u64 (IntKind.wrap .i64 ((i18) + (i19)))) (2 ^ (min (Int.toNat (1)) (IntKind.bits .u64))))) + (1))), (i19), m') _ _ ⟨hS, ⟨rfl, rfl, rfl, rfl, rfl, rfl, trivial⟩⟩ hm)
    · have hS := hF hb32; clear hT hF
      refine Run.go rfl rfl rfl (sem_binI .i64 (i31) (0) (.bool false) rfl rfl (binI_lss_f hb32) ?_)
      refine Run.region_end ?_
      refine Run.condF rfl ?_
      refine Run.ops0 (idx := [0, 1]) rfl ?_
      refine Run.go rfl rfl rfl (sem_move ((Value.int .i64 (IntKind.wrap .i64 (Int.fdiv (IntKind.wrap .u64 (IntKind.wrap .i64 ((i18) + (i19)))) (2 ^ (min (Int.toNat (1)) (IntKind.bits .u64))))))) rfl ?_)
      refine Run.go rfl rfl rfl (sem_assign ((Value.int .i64 (IntKind.wrap .i64 (Int.fdiv (IntKind.wrap .u64 (IntKind.wrap .i64 ((i18) + (i19)))) (2 ^ (min (Int.toNat (1)) (IntKind.bits .u64))))))) rfl ?_)
      refine Run.region_end ?_
      refine Run.inBlock ?_
      exact Run.of_fin (hS.imp fun h' ⟨m', hm, hS⟩ => ih23 ((i18), (IntKind.wrap .i64 (Int.fdiv (IntKind.wrap .u64 (IntKind.wrap .i64 ((i18) + (i19)))) (2 ^ (min (Int.toNat (1)) (IntKind.bits .u64))))), m') _ _ ⟨hS, ⟨rfl, rfl, rfl, rfl, rfl, rfl, trivial⟩⟩ hm)
  · have hS := hF hb25; clear hT hF
    refine Run.go rfl rfl rfl (sem_binI .i64 (i18) (i19) (.bool false) rfl rfl (binI_lss_f hb25) ?_)
    refine Run.region_end ?_
    refine Run.condF rfl ?_
    refine Run.exit rfl ?_
    exact Run.of_fin (hS.imp fun h' hS => j8 _ _ ⟨(i18), ⟨rfl, rfl, rfl, rfl, rfl, trivial⟩, hS⟩)
set_option maxHeartbeats 4000000 in
theorem C_draft_by_int.of {B : RO} {i1 : Int} {i2 : Int} {i3 : Int} {h : Heap} {Q : Int → Heap → Prop} (hS : S_draft_by_int B i1 i2 i3 h Q) : C_draft_by_int B i1 i2 i3 h Q := by
  unfold S_draft_by_int at hS
  unfold C_draft_by_int
  refine Spec.of_run Try.func104 (N := 15) (rs := [ResultVar.tmp 4]) rfl rfl rfl (Nat.le_of_ble_eq_true rfl) ?_
  refine Run.seq ?_
  refine Run.ops0 (idx := [0, 1]) rfl ?_
  refine Run.go rfl rfl rfl (sem_boxNN [(Value.int .i64 (i1)), (Value.int .i64 (i2))] rfl (fun k5 hb1 hb2 h6 hb3 => ?_))
  have hS := hS k5 hb1 hb2 h6 hb3
  refine Run.go rfl rfl rfl (sem_assign ((Value.int .i64 (0))) rfl ?_)
  refine Run.region_end ?_
  refine Run.seq ?_
  refine Run.block ?_
  refine Run.seq ?_
  refine Run.ops0 (idx := [0, 1, 2, 3, 4]) rfl ?_
  refine Run.go rfl rfl rfl (sem_fieldAddr ⟨k5, 0, none⟩ 0 rfl TF.fld_163_0 ?_)
  obtain ⟨i7, hl, hS⟩ := hS
  refine Run.go rfl rfl rfl (sem_load1 ⟨k5, 0, none⟩ ((Value.int .i64 (i7))) rfl TF.agg_3 hl ?_)
  refine Run.go rfl rfl rfl (sem_move ((Value.int .i64 (i3))) rfl ?_)
  obtain ⟨hT, hF⟩ := hS
  by_cases hb8 : (i7 : Int) < (i3)
  · have hS := hT hb8; clear hT hF
    refine Run.go rfl rfl rfl (sem_binI .i64 (i7) (i3) (.bool true) rfl rfl (binI_lss_t hb8) ?_)
    refine Run.go rfl rfl rfl (sem_assign ((Value.bool true)) rfl ?_)
    refine Run.region_end ?_
    refine Run.condT rfl ?_
    refine Run.seq ?_
    refine Run.ops0 (idx := [0]) rfl ?_
    refine Run.go rfl rfl rfl (sem_assign ((Value.int .i64 ((-1)))) rfl ?_)
    refine Run.region_end ?_
    refine Run.ret ⟨.inr rfl, ?_⟩
    exact hS.imp fun h' hq => ⟨((-1)), rfl, hq⟩
  · have hS := hF hb8; clear hT hF
    refine Run.go rfl rfl rfl (sem_binI .i64 (i7) (i3) (.bool false) rfl rfl (binI_lss_f hb8) ?_)
    refine Run.go rfl rfl rfl (sem_assign ((Value.bool false)) rfl ?_)
    refine Run.region_end ?_
    refine Run.condF rfl ?_
    refine Run.seq ?_
    refine Run.ops0 (idx := [0, 1, 2, 3, 4]) rfl ?_
    refine Run.go rfl rfl rfl (sem_fieldAddr ⟨k5, 0, none⟩ 0 rfl TF.fld_163_0 ?_)
    obtain ⟨i9, hl, hS⟩ := hS
    refine Run.go rfl rfl rfl (sem_load1 ⟨k5, 0, none⟩ ((Value.int .i64 (i9))) rfl TF.agg_3 hl ?_)
    refine Run.go rfl rfl rfl (sem_move ((Value.int .i64 (i3))) rfl ?_)
    obtain ⟨hT, hF⟩ := hS
    by_cases hb10 : (i9 : Int) > (i3)
    · have hS := hT hb10; clear hT hF
      refine Run.go rfl rfl rfl (sem_binI .i64 (i9) (i3) (.bool true) rfl rfl (binI_gtr_t hb10) ?_)
      refine Run.go rfl rfl rfl (sem_assign ((Value.bool true)) rfl ?_)
      refine Run.region_end ?_
      refine Run.condT rfl ?_
      refine Run.seq ?_
      refine Run.ops0 (idx := [0]) rfl ?_
      refine Run.go rfl rfl rfl (sem_assign ((Value.int .i64 (1))) rfl ?_)
      refine Run.region_end ?_
      refine Run.ret ⟨.inr rfl, ?_⟩
      exact hS.imp fun h' hq => ⟨(1), rfl, hq⟩
    · have hS := hF hb10; clear hT hF
      refine Run.go rfl rfl rfl (sem_binI .i64 (i9) (i3) (.bool false) rfl rfl (binI_gtr_f hb10) ?_)
      refine Run.go rfl rfl rfl (sem_assign ((Value.bool false)) rfl ?_)
      refine Run.region_end ?_
      refine Run.condF rfl ?_
      refine Run.skip ?_
      refine Run.inBlock ?_
      refine Run.seq ?_
      refine Run.ops0 (idx := [0]) rfl ?_
      refine Run.go rfl rfl rfl (sem_assign ((Value.int .i64 (0))) rfl ?_)
      refine Run.region_end ?_
      refine Run.ret ⟨.inr rfl, ?_⟩
      exact hS.imp fun h' hq => ⟨(0), rfl, hq⟩
set_option maxHeartbeats 4000000 in
theorem C_slices_rotateRight_draft_entry_int.of {B : RO} {a1 : Option Addr} {n2 : Nat} {c3 : Nat} {i4 : Int} {h : Heap} {Q : Heap → Prop} (hS : S_slices_rotateRight_draft_entry_int B a1 n2 c3 i4 h Q) : C_slices_rotateRight_draft_entry_int B a1 n2 c3 i4 h Q := by
  unfold S_slices_rotateRight_draft_entry_int at hS
  unfold C_slices_rotateRight_draft_entry_int
  refine Spec.of_run Try.func106 (N := 10) (rs := []) rfl rfl rfl (Nat.le_of_ble_eq_true rfl) ?_
  refine Run.ops0 (idx := [0, 1, 2, 3, 4, 5]) rfl ?_
  refine Run.go rfl rfl rfl (sem_move ((Value.slice a1 n2 c3)) rfl ?_)
  refine Run.go rfl rfl rfl (sem_move ((Value.slice a1 n2 c3)) rfl ?_)
  refine Run.go rfl rfl rfl (sem_lenSl a1 n2 c3 rfl TF.sl_120 ?_)
  refine Run.go rfl rfl rfl (sem_move ((Value.int .i64 (i4))) rfl ?_)
  refine Run.go rfl rfl rfl (sem_binI .i64 ((n2 : Nat)) (i4) ((Value.int .i64 (IntKind.wrap .i64 (((n2 : Nat)) - (i4))))) rfl rfl rfl ?_)
  refine Run.go rfl rfl rfl (sem_callL [(Value.slice a1 n2 c3), (Value.int .i64 (IntKind.wrap .i64 (((n2 : Nat)) - (i4))))] (TF.goes_112) rfl rfl (Spec.mono hS fun v h5 hv => ?_))
  obtain ⟨rfl, hS⟩ := hv
  refine Run.region_end ?_
  refine Run.fall ⟨.inl rfl, ?_⟩
  exact hS.imp fun h' hq => ⟨rfl, hq⟩
set_option maxHeartbeats 4000000 in
theorem C_slices_BinarySearchFunc_s_draft_entry_string_draft_entry_string_int.of {B : RO} {a1 : Option Addr} {n2 : Nat} {c3 : Nat} {i4 : Int} {v5 : Value} {h : Heap} {Q : Int → Bool → Heap → Prop} (hS : S_slices_BinarySearchFunc_s_draft_entry_string_draft_entry_string_int B a1 n2 c3 i4 v5 h Q) : C_slices_BinarySearchFunc_s_draft_entry_string_draft_entry_string_int B a1 n2 c3 i4 v5 h Q := by
  unfold S_slices_BinarySearchFunc_s_draft_entry_string_draft_entry_string_int at hS
  unfold C_slices_BinarySearchFunc_s_draft_entry_string_draft_entry_string_int
  refine Spec.of_run Try.func108 (N := 49) (rs := [ResultVar.tmp 6, ResultVar.tmp 7]) rfl rfl rfl (Nat.le_of_ble_eq_true rfl) ?_
  refine Run.seq ?_
  refine Run.ops0 (idx := [0, 1]) rfl ?_
  refine Run.go rfl rfl rfl (sem_assign ((Value.int .i64 (0))) rfl ?_)
  refine Run.go rfl rfl rfl (sem_assign ((Value.bool false)) rfl ?_)
  refine Run.region_end ?_
  refine Run.seq ?_
  refine Run.ops0 (idx := [0, 1, 2]) rfl ?_
  refine Run.go rfl rfl rfl (sem_move ((Value.slice a1 n2 c3)) rfl ?_)
  refine Run.go rfl rfl rfl (sem_lenSl a1 n2 c3 rfl TF.sl_156 ?_)
  refine Run.go rfl rfl rfl (sem_assign ((Value.int .i64 ((n2 : Nat)))) rfl ?_)
  refine Run.region_end ?_
  refine Run.seq ?_
  refine Run.ops0 (idx := [0, 1, 2]) rfl ?_
  refine Run.go rfl rfl rfl (sem_move ((Value.int .i64 ((n2 : Nat)))) rfl ?_)
  refine Run.go rfl rfl rfl (sem_assign ((Value.int .i64 (0))) rfl ?_)
  refine Run.go rfl rfl rfl (sem_assign ((Value.int .i64 ((n2 : Nat)))) rfl ?_)
  refine Run.region_end ?_
  refine Run.seqJ (fun e h10 => ∃ i9 : Int, Agree [(0, (Value.slice a1 n2 c3)), (1, (Value.int .i64 (i4))), (2, v5), (8, (Value.int .i64 ((n2 : Nat)))), (9, (Value.int .i64 (i9)))] e ∧ S_slices_BinarySearchFunc_s_draft_entry_string_draft_entry_string_int_J1 B a1 n2 c3 i4 v5 i9 h10 Q) ?_ fun j8 => ?_
  · rintro e h10 ⟨i9, hag, hS⟩
    refine Run.env hag ?_; clear hag
    refine Run.seq ?_
    refine Run.ops0 (idx := [0, 1, 2, 3, 4, 5, 6, 7, 8, 9, 10, 11, 12, 13, 14, 15]) rfl ?_
    refine Run.go rfl rfl rfl (sem_move ((Value.int .i64 (i9))) rfl ?_)
    refine Run.go rfl rfl rfl (sem_move ((Value.int .i64 (i9))) rfl ?_)
    refine Run.go rfl rfl rfl (sem_move ((Value.int .i64 ((n2 : Nat)))) rfl ?_)
    obtain ⟨hT, hF⟩ := hS
    by_cases hb11 : (i9 : Int) < ((n2 : Nat))
    · have hS := hT hb11; clear hT hF
      refine Run.go rfl rfl rfl (sem_binI .i64 (i9) ((n2 : Nat)) (.bool true) rfl rfl (binI_lss_t hb11) ?_)
      refine Run.go rfl rfl rfl (sem_move ((Value.bool true)) rfl ?_)
      refine Run.go rfl rfl rfl (sem_move (v5) rfl ?_)
      refine Run.go rfl rfl rfl (sem_move ((Value.slice a1 n2 c3)) rfl ?_)
      refine Run.go rfl rfl rfl (sem_move ((Value.int .i64 (i9))) rfl ?_)
      obtain ⟨A12, e13, hi0, hi1, hS⟩ := hS
      refine Run.go rfl rfl rfl (sem_indexAddrS A12 n2 c3 .i64 (i9) (congrArg (fun a => Value.slice a n2 c3) e13) rfl TF.slc_156 hi0 hi1 ?_)
      obtain ⟨i14, s15, hl, hS⟩ := hS
      refine Run.go rfl rfl rfl (sem_loadN (Addr.add A12 (Int.toNat (i9) * 2)) [(Value.int .i64 (i14)), (Value.string s15)] rfl TF.agg_176 TF.sz_176 hl ?_)
      refine Run.go rfl rfl rfl (sem_move ((Value.int .i64 (i4))) rfl ?_)
      refine Run.go rfl rfl rfl (sem_callV (v5) [(Value.agg #[(Value.int .i64 (i14)), (Value.string s15)]), (Value.int .i64 (i4))] rfl rfl hS (fun nx h' ha => ha.mono fun v h16 hv => ?_))
      obtain ⟨i17, rfl, hS⟩ := hv
      refine Run.go rfl rfl rfl (sem_binI .i64 (i17) (0) ((Value.bool ((i17 : Int) == (0)))) rfl rfl rfl ?_)
      refine Run.go rfl rfl rfl (sem_pick true ((Value.bool ((i17 : Int) == (0)))) rfl rfl ?_)
      refine Run.go rfl rfl rfl (sem_assign ((Value.int .i64 (i9))) rfl ?_)
      refine Run.go rfl rfl rfl (sem_assign ((Value.bool ((i17 : Int) == (0)))) rfl ?_)
      refine Run.region_end ?_
      refine Run.ret ⟨.inr rfl, ?_⟩
      exact hS.imp fun h' hq => ⟨(i9), (((i17 : Int) == (0))), rfl, hq⟩
    · have hS := hF hb11; clear hT hF
      refine Run.go rfl rfl rfl (sem_binI .i64 (i9) ((n2 : Nat)) (.bool false) rfl rfl (binI_lss_f hb11) ?_)
      refine Run.go rfl rfl rfl (sem_move ((Value.bool false)) rfl ?_)
      refine Run.no rfl rfl rfl ?_
      refine Run.no rfl rfl rfl ?_
      refine Run.no rfl rfl rfl ?_
      refine Run.no rfl rfl rfl ?_
      refine Run.no rfl rfl rfl ?_
      refine Run.no rfl rfl rfl ?_
      refine Run.no rfl rfl rfl ?_
      refine Run.no rfl rfl rfl ?_
      refine Run.go rfl rfl rfl (sem_pick false ((Value.bool false)) rfl rfl ?_)
      refine Run.go rfl rfl rfl (sem_assign ((Value.int .i64 (i9))) rfl ?_)
      refine Run.go rfl rfl rfl (sem_assign ((Value.bool false)) rfl ?_)
      refine Run.region_end ?_
      refine Run.ret ⟨.inr rfl, ?_⟩
      exact hS.imp fun h' hq => ⟨(i9), (false), rfl, hq⟩
  refine Run.block ?_
  obtain ⟨J24, m22, h0, hS⟩ := hS
  refine Run.of_fin (h0.imp fun h' h0 => ?_)
  refine Run.loop (σ := Int × Int × Nat) (fun x e h => J24 x.1 x.2.1 x.2.2 h ∧ Agree [(0, (Value.slice a1 n2 c3)), (1, (Value.int .i64 (i4))), (2, v5), (8, (Value.int .i64 ((n2 : Nat)))), (9, (Value.int .i64 (x.1))), (10, (Value.int .i64 (x.2.1)))] e) (fun x => x.2.2) ((0), ((n2 : Nat)), m22) ⟨h0, ⟨rfl, rfl, rfl, rfl, rfl, rfl, trivial⟩⟩ ?_; clear h0
  rintro ⟨i18, i19, m21⟩ e h20 ⟨hJ, hag⟩ ih23
  have hS := hS i18 i19 m21 h20 hJ; clear hJ
  refine Run.env hag ?_; clear hag
  refine Run.seq ?_
  refine Run.seq ?_
  refine Run.ops0 (idx := [0, 1, 2]) rfl ?_
  refine Run.go rfl rfl rfl (sem_move ((Value.int .i64 (i18))) rfl ?_)
  refine Run.go rfl rfl rfl (sem_move ((Value.int .i64 (i19))) rfl ?_)
  obtain ⟨hT, hF⟩ := hS
  by_cases hb25 : (i18 : Int) < (i19)
  · have hS := hT hb25; clear hT hF
    refine Run.go rfl rfl rfl (sem_binI .i64 (i18) (i19) (.bool true) rfl rfl (binI_lss_t hb25) ?_)
    refine Run.region_end ?_
    refine Run.condT rfl ?_
    refine Run.skip ?_
    refine Run.block ?_
    refine Run.seq ?_
    refine Run.ops0 (idx := [0, 1, 2, 3, 4, 5, 6]) rfl ?_
    refine Run.go rfl rfl rfl (sem_move ((Value.int .i64 (i18))) rfl ?_)
    refine Run.go rfl rfl rfl (sem_move ((Value.int .i64 (i19))) rfl ?_)
    refine Run.go rfl rfl rfl (sem_binI .i64 (i18) (i19) ((Value.int .i64 (IntKind.wrap .i64 ((i18) + (i19))))) rfl rfl rfl ?_)
    refine Run.go rfl rfl rfl (sem_convI .i64 .u64 (IntKind.wrap .i64 ((i18) + (i19))) rfl TF.int_3 TF.int_43 ?_)
    obtain ⟨hi0, hS⟩ := hS
    refine Run.go rfl rfl rfl (sem_shr .u64 .u64 (IntKind.wrap .u64 (IntKind.wrap .i64 ((i18) + (i19)))) (1) rfl rfl hi0 ?_)
    refine Run.go rfl rfl rfl (sem_convI .u64 .i64 (Int.fdiv (IntKind.wrap .u64 (IntKind.wrap .i64 ((i18) + (i19)))) (2 ^ (min (Int.toNat (1)) (IntKind.bits .u64)))) rfl TF.int_43 TF.int_3 ?_)
    refine Run.go rfl rfl rfl (sem_assign ((Value.int .i64 (IntKind.wrap .i64 (Int.fdiv (IntKind.wrap .u64 (IntKind.wrap .i64 ((i18) + (i19)))) (2 ^ (min (Int.toNat (1)) (IntKind.bits .u64))))))) rfl ?_)
    refine Run.region_end ?_
    refine Run.seq ?_
    refine Run.ops0 (idx := [0, 1, 2, 3, 4, 5, 6, 7]) rfl ?_
    refine Run.go rfl rfl rfl (sem_move (v5) rfl ?_)
    refine Run.go rfl rfl rfl (sem_move ((Value.slice a1 n2 c3)) rfl ?_)
    refine Run.go rfl rfl rfl (sem_move ((Value.int .i64 (IntKind.wrap .i64 (Int.fdiv (IntKind.wrap .u64 (IntKind.wrap .i64 ((i18) + (i19)))) (2 ^ (min (Int.toNat (1)) (IntKind.bits .u64))))))) rfl ?_)
    obtain ⟨A26, e27, hi0, hi1, hS⟩ := hS
    refine Run.go rfl rfl rfl (sem_indexAddrS A26 n2 c3 .i64 (IntKind.wrap .i64 (Int.fdiv (IntKind.wrap .u64 (IntKind.wrap .i64 ((i18) + (i19)))) (2 ^ (min (Int.toNat (1)) (IntKind.bits .u64))))) (congrArg (fun a => Value.slice a n2 c3) e27) rfl TF.slc_156 hi0 hi1 ?_)
    obtain ⟨i28, s29, hl, hS⟩ := hS
    refine Run.go rfl rfl rfl (sem_loadN (Addr.add A26 (Int.toNat (IntKind.wrap .i64 (Int.fdiv (IntKind.wrap .u64 (IntKind.wrap .i64 ((i18) + (i19)))) (2 ^ (min (Int.toNat (1)) (IntKind.bits .u64))))) * 2)) [(Value.int .i64 (i28)), (Value.string s29)] rfl TF.agg_176 TF.sz_176 hl ?_)
    refine Run.go rfl rfl rfl (sem_move ((Value.int .i64 (i4))) rfl ?_)
    refine Run.go rfl rfl rfl (sem_callV (v5) [(Value.agg #[(Value.int .i64 (i28)), (Value.string s29)]), (Value.int .i64 (i4))] rfl rfl hS (fun nx h' ha => ha.mono fun v h30 hv => ?_))
    obtain ⟨i31, rfl, hS⟩ := hv
    obtain ⟨hT, hF⟩ := hS
    by_cases hb32 : (i31 : Int) < (0)
    · have hS := hT hb32; clear hT hF
      refine Run.go rfl rfl rfl (sem_binI .i64 (i31) (0) (.bool true) rfl rfl (binI_lss_t hb32) ?_)
      refine Run.region_end ?_
      refine Run.condT rfl ?_
      refine Run.ops0 (idx := [0, 1, 2]) rfl ?_
      refine Run.go rfl rfl rfl (sem_move ((Value.int .i64 (IntKind.wrap .i64 (Int.fdiv (IntKind.wrap .u64 (IntKind.wrap .i64 ((i18) + (i19)))) (2 ^ (min (Int.toNat (1)) (IntKind.bits .u64))))))) rfl ?_)
      refine Run.go rfl rfl rfl (sem_binI .i64 (IntKind.wrap .i64 (Int.fdiv (IntKind.wrap .u64 (IntKind.wrap .i64 ((i18) + (i19)))) (2 ^ (min (Int.toNat (1)) (IntKind.bits .u64))))) (1) ((Value.int .i64 (IntKind.wrap .i64 ((IntKind.wrap .i64 (Int.fdiv (IntKind.wrap .u64 (IntKind.wrap .i64 ((i18) + (i19)))) (2 ^ (min (Int.toNat (1)) (IntKind.bits .u64))))) + (1))))) rfl rfl rfl ?_)
      refine Run.go rfl rfl rfl (sem_assign ((Value.int .i64 (IntKind.wrap .i64 ((IntKind.wrap .i64 (Int.fdiv (IntKind.wrap .u64 (IntKind.wrap .i64 ((i18) + (i19)))) (2 ^ (min (Int.toNat (1)) (IntKind.bits .u64))))) + (1))))) rfl ?_)
      refine Run.region_end ?_
      refine Run.inBlock ?_
      exact Run.of_fin (hS.imp fun h' ⟨m', hm, hS⟩ => ih23 ((IntKind.wrap .i64 ((IntKind.wrap .i64 (Int.fdiv (IntKind.wrap .u64 (IntKind.wrap .i64 ((i18) + (i19)))) (2 ^ (min (Int.toNat (1)) (IntKind.bits .u64))))) + (1))), (i19), m') _ _ ⟨hS, ⟨rfl, rfl, rfl, rfl, rfl, rfl, trivial⟩⟩ hm)
    · have hS := hF hb32; clear hT hF
      refine Run.go rfl rfl rfl (sem_binI .i64 (i31) (0) (.bool false) rfl rfl (binI_lss_f hb32) ?_)
      refine Run.region_end ?_
      refine Run.condF rfl ?_
      refine Run.ops0 (idx := [0, 1]) rfl ?_
      refine Run.go rfl rfl rfl (sem_move ((Value.int .i64 (IntKind.wrap .i64 (Int.fdiv (IntKind.wrap .u64 (IntKind.wrap .i64 ((i18) + (i19)))) (2 ^ (min (Int.toNat (1)) (IntKind.bits .u64))))))) rfl ?_)
      refine Run.go rfl rfl rfl (sem_assign ((Value.int .i64 (IntKind.wrap .i64 (Int.fdiv (IntKind.wrap .u64 (IntKind.wrap .i64 ((i18) + (i19)))) (2 ^ (min (Int.toNat (1)) (IntKind.bits .u64))))))) rfl ?_)
      refine Run.region_end ?_
      refine Run.inBlock ?_
      exact Run.of_fin (hS.imp fun h' ⟨m', hm, hS⟩ => ih23 ((i18), (IntKind.wrap .i64 (Int.fdiv (IntKind.wrap .u64 (IntKind.wrap .i64 ((i18) + (i19)))) (2 ^ (min (Int.toNat (1)) (IntKind.bits .u64))))), m') _ _ ⟨hS, ⟨rfl, rfl, rfl, rfl, rfl, rfl, trivial⟩⟩ hm)
  · have hS := hF hb25; clear hT hF
    refine Run.go rfl rfl rfl (sem_binI .i64 (i18) (i19) (.bool false) rfl rfl (binI_lss_f hb25) ?_)
    refine Run.region_end ?_
    refine Run.condF rfl ?_
    refine Run.exit rfl ?_
    exact Run.of_fin (hS.imp fun h' hS => j8 _ _ ⟨(i18), ⟨rfl, rfl, rfl, rfl, rfl, trivial⟩, hS⟩)
set_option maxHeartbeats 4000000 in
theorem C_draft_by_string.of {B : RO} {i1 : Int} {s2 : ByteArray} {i3 : Int} {h : Heap} {Q : Int → Heap → Prop} (hS : S_draft_by_string B i1 s2 i3 h Q) : C_draft_by_string B i1 s2 i3 h Q := by
  unfold S_draft_by_string at hS
  unfold C_draft_by_string
  refine Spec.of_run Try.func109 (N := 15) (rs := [ResultVar.tmp 4]) rfl rfl rfl (Nat.le_of_ble_eq_true rfl) ?_
  refine Run.seq ?_
  refine Run.ops0 (idx := [0, 1]) rfl ?_
  refine Run.go rfl rfl rfl (sem_boxNN [(Value.int .i64 (i1)), (Value.string s2)] rfl (fun k5 hb1 hb2 h6 hb3 => ?_))
  have hS := hS k5 hb1 hb2 h6 hb3
  refine Run.go rfl rfl rfl (sem_assign ((Value.int .i64 (0))) rfl ?_)
  refine Run.region_end ?_
  refine Run.seq ?_
  refine Run.block ?_
  refine Run.seq ?_
  refine Run.ops0 (idx := [0, 1, 2, 3, 4]) rfl ?_
  refine Run.go rfl rfl rfl (sem_fieldAddr ⟨k5, 0, none⟩ 0 rfl TF.fld_176_0 ?_)
  obtain ⟨i7, hl, hS⟩ := hS
  refine Run.go rfl rfl rfl (sem_load1 ⟨k5, 0, none⟩ ((Value.int .i64 (i7))) rfl TF.agg_3 hl ?_)
  refine Run.go rfl rfl rfl (sem_move ((Value.int .i64 (i3))) rfl ?_)
  obtain ⟨hT, hF⟩ := hS
  by_cases hb8 : (i7 : Int) < (i3)
  · have hS := hT hb8; clear hT hF
    refine Run.go rfl rfl rfl (sem_binI .i64 (i7) (i3) (.bool true) rfl rfl (binI_lss_t hb8) ?_)
    refine Run.go rfl rfl rfl (sem_assign ((Value.bool true)) rfl ?_)
    refine Run.region_end ?_
    refine Run.condT rfl ?_
    refine Run.seq ?_
    refine Run.ops0 (idx := [0]) rfl ?_
    refine Run.go rfl rfl rfl (sem_assign ((Value.int .i64 ((-1)))) rfl ?_)
    refine Run.region_end ?_
    refine Run.ret ⟨.inr rfl, ?_⟩
    exact hS.imp fun h' hq => ⟨((-1)), rfl, hq⟩
  · have hS := hF hb8; clear hT hF
    refine Run.go rfl rfl rfl (sem_binI .i64 (i7) (i3) (.bool false) rfl rfl (binI_lss_f hb8) ?_)
    refine Run.go rfl rfl rfl (sem_assign ((Value.bool false)) rfl ?_)
    refine Run.region_end ?_
    refine Run.condF rfl ?_
    refine Run.seq ?_
    refine Run.ops0 (idx := [0, 1, 2, 3, 4]) rfl ?_
    refine Run.go rfl rfl rfl (sem_fieldAddr ⟨k5, 0, none⟩ 0 rfl TF.fld_176_0 ?_)
    obtain ⟨i9, hl, hS⟩ := hS
    refine Run.go rfl rfl rfl (sem_load1 ⟨k5, 0, none⟩ ((Value.int .i64 (i9))) rfl TF.agg_3 hl ?_)
    refine Run.go rfl rfl rfl (sem_move ((Value.int .i64 (i3))) rfl ?_)
    obtain ⟨hT, hF⟩ := hS
    by_cases hb10 : (i9 : Int) > (i3)
    · have hS := hT hb10; clear hT hF
      refine Run.go rfl rfl rfl (sem_binI .i64 (i9) (i3) (.bool true) rfl rfl (binI_gtr_t hb10) ?_)
      refine Run.go rfl rfl rfl (sem_assign ((Value.bool true)) rfl ?_)
      refine Run.region_end ?_
      refine Run.condT rfl ?_
      refine Run.seq ?_
      refine Run.ops0 (idx := [0]) rfl ?_
      refine Run.go rfl rfl rfl (sem_assign ((Value.int .i64 (1))) rfl ?_)
      refine Run.region_end ?_
      refine Run.ret ⟨.inr rfl, ?_⟩
      exact hS.imp fun h' hq => ⟨(1), rfl, hq⟩
    · have hS := hF hb10; clear hT hF
      refine Run.go rfl rfl rfl (sem_binI .i64 (i9) (i3) (.bool false) rfl rfl (binI_gtr_f hb10) ?_)
      refine Run.go rfl rfl rfl (sem_assign ((Value.bool false)) rfl ?_)
      refine Run.region_end ?_
      refine Run.condF rfl ?_
      refine Run.skip ?_
      refine Run.inBlock ?_
      refine Run.seq ?_
      refine Run.ops0 (idx := [0]) rfl ?_
      refine Run.go rfl rfl rfl (sem_assign ((Value.int .i64 (0))) rfl ?_)
      refine Run.region_end ?_
      refine Run.ret ⟨.inr rfl, ?_⟩
      exact hS.imp fun h' hq => ⟨(0), rfl, hq⟩
set_option maxHeartbeats 4000000 in
theorem C_slices_rotateRight_draft_entry_string.of {B : RO} {a1 : Option Addr} {n2 : Nat} {c3 : Nat} {i4 : Int} {h : Heap} {Q : Heap → Prop} (hS : S_slices_rotateRight_draft_entry_string B a1 n2 c3 i4 h Q) : C_slices_rotateRight_draft_entry_string B a1 n2 c3 i4 h Q := by
  unfold S_slices_rotateRight_draft_entry_string at hS
  unfold C_slices_rotateRight_draft_entry_string
  refine Spec.of_run Try.func111 (N := 10) (rs := []) rfl rfl rfl (Nat.le_of_ble_eq_true rfl) ?_
  refine Run.ops0 (idx := [0, 1, 2, 3, 4, 5]) rfl ?_
  refine Run.go rfl rfl rfl (sem_move ((Value.slice a1 n2 c3)) rfl ?_)
  refine Run.go rfl rfl rfl (sem_move ((Value.slice a1 n2 c3)) rfl ?_)
  refine Run.go rfl rfl rfl (sem_lenSl a1 n2 c3 rfl TF.sl_156 ?_)
  refine Run.go rfl rfl rfl (sem_move ((Value.int .i64 (i4))) rfl ?_)
  refine Run.go rfl rfl rfl (sem_binI .i64 ((n2 : Nat)) (i4) ((Value.int .i64 (IntKind.wrap .i64 (((n2 : Nat)) - (i4))))) rfl rfl rfl ?_)
  refine Run.go rfl rfl rfl (sem_callL [(Value.slice a1 n2 c3), (Value.int .i64 (IntKind.wrap .i64 (((n2 : Nat)) - (i4))))] (TF.goes_113) rfl rfl (Spec.mono hS fun v h5 hv => ?_))
  obtain ⟨rfl, hS⟩ := hv
  refine Run.region_end ?_
  refine Run.fall ⟨.inl rfl, ?_⟩
  exact hS.imp fun h' hq => ⟨rfl, hq⟩
set_option maxHeartbeats 4000000 in
theorem C_slices_rotateLeft_draft_entry_int.of {B : RO} {a1 : Option Addr} {n2 : Nat} {c3 : Nat} {i4 : Int} {h : Heap} {Q : Heap → Prop} (hS : S_slices_rotateLeft_draft_entry_int B a1 n2 c3 i4 h Q) : C_slices_rotateLeft_draft_entry_int B a1 n2 c3 i4 h Q := by
  unfold S_slices_rotateLeft_draft_entry_int at hS
  unfold C_slices_rotateLeft_draft_entry_int
  refine Spec.of_run Try.func112 (N := 14) (rs := []) rfl rfl rfl (Nat.le_of_ble_eq_true rfl) ?_
  refine Run.seq ?_
  refine Run.ops0 (idx := [0, 1, 2, 3]) rfl ?_
  refine Run.go rfl rfl rfl (sem_move ((Value.slice a1 n2 c3)) rfl ?_)
  refine Run.go rfl rfl rfl (sem_move ((Value.int .i64 (i4))) rfl ?_)
  obtain ⟨hi0, hi1, hi2, hS⟩ := hS
  refine Run.go rfl rfl rfl (sem_sliceSlI a1 n2 c3 (0) (i4) rfl TF.slc_120 rfl ⟨_, rfl⟩ hi0 hi1 hi2 ?_)
  refine Run.go rfl rfl rfl (sem_callL [(Value.slice (if c3 = Int.toNat (0) then a1 else Option.map (·.add (Int.toNat (0) * 2)) a1) (Int.toNat (i4) - Int.toNat (0)) (c3 - Int.toNat (0)))] (TF.goes_114) rfl rfl (Spec.mono hS fun v h5 hv => ?_))
  obtain ⟨rfl, hS⟩ := hv
  refine Run.region_end ?_
  refine Run.seq ?_
  refine Run.ops0 (idx := [0, 1, 2, 3]) rfl ?_
  refine Run.go rfl rfl rfl (sem_move ((Value.slice a1 n2 c3)) rfl ?_)
  refine Run.go rfl rfl rfl (sem_move ((Value.int .i64 (i4))) rfl ?_)
  obtain ⟨hi0, hi1, hi2, hS⟩ := hS
  refine Run.go rfl rfl rfl (sem_sliceSlI a1 n2 c3 (i4) ((n2 : Nat)) rfl TF.slc_120 ⟨_, rfl⟩ rfl hi0 hi1 hi2 ?_)
  refine Run.go rfl rfl rfl (sem_callL [(Value.slice (if c3 = Int.toNat (i4) then a1 else Option.map (·.add (Int.toNat (i4) * 2)) a1) (Int.toNat ((n2 : Nat)) - Int.toNat (i4)) (c3 - Int.toNat (i4)))] (TF.goes_114) rfl rfl (Spec.mono hS fun v h6 hv => ?_))
  obtain ⟨rfl, hS⟩ := hv
  refine Run.region_end ?_
  refine Run.ops0 (idx := [0, 1]) rfl ?_
  refine Run.go rfl rfl rfl (sem_move ((Value.slice a1 n2 c3)) rfl ?_)
  refine Run.go rfl rfl rfl (sem_callL [(Value.slice a1 n2 c3)] (TF.goes_114) rfl rfl (Spec.mono hS fun v h7 hv => ?_))
  obtain ⟨rfl, hS⟩ := hv
  refine Run.region_end ?_
  refine Run.fall ⟨.inl rfl, ?_⟩
  exact hS.imp fun h' hq => ⟨rfl, hq⟩
set_option maxHeartbeats 4000000 in
theorem C_slices_rotateLeft_draft_entry_string.of {B : RO} {a1 : Option Addr} {n2 : Nat} {c3 : Nat} {i4 : Int} {h : Heap} {Q : Heap → Prop} (hS : S_slices_rotateLeft_draft_entry_string B a1 n2 c3 i4 h Q) : C_slices_rotateLeft_draft_entry_string B a1 n2 c3 i4 h Q := by
  unfold S_slices_rotateLeft_draft_entry_string at hS
  unfold C_slices_rotateLeft_draft_entry_string
  refine Spec.of_run Try.func113 (N := 14) (rs := []) rfl rfl rfl (Nat.le_of_ble_eq_true rfl) ?_
  refine Run.seq ?_
  refine Run.ops0 (idx := [0, 1, 2, 3]) rfl ?_
  refine Run.go rfl rfl rfl (sem_move ((Value.slice a1 n2 c3)) rfl ?_)
  refine Run.go rfl rfl rfl (sem_move ((Value.int .i64 (i4))) rfl ?_)
  obtain ⟨hi0, hi1, hi2, hS⟩ := hS
  refine Run.go rfl rfl rfl (sem_sliceSlI a1 n2 c3 (0) (i4) rfl TF.slc_156 rfl ⟨_, rfl⟩ hi0 hi1 hi2 ?_)
  refine Run.go rfl rfl rfl (sem_callL [(Value.slice (if c3 = Int.toNat (0) then a1 else Option.map (·.add (Int.toNat (0) * 2)) a1) (Int.toNat (i4) - Int.toNat (0)) (c3 - Int.toNat (0)))] (TF.goes_115) rfl rfl (Spec.mono hS fun v h5 hv => ?_))
  obtain ⟨rfl, hS⟩ := hv
  refine Run.region_end ?_
  refine Run.seq ?_
  refine Run.ops0 (idx := [0, 1, 2, 3]) rfl ?_
  refine Run.go rfl rfl rfl (sem_move ((Value.slice a1 n2 c3)) rfl ?_)
  refine Run.go rfl rfl rfl (sem_move ((Value.int .i64 (i4))) rfl ?_)
  obtain ⟨hi0, hi1, hi2, hS⟩ := hS
  refine Run.go rfl rfl rfl (sem_sliceSlI a1 n2 c3 (i4) ((n2 : Nat)) rfl TF.slc_156 ⟨_, rfl⟩ rfl hi0 hi1 hi2 ?_)
  refine Run.go rfl rfl rfl (sem_callL [(Value.slice (if c3 = Int.toNat (i4) then a1 else Option.map (·.add (Int.toNat (i4) * 2)) a1) (Int.toNat ((n2 : Nat)) - Int.toNat (i4)) (c3 - Int.toNat (i4)))] (TF.goes_115) rfl rfl (Spec.mono hS fun v h6 hv => ?_))
  obtain ⟨rfl, hS⟩ := hv
  refine Run.region_end ?_
  refine Run.ops0 (idx := [0, 1]) rfl ?_
  refine Run.go rfl rfl rfl (sem_move ((Value.slice a1 n2 c3)) rfl ?_)
  refine Run.go rfl rfl rfl (sem_callL [(Value.slice a1 n2 c3)] (TF.goes_115) rfl rfl (Spec.mono hS fun v h7 hv => ?_))
  obtain ⟨rfl, hS⟩ := hv
  refine Run.region_end ?_
  refine Run.fall ⟨.inl rfl, ?_⟩
  exact hS.imp fun h' hq => ⟨rfl, hq⟩
set_option maxHeartbeats 4000000 in
theorem C_slices_Reverse_s_draft_entry_int_draft_entry_int.of {B : RO} {a1 : Option Addr} {n2 : Nat} {c3 : Nat} {h : Heap} {Q : Heap → Prop} (hS : S_slices_Reverse_s_draft_entry_int_draft_entry_int B a1 n2 c3 h Q) : C_slices_Reverse_s_draft_entry_int_draft_entry_int B a1 n2 c3 h Q := by
  unfold S_slices_Reverse_s_draft_entry_int_draft_entry_int at hS
  unfold C_slices_Reverse_s_draft_entry_int_draft_entry_int
  refine Spec.of_run Try.func114 (N := 28) (rs := []) rfl rfl rfl (Nat.le_of_ble_eq_true rfl) ?_
  refine Run.seq ?_
  refine Run.ops0 (idx := [0, 1, 2, 3, 4]) rfl ?_
  refine Run.go rfl rfl rfl (sem_move ((Value.slice a1 n2 c3)) rfl ?_)
  refine Run.go rfl rfl rfl (sem_lenSl a1 n2 c3 rfl TF.sl_120 ?_)
  refine Run.go rfl rfl rfl (sem_binI .i64 ((n2 : Nat)) (1) ((Value.int .i64 (IntKind.wrap .i64 (((n2 : Nat)) - (1))))) rfl rfl rfl ?_)
  refine Run.go rfl rfl rfl (sem_assign ((Value.int .i64 (0))) rfl ?_)
  refine Run.go rfl rfl rfl (sem_assign ((Value.int .i64 (IntKind.wrap .i64 (((n2 : Nat)) - (1))))) rfl ?_)
  refine Run.region_end ?_
  refine Run.block ?_
  obtain ⟨J10, m8, h0, hS⟩ := hS
  refine Run.of_fin (h0.imp fun h' h0 => ?_)
  refine Run.loop (σ := Int × Int × Nat) (fun x e h => J10 x.1 x.2.1 x.2.2 h ∧ Agree [(0, (Value.slice a1 n2 c3)), (2, (Value.int .i64 (x.1))), (3, (Value.int .i64 (x.2.1)))] e) (fun x => x.2.2) ((0), (IntKind.wrap .i64 (((n2 : Nat)) - (1))), m8) ⟨h0, ⟨rfl, rfl, rfl, trivial⟩⟩ ?_; clear h0
  rintro ⟨i4, i5, m7⟩ e h6 ⟨hJ, hag⟩ ih9
  have hS := hS i4 i5 m7 h6 hJ; clear hJ
  refine Run.env hag ?_; clear hag
  refine Run.seq ?_
  refine Run.seq ?_
  refine Run.ops0 (idx := [0, 1, 2]) rfl ?_
  refine Run.go rfl rfl rfl (sem_move ((Value.int .i64 (i4))) rfl ?_)
  refine Run.go rfl rfl rfl (sem_move ((Value.int .i64 (i5))) rfl ?_)
  obtain ⟨hT, hF⟩ := hS
  by_cases hb11 : (i4 : Int) < (i5)
  · have hS := hT hb11; clear hT hF
    refine Run.go rfl rfl rfl (sem_binI .i64 (i4) (i5) (.bool true) rfl rfl (binI_lss_t hb11) ?_)
    refine Run.region_end ?_
    refine Run.condT rfl ?_
    refine Run.skip ?_
    refine Run.seq ?_
    refine Run.block ?_
    skip
    skip
    skip
    skip
    skip
    skip
    obtain ⟨A18, e19, hi0, hi1, hS⟩ := hS
    have f21 := hi0; have f22 := hi1
    obtain ⟨i23, i24, hl, hS⟩ := hS
    have f25 := hl
    skip
    skip
    obtain ⟨A28, e29, hi0, hi1, hS⟩ := hS
    have f31 := hi0; have f32 := hi1
    obtain ⟨i33, i34, hl, hS⟩ := hS
    have f35 := hl
    obtain ⟨A36, e37, hi0, hi1, hS⟩ := hS
    have f39 := hi0; have f40 := hi1
    refine Run.draw (fun h' => CellsAt B h' (Addr.add A18 (Int.toNat (i5) * 2)) 0 [(Value.int .i64 (i23)), (Value.int .i64 (i24))] ∧ CellsAt B h' (Addr.add A28 (Int.toNat (i4) * 2)) 0 [(Value.int .i64 (i33)), (Value.int .i64 (i34))] ∧ True) [15] [.q 0, .q 1, .q 2, .q 3, .q 4, .q 5, .q 6, .q 7, .q 8, .q 9, .q 10, .q 11, .q 12, .x 13, .q 14, .x 15] TF.mixed (by kernel_rfl) ⟨f25, f35, trivial⟩ ?_
    refine RunO.quiet rfl rfl rfl (fun h' hC => sem_move ((Value.slice a1 n2 c3)) rfl ⟨rfl, rfl⟩) ?_
    refine RunO.quiet rfl rfl rfl (fun h' hC => sem_move ((Value.int .i64 (i4))) rfl ⟨rfl, rfl⟩) ?_
    refine RunO.quiet rfl rfl rfl (fun h' hC => sem_move ((Value.slice a1 n2 c3)) rfl ⟨rfl, rfl⟩) ?_
    refine RunO.quiet rfl rfl rfl (fun h' hC => sem_move ((Value.int .i64 (i5))) rfl ⟨rfl, rfl⟩) ?_
    refine RunO.quiet rfl rfl rfl (fun h' hC => sem_move ((Value.slice a1 n2 c3)) rfl ⟨rfl, rfl⟩) ?_
    refine RunO.quiet rfl rfl rfl (fun h' hC => sem_move ((Value.int .i64 (i5))) rfl ⟨rfl, rfl⟩) ?_
    refine RunO.quiet rfl rfl rfl (fun h' hC => sem_indexAddrS A18 n2 c3 .i64 (i5) (congrArg (fun a => Value.slice a n2 c3) e19) rfl TF.slc_120 f21 f22 ⟨rfl, rfl⟩) ?_
    refine RunO.quiet rfl rfl rfl (fun h' hC => sem_loadN (Addr.add A18 (Int.toNat (i5) * 2)) [(Value.int .i64 (i23)), (Value.int .i64 (i24))] rfl TF.agg_163 TF.sz_163 hC.1 ⟨rfl, rfl⟩) ?_
    refine RunO.quiet rfl rfl rfl (fun h' hC => sem_move ((Value.slice a1 n2 c3)) rfl ⟨rfl, rfl⟩) ?_
    refine RunO.quiet rfl rfl rfl (fun h' hC => sem_move ((Value.int .i64 (i4))) rfl ⟨rfl, rfl⟩) ?_
    refine RunO.quiet rfl rfl rfl (fun h' hC => sem_indexAddrS A28 n2 c3 .i64 (i4) (congrArg (fun a => Value.slice a n2 c3) e29) rfl TF.slc_120 f31 f32 ⟨rfl, rfl⟩) ?_
    refine RunO.quiet rfl rfl rfl (fun h' hC => sem_loadN (Addr.add A28 (Int.toNat (i4) * 2)) [(Value.int .i64 (i33)), (Value.int .i64 (i34))] rfl TF.agg_163 TF.sz_163 hC.2.1 ⟨rfl, rfl⟩) ?_
    refine RunO.quiet rfl rfl rfl (fun h' hC => sem_indexAddrS A36 n2 c3 .i64 (i4) (congrArg (fun a => Value.slice a n2 c3) e37) rfl TF.slc_120 f39 f40 ⟨rfl, rfl⟩) ?_
    obtain ⟨h41, hst, hS⟩ := hS
    refine OpH.go rfl rfl rfl (sem_storeN (Addr.add A36 (Int.toNat (i4) * 2)) [(Value.int .i64 (i23)), (Value.int .i64 (i24))] h41 rfl rfl TF.sz_163 hst ?_)
    obtain ⟨g42, g43, hS⟩ := hS
    refine ⟨fun _ => ⟨g42, g43, trivial⟩, ?_⟩
    obtain ⟨A44, e45, hi0, hi1, hS⟩ := hS
    refine RunO.quiet rfl rfl rfl (fun h' hC => sem_indexAddrS A44 n2 c3 .i64 (i5) (congrArg (fun a => Value.slice a n2 c3) e45) rfl TF.slc_120 hi0 hi1 ⟨rfl, rfl⟩) ?_
    obtain ⟨h46, hst, hS⟩ := hS
    refine OpH.go rfl rfl rfl (sem_storeN (Addr.add A44 (Int.toNat (i5) * 2)) [(Value.int .i64 (i33)), (Value.int .i64 (i34))] h46 rfl rfl TF.sz_163 hst ?_)
    refine ⟨fun hz => Bool.noConfusion hz, ?_⟩
    refine Run.inBlock ?_
    refine Run.ops0 (idx := [0, 1, 2, 3, 4, 5]) rfl ?_
    refine Run.go rfl rfl rfl (sem_move ((Value.int .i64 (i4))) rfl ?_)
    refine Run.go rfl rfl rfl (sem_binI .i64 (i4) (1) ((Value.int .i64 (IntKind.wrap .i64 ((i4) + (1))))) rfl rfl rfl ?_)
    refine Run.go rfl rfl rfl (sem_move ((Value.int .i64 (i5))) rfl ?_)
    refine Run.go rfl rfl rfl (sem_binI .i64 (i5) (1) ((Value.int .i64 (IntKind.wrap .i64 ((i5) - (1))))) rfl rfl rfl ?_)
    refine Run.go rfl rfl rfl (sem_assign ((Value.int .i64 (IntKind.wrap .i64 ((i4) + (1))))) rfl ?_)
    refine Run.go rfl rfl rfl (sem_assign ((Value.int .i64 (IntKind.wrap .i64 ((i5) - (1))))) rfl ?_)
    refine Run.region_end ?_
    exact Run.of_fin (hS.imp fun h' ⟨m', hm, hS⟩ => ih9 ((IntKind.wrap .i64 ((i4) + (1))), (IntKind.wrap .i64 ((i5) - (1))), m') _ _ ⟨hS, ⟨rfl, rfl, rfl, trivial⟩⟩ hm)
  · have hS := hF hb11; clear hT hF
    refine Run.go rfl rfl rfl (sem_binI .i64 (i4) (i5) (.bool false) rfl rfl (binI_lss_f hb11) ?_)
    refine Run.region_end ?_
    refine Run.condF rfl ?_
    refine Run.exit rfl ?_
    refine Run.fall ⟨.inl rfl, ?_⟩
    exact hS.imp fun h' hq => ⟨rfl, hq⟩
set_option maxHeartbeats 4000000 in
theorem C_slices_Reverse_s_draft_entry_string_draft_entry_string.of {B : RO} {a1 : Option Addr} {n2 : Nat} {c3 : Nat} {h : Heap} {Q : Heap → Prop} (hS : S_slices_Reverse_s_draft_entry_string_draft_entry_string B a1 n2 c3 h Q) : C_slices_Reverse_s_draft_entry_string_draft_entry_string B a1 n2 c3 h Q := by
  unfold S_slices_Reverse_s_draft_entry_string_draft_entry_string at hS
  unfold C_slices_Reverse_s_draft_entry_string_draft_entry_string
  refine Spec.of_run Try.func115 (N := 28) (rs := []) rfl rfl rfl (Nat.le_of_ble_eq_true rfl) ?_
  refine Run.seq ?_
  refine Run.ops0 (idx := [0, 1, 2, 3, 4]) rfl ?_
  refine Run.go rfl rfl rfl (sem_move ((Value.slice a1 n2 c3)) rfl ?_)
  refine Run.go rfl rfl rfl (sem_lenSl a1 n2 c3 rfl TF.sl_156 ?_)
  refine Run.go rfl rfl rfl (sem_binI .i64 ((n2 : Nat)) (1) ((Value.int .i64 (IntKind.wrap .i64 (((n2 : Nat)) - (1))))) rfl rfl rfl ?_)
  refine Run.go rfl rfl rfl (sem_assign ((Value.int .i64 (0))) rfl ?_)
  refine Run.go rfl rfl rfl (sem_assign ((Value.int .i64 (IntKind.wrap .i64 (((n2 : Nat)) - (1))))) rfl ?_)
  refine Run.region_end ?_
  refine Run.block ?_
  obtain ⟨J10, m8, h0, hS⟩ := hS
  refine Run.of_fin (h0.imp fun h' h0 => ?_)
  refine Run.loop (σ := Int × Int × Nat) (fun x e h => J10 x.1 x.2.1 x.2.2 h ∧ Agree [(0, (Value.slice a1 n2 c3)), (2, (Value.int .i64 (x.1))), (3, (Value.int .i64 (x.2.1)))] e) (fun x => x.2.2) ((0), (IntKind.wrap .i64 (((n2 : Nat)) - (1))), m8) ⟨h0, ⟨rfl, rfl, rfl, trivial⟩⟩ ?_; clear h0
  rintro ⟨i4, i5, m7⟩ e h6 ⟨hJ, hag⟩ ih9
  have hS := hS i4 i5 m7 h6 hJ; clear hJ
  refine Run.env hag ?_; clear hag
  refine Run.seq ?_
  refine Run.seq ?_
  refine Run.ops0 (idx := [0, 1, 2]) rfl ?_
  refine Run.go rfl rfl rfl (sem_move ((Value.int .i64 (i4))) rfl ?_)
  refine Run.go rfl rfl rfl (sem_move ((Value.int .i64 (i5))) rfl ?_)
  obtain ⟨hT, hF⟩ := hS
  by_cases hb11 : (i4 : Int) < (i5)
  · have hS := hT hb11; clear hT hF
    refine Run.go rfl rfl rfl (sem_binI .i64 (i4) (i5) (.bool true) rfl rfl (binI_lss_t hb11) ?_)
    refine Run.region_end ?_
    refine Run.condT rfl ?_
    refine Run.skip ?_
    refine Run.seq ?_
    refine Run.block ?_
    skip
    skip
    skip
    skip
    skip
    skip
    obtain ⟨A18, e19, hi0, hi1, hS⟩ := hS
    have f21 := hi0; have f22 := hi1
    obtain ⟨i23, s24, hl, hS⟩ := hS
    have f25 := hl
    skip
    skip
    obtain ⟨A28, e29, hi0, hi1, hS⟩ := hS
    have f31 := hi0; have f32 := hi1
    obtain ⟨i33, s34, hl, hS⟩ := hS
    have f35 := hl
    obtain ⟨A36, e37, hi0, hi1, hS⟩ := hS
    have f39 := hi0; have f40 := hi1
    refine Run.draw (fun h' => CellsAt B h' (Addr.add A18 (Int.toNat (i5) * 2)) 0 [(Value.int .i64 (i23)), (Value.string s24)] ∧ CellsAt B h' (Addr.add A28 (Int.toNat (i4) * 2)) 0 [(Value.int .i64 (i33)), (Value.string s34)] ∧ True) [15] [.q 0, .q 1, .q 2, .q 3, .q 4, .q 5, .q 6, .q 7, .q 8, .q 9, .q 10, .q 11, .q 12, .x 13, .q 14, .x 15] TF.mixed (by kernel_rfl) ⟨f25, f35, trivial⟩ ?_
    refine RunO.quiet rfl rfl rfl (fun h' hC => sem_move ((Value.slice a1 n2 c3)) rfl ⟨rfl, rfl⟩) ?_
    refine RunO.quiet rfl rfl rfl (fun h' hC => sem_move ((Value.int .i64 (i4))) rfl ⟨rfl, rfl⟩) ?_
    refine RunO.quiet rfl rfl rfl (fun h' hC => sem_move ((Value.slice a1 n2 c3)) rfl ⟨rfl, rfl⟩) ?_
    refine RunO.quiet rfl rfl rfl (fun h' hC => sem_move ((Value.int .i64 (i5))) rfl ⟨rfl, rfl⟩) ?_
    refine RunO.quiet rfl rfl rfl (fun h' hC => sem_move ((Value.slice a1 n2 c3)) rfl ⟨rfl, rfl⟩) ?_
    refine RunO.quiet rfl rfl rfl (fun h' hC => sem_move ((Value.int .i64 (i5))) rfl ⟨rfl, rfl⟩) ?_
    refine RunO.quiet rfl rfl rfl (fun h' hC => sem_indexAddrS A18 n2 c3 .i64 (i5) (congrArg (fun a => Value.slice a n2 c3) e19) rfl TF.slc_156 f21 f22 ⟨rfl, rfl⟩) ?_
    refine RunO.quiet rfl rfl rfl (fun h' hC => sem_loadN (Addr.add A18 (Int.toNat (i5) * 2)) [(Value.int .i64 (i23)), (Value.string s24)] rfl TF.agg_176 TF.sz_176 hC.1 ⟨rfl, rfl⟩) ?_
    refine RunO.quiet rfl rfl rfl (fun h' hC => sem_move ((Value.slice a1 n2 c3)) rfl ⟨rfl, rfl⟩) ?_
    refine RunO.quiet rfl rfl rfl (fun h' hC => sem_move ((Value.int .i64 (i4))) rfl ⟨rfl, rfl⟩) ?_
    refine RunO.quiet rfl rfl rfl (fun h' hC => sem_indexAddrS A28 n2 c3 .i64 (i4) (congrArg (fun a => Value.slice a n2 c3) e29) rfl TF.slc_156 f31 f32 ⟨rfl, rfl⟩) ?_
    refine RunO.quiet rfl rfl rfl (fun h' hC => sem_loadN (Addr.add A28 (Int.toNat (i4) * 2)) [(Value.int .i64 (i33)), (Value.string s34)] rfl TF.agg_176 TF.sz_176 hC.2.1 ⟨rfl, rfl⟩) ?_
    refine RunO.quiet rfl rfl rfl (fun h' hC => sem_indexAddrS A36 n2 c3 .i64 (i4) (congrArg (fun a => Value.slice a n2 c3) e37) rfl TF.slc_156 f39 f40 ⟨rfl, rfl⟩) ?_
    obtain ⟨h41, hst, hS⟩ := hS
    refine OpH.go rfl rfl rfl (sem_storeN (Addr.add A36 (Int.toNat (i4) * 2)) [(Value.int .i64 (i23)), (Value.string s24)] h41 rfl rfl TF.sz_176 hst ?_)
    obtain ⟨g42, g43, hS⟩ := hS
    refine ⟨fun _ => ⟨g42, g43, trivial⟩, ?_⟩
    obtain ⟨A44, e45, hi0, hi1, hS⟩ := hS
    refine RunO.quiet rfl rfl rfl (fun h' hC => sem_indexAddrS A44 n2 c3 .i64 (i5) (congrArg (fun a => Value.slice a n2 c3) e45) rfl TF.slc_156 hi0 hi1 ⟨rfl, rfl⟩) ?_
    obtain ⟨h46, hst, hS⟩ := hS
    refine OpH.go rfl rfl rfl (sem_storeN (Addr.add A44 (Int.toNat (i5) * 2)) [(Value.int .i64 (i33)), (Value.string s34)] h46 rfl rfl TF.sz_176 hst ?_)
    refine ⟨fun hz => Bool.noConfusion hz, ?_⟩
    refine Run.inBlock ?_
    refine Run.ops0 (idx := [0, 1, 2, 3, 4, 5]) rfl ?_
    refine Run.go rfl rfl rfl (sem_move ((Value.int .i64 (i4))) rfl ?_)
    refine Run.go rfl rfl rfl (sem_binI .i64 (i4) (1) ((Value.int .i64 (IntKind.wrap .i64 ((i4) + (1))))) rfl rfl rfl ?_)
    refine Run.go rfl rfl rfl (sem_move ((Value.int .i64 (i5))) rfl ?_)
    refine Run.go rfl rfl rfl (sem_binI .i64 (i5) (1) ((Value.int .i64 (IntKind.wrap .i64 ((i5) - (1))))) rfl rfl rfl ?_)
    refine Run.go rfl rfl rfl (sem_assign ((Value.int .i64 (IntKind.wrap .i64 ((i4) + (1))))) rfl ?_)
    refine Run.go rfl rfl rfl (sem_assign ((Value.int .i64 (IntKind.wrap .i64 ((i5) - (1))))) rfl ?_)
    refine Run.region_end ?_
    exact Run.of_fin (hS.imp fun h' ⟨m', hm, hS⟩ => ih9 ((IntKind.wrap .i64 ((i4) + (1))), (IntKind.wrap .i64 ((i5) - (1))), m') _ _ ⟨hS, ⟨rfl, rfl, rfl, trivial⟩⟩ hm)
  · have hS := hF hb11; clear hT hF
    refine Run.go rfl rfl rfl (sem_binI .i64 (i4) (i5) (.bool false) rfl rfl (binI_lss_f hb11) ?_)
    refine Run.region_end ?_
    refine Run.condF rfl ?_
    refine Run.exit rfl ?_
    refine Run.fall ⟨.inl rfl, ?_⟩
    exact hS.imp fun h' hq => ⟨rfl, hq⟩
end Go.Proofs.Ytoajfmmomgpjcaa.H
