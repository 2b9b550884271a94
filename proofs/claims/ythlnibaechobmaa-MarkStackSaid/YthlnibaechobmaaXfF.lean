/- Calls and facts. No condition. -/
import Derived.Test.YthlnibaechobmaaHs
import Derived.Test.YthlnibaechobmaaProg
import Derived.KernelRfl
namespace Go.Proofs.Ythlnibaechobmaa.H
open Go
set_option linter.unusedVariables false
set_option maxRecDepth 100000

noncomputable abbrev PG : Program := Go.Proofs.Try.prog
abbrev TY.int64 : TypeId := 2
abbrev TY.int : TypeId := 3
abbrev TY.bool : TypeId := 4
abbrev TY.uint8 : TypeId := 5
abbrev TY.abi_BoundsErrorCode : TypeId := 6
abbrev TY.runtime_boundsError : TypeId := 8
abbrev TY.string : TypeId := 9
abbrev TY.runtime_errorString : TypeId := 10
abbrev TY.runtime_plainError : TypeId := 11
abbrev TY.uintptr : TypeId := 12
abbrev TY.runtime_errorAddressString : TypeId := 14
abbrev TY.p_runtime_TypeAssertionError : TypeId := 15
abbrev TY.p_runtime_PanicNilError : TypeId := 16
abbrev TY.p_abi_Type : TypeId := 17
abbrev TY.maps_unhashableTypeError : TypeId := 19
abbrev TY.int32 : TypeId := 21
abbrev TY.p_stylus_Stylus : TypeId := 23
abbrev TY.s_uint8 : TypeId := 24
abbrev TY.stylus_Stylus : TypeId := 26
abbrev TY.s_countermandlaw01_Item : TypeId := 30
abbrev TY.s_countermandref08_Set : TypeId := 35
abbrev TY.p_cell_Row_int : TypeId := 36
abbrev TY.a_64_int : TypeId := 38
abbrev TY.countermandref08_Set : TypeId := 40
abbrev TY.p_cell_Row_string : TypeId := 44
abbrev TY.iter_Seq2_int_string : TypeId := 48
abbrev TY.p_countermandref08_Row : TypeId := 54
abbrev TY.countermandref08_Row : TypeId := 56
abbrev TY.iter_Seq2_int_int : TypeId := 61
abbrev TY.s_acts_Open : TypeId := 64
abbrev TY.s_int : TypeId := 65
abbrev TY.p_acts_Acts : TypeId := 66
abbrev TY.s_acts_Out : TypeId := 67
abbrev TY.acts_Acts : TypeId := 69
abbrev TY.a_4_int : TypeId := 70
abbrev TY.acts_Open : TypeId := 72
abbrev TY.acts_Mark : TypeId := 73
abbrev TY.s_countermandlaw11_Call : TypeId := 78
abbrev TY.p_feed_Feed : TypeId := 79
abbrev TY.p_countermandref11_Feed : TypeId := 81
abbrev TY.a_3_string : TypeId := 82
abbrev TY.a_3_int : TypeId := 83
abbrev TY.countermandref11_Feed : TypeId := 85
abbrev TY.countermandlaw11_Call : TypeId := 87
abbrev TY.api_Errno : TypeId := 88
abbrev TY.s_string : TypeId := 94
abbrev TY.p_stylus_Reader : TypeId := 96
abbrev TY.uint64 : TypeId := 98
abbrev TY.p_mark_Stack : TypeId := 102
abbrev TY.s_mark_Mark : TypeId := 103
abbrev TY.mark_Stack : TypeId := 105
abbrev TY.p_draft_Draft_int : TypeId := 107
abbrev TY.p_sheet_Sheet : TypeId := 108
abbrev TY.p_cursor_Cursor : TypeId := 109
abbrev TY.api_Regs : TypeId := 110
abbrev TY.mark_State : TypeId := 112
abbrev TY.mark_Mark : TypeId := 115
abbrev TY.uint : TypeId := 119
abbrev TY.countermandlaw01_Item : TypeId := 121
abbrev TY.s_cell_slot_int : TypeId := 125
abbrev TY.cell_Row_int : TypeId := 127
abbrev TY.cell_slot_int : TypeId := 129
abbrev TY.s_cell_slot_string : TypeId := 130
abbrev TY.cell_Row_string : TypeId := 132
abbrev TY.cell_slot_string : TypeId := 134
abbrev TY.acts_Out : TypeId := 138
abbrev TY.feed_Feed : TypeId := 143
abbrev TY.stylus_Reader : TypeId := 145
abbrev TY.s_draft_entry_int : TypeId := 149
abbrev TY.draft_Draft_int : TypeId := 151
abbrev TY.cursor_Cursor : TypeId := 154
abbrev TY.iter_Seq2_int_acts_Open : TypeId := 157
abbrev TY.p_draft_Draft_file_File : TypeId := 161
abbrev TY.s_draft_entry_file_File : TypeId := 162
abbrev TY.draft_Draft_file_File : TypeId := 164
abbrev TY.sheet_Sheet : TypeId := 166
abbrev TY.draft_entry_int : TypeId := 170
abbrev TY.file_File : TypeId := 173
abbrev TY.draft_entry_file_File : TypeId := 176
abbrev TY.runtime_TypeAssertionError : TypeId := 178
abbrev TY.a_0_p_runtime_PanicNilError : TypeId := 179
abbrev TY.runtime_PanicNilError : TypeId := 181
abbrev TY.uint32 : TypeId := 182
abbrev TY.abi_TFlag : TypeId := 183
abbrev TY.abi_Kind : TypeId := 184
abbrev TY.p_uint8 : TypeId := 186
abbrev TY.abi_NameOff : TypeId := 187
abbrev TY.abi_TypeOff : TypeId := 188
abbrev TY.abi_Type : TypeId := 190
theorem TF.agg_103 : aggB PG 103 = some false := by kernel_rfl
theorem TF.agg_107 : aggB PG 107 = some false := by kernel_rfl
theorem TF.agg_108 : aggB PG 108 = some false := by kernel_rfl
theorem TF.agg_109 : aggB PG 109 = some false := by kernel_rfl
theorem TF.agg_110 : aggB PG 110 = some true := by kernel_rfl
theorem TF.agg_112 : aggB PG 112 = some true := by kernel_rfl
theorem TF.agg_115 : aggB PG 115 = some true := by kernel_rfl
theorem TF.agg_149 : aggB PG 149 = some false := by kernel_rfl
theorem TF.agg_154 : aggB PG 154 = some true := by kernel_rfl
theorem TF.agg_161 : aggB PG 161 = some false := by kernel_rfl
theorem TF.agg_162 : aggB PG 162 = some false := by kernel_rfl
theorem TF.agg_3 : aggB PG 3 = some false := by kernel_rfl
theorem TF.arr_110 : arrB PG 110 = some (4, 3, 1, false) := by kernel_rfl
theorem TF.fld_105_0 : fldB PG 105 0 = some 0 := by kernel_rfl
theorem TF.fld_112_0 : fldB PG 112 0 = some 0 := by kernel_rfl
theorem TF.fld_112_1 : fldB PG 112 1 = some 1 := by kernel_rfl
theorem TF.fld_112_2 : fldB PG 112 2 = some 2 := by kernel_rfl
theorem TF.fld_112_3 : fldB PG 112 3 = some 3 := by kernel_rfl
theorem TF.fld_115_0 : fldB PG 115 0 = some 0 := by kernel_rfl
theorem TF.fld_115_2 : fldB PG 115 2 = some 11 := by kernel_rfl
theorem TF.fld_151_0 : fldB PG 151 0 = some 0 := by kernel_rfl
theorem TF.fld_164_0 : fldB PG 164 0 = some 0 := by kernel_rfl
theorem TF.fld_166_0 : fldB PG 166 0 = some 0 := by kernel_rfl
theorem TF.goes_14 : Goes PG 14 := ⟨Try.f14, Try.func14, by kernel_rfl, by kernel_rfl⟩
theorem TF.goes_57 : Goes PG 57 := ⟨Try.f57, Try.func57, by kernel_rfl, by kernel_rfl⟩
theorem TF.goes_58 : Goes PG 58 := ⟨Try.f58, Try.func58, by kernel_rfl, by kernel_rfl⟩
theorem TF.goes_59 : Goes PG 59 := ⟨Try.f59, Try.func59, by kernel_rfl, by kernel_rfl⟩
theorem TF.goes_60 : Goes PG 60 := ⟨Try.f60, Try.func60, by kernel_rfl, by kernel_rfl⟩
theorem TF.goes_61 : Goes PG 61 := ⟨Try.f61, Try.func61, by kernel_rfl, by kernel_rfl⟩
theorem TF.goes_80 : Goes PG 80 := ⟨Try.f80, Try.func80, by kernel_rfl, by kernel_rfl⟩
theorem TF.goes_81 : Goes PG 81 := ⟨Try.f81, Try.func81, by kernel_rfl, by kernel_rfl⟩
theorem TF.goes_82 : Goes PG 82 := ⟨Try.f82, Try.func82, by kernel_rfl, by kernel_rfl⟩
theorem TF.goes_85 : Goes PG 85 := ⟨Try.f85, Try.func85, by kernel_rfl, by kernel_rfl⟩
theorem TF.goes_86 : Goes PG 86 := ⟨Try.f86, Try.func86, by kernel_rfl, by kernel_rfl⟩
theorem TF.goes_87 : Goes PG 87 := ⟨Try.f87, Try.func87, by kernel_rfl, by kernel_rfl⟩
theorem TF.goes_89 : Goes PG 89 := ⟨Try.f89, Try.func89, by kernel_rfl, by kernel_rfl⟩
theorem TF.goes_90 : Goes PG 90 := ⟨Try.f90, Try.func90, by kernel_rfl, by kernel_rfl⟩
theorem TF.goes_91 : Goes PG 91 := ⟨Try.f91, Try.func91, by kernel_rfl, by kernel_rfl⟩
theorem TF.mixed : PG.follows .mixedOrders = true := by kernel_rfl
theorem TF.places_105 : strPlaces PG 105 = some [(0, 1)] := by kernel_rfl
theorem TF.places_112 : strPlaces PG 112 = some [(0, 1), (1, 1), (2, 1), (3, 4)] := by kernel_rfl
theorem TF.places_115 : strPlaces PG 115 = some [(0, 7), (7, 4), (11, 1)] := by kernel_rfl
theorem TF.places_151 : strPlaces PG 151 = some [(0, 1)] := by kernel_rfl
theorem TF.places_154 : strPlaces PG 154 = some [(0, 3)] := by kernel_rfl
theorem TF.places_164 : strPlaces PG 164 = some [(0, 1)] := by kernel_rfl
theorem TF.places_166 : strPlaces PG 166 = some [(0, 1)] := by kernel_rfl
theorem TF.ptr_102 : ptrB PG 102 = true := by kernel_rfl
theorem TF.ptr_107 : ptrB PG 107 = true := by kernel_rfl
theorem TF.ptr_108 : ptrB PG 108 = true := by kernel_rfl
theorem TF.ptr_109 : ptrB PG 109 = true := by kernel_rfl
theorem TF.ptr_161 : ptrB PG 161 = true := by kernel_rfl
theorem TF.sl_103 : slT PG 103 = true := by kernel_rfl
theorem TF.sl_149 : slT PG 149 = true := by kernel_rfl
theorem TF.sl_162 : slT PG 162 = true := by kernel_rfl
theorem TF.sl_65 : slT PG 65 = true := by kernel_rfl
theorem TF.slc_103 : slcB PG 103 = some (115, 12, 96) := by kernel_rfl
theorem TF.slc_149 : slcB PG 149 = some (170, 2, 16) := by kernel_rfl
theorem TF.slc_162 : slcB PG 162 = some (176, 3, 32) := by kernel_rfl
theorem TF.slc_65 : slcB PG 65 = some (3, 1, 8) := by kernel_rfl
theorem TF.sz_103 : szB PG 103 = some 1 := by kernel_rfl
theorem TF.sz_110 : szB PG 110 = some 4 := by kernel_rfl
theorem TF.sz_112 : szB PG 112 = some 7 := by kernel_rfl
theorem TF.sz_115 : szB PG 115 = some 12 := by kernel_rfl
theorem TF.sz_154 : szB PG 154 = some 3 := by kernel_rfl
theorem TF.zero_105 : zeroB PG 105 = some [(Value.slice none 0 0)] := by kernel_rfl
theorem TF.zero_110 : zeroB PG 110 = some [(Value.int .i64 (0)), (Value.int .i64 (0)), (Value.int .i64 (0)), (Value.int .i64 (0))] := by kernel_rfl
theorem TF.zero_112 : zeroB PG 112 = some [(Value.pointer none), (Value.pointer none), (Value.pointer none), (Value.int .i64 (0)), (Value.int .i64 (0)), (Value.int .i64 (0)), (Value.int .i64 (0))] := by kernel_rfl
theorem TF.zero_115 : zeroB PG 115 = some [(Value.pointer none), (Value.pointer none), (Value.pointer none), (Value.int .i64 (0)), (Value.int .i64 (0)), (Value.int .i64 (0)), (Value.int .i64 (0)), (Value.int .i64 (0)), (Value.int .i64 (0)), (Value.int .i64 (0)), (Value.int .i64 (0)), (Value.int .i64 (0))] := by kernel_rfl
theorem TF.zero_151 : zeroB PG 151 = some [(Value.slice none 0 0)] := by kernel_rfl
theorem TF.zero_154 : zeroB PG 154 = some [(Value.int .i64 (0)), (Value.int .i64 (0)), (Value.int .i64 (0))] := by kernel_rfl
theorem TF.zero_164 : zeroB PG 164 = some [(Value.slice none 0 0)] := by kernel_rfl
theorem TF.zero_166 : zeroB PG 166 = some [(Value.pointer none)] := by kernel_rfl
abbrev FN.countermandlaw17_MarkStack : FuncId := 14
abbrev FN.countermandlaw17_alive : FuncId := 57
abbrev FN.mark_Stack_Push : FuncId := 58
abbrev FN.mark_Fresh : FuncId := 59
abbrev FN.mark_Stack_Len : FuncId := 60
abbrev FN.mark_Stack_Pop : FuncId := 61
abbrev FN.mark_State_Copy : FuncId := 80
abbrev FN.sheet_New : FuncId := 81
abbrev FN.slices_Delete_s_mark_Mark_mark_Mark : FuncId := 82
abbrev FN.draft_Draft_int_Copy : FuncId := 85
abbrev FN.sheet_Sheet_Copy : FuncId := 86
abbrev FN.cursor_Cursor_Copy : FuncId := 87
abbrev FN.slices_Clone_s_draft_entry_int_draft_entry_int : FuncId := 89
abbrev FN.draft_Draft_file_File_Copy : FuncId := 90
abbrev FN.slices_Clone_s_draft_entry_file_File_draft_entry_file_File : FuncId := 91
theorem TG.countermandlaw17_MarkStack : Goes PG FN.countermandlaw17_MarkStack := TF.goes_14
theorem TG.countermandlaw17_alive : Goes PG FN.countermandlaw17_alive := TF.goes_57
theorem TG.mark_Stack_Push : Goes PG FN.mark_Stack_Push := TF.goes_58
theorem TG.mark_Fresh : Goes PG FN.mark_Fresh := TF.goes_59
theorem TG.mark_Stack_Len : Goes PG FN.mark_Stack_Len := TF.goes_60
theorem TG.mark_Stack_Pop : Goes PG FN.mark_Stack_Pop := TF.goes_61
theorem TG.mark_State_Copy : Goes PG FN.mark_State_Copy := TF.goes_80
theorem TG.sheet_New : Goes PG FN.sheet_New := TF.goes_81
theorem TG.slices_Delete_s_mark_Mark_mark_Mark : Goes PG FN.slices_Delete_s_mark_Mark_mark_Mark := TF.goes_82
theorem TG.draft_Draft_int_Copy : Goes PG FN.draft_Draft_int_Copy := TF.goes_85
theorem TG.sheet_Sheet_Copy : Goes PG FN.sheet_Sheet_Copy := TF.goes_86
theorem TG.cursor_Cursor_Copy : Goes PG FN.cursor_Cursor_Copy := TF.goes_87
theorem TG.slices_Clone_s_draft_entry_int_draft_entry_int : Goes PG FN.slices_Clone_s_draft_entry_int_draft_entry_int := TF.goes_89
theorem TG.draft_Draft_file_File_Copy : Goes PG FN.draft_Draft_file_File_Copy := TF.goes_90
theorem TG.slices_Clone_s_draft_entry_file_File_draft_entry_file_File : Goes PG FN.slices_Clone_s_draft_entry_file_File_draft_entry_file_File := TF.goes_91
def C_countermandlaw17_MarkStack (B : RO) (a1 : Option Addr) (n2 : Nat) (c3 : Nat) (h : Heap) (Q : Bool → Heap → Prop) : Prop :=
  Spec PG B 14 #[(Value.slice a1 n2 c3)] h (fun v h' => ∃ b4 : Bool, v = (Value.bool b4) ∧ Q b4 h')
def C_countermandlaw17_alive (B : RO) (h : Heap) (Q : Bool → Heap → Prop) : Prop :=
  Spec PG B 57 #[] h (fun v h' => ∃ b1 : Bool, v = (Value.bool b1) ∧ Q b1 h')
def C_mark_Stack_Push (B : RO) (p1 : Option Addr) (p2 : Option Addr) (p3 : Option Addr) (p4 : Option Addr) (i5 : Int) (i6 : Int) (i7 : Int) (i8 : Int) (i9 : Int) (i10 : Int) (i11 : Int) (i12 : Int) (i13 : Int) (h : Heap) (Q : Bool → Heap → Prop) : Prop :=
  Spec PG B 58 #[(Value.pointer p1), (Value.agg #[(Value.pointer p2), (Value.pointer p3), (Value.pointer p4), (Value.int .i64 (i5)), (Value.int .i64 (i6)), (Value.int .i64 (i7)), (Value.int .i64 (i8)), (Value.int .i64 (i9)), (Value.int .i64 (i10)), (Value.int .i64 (i11)), (Value.int .i64 (i12)), (Value.int .i64 (i13))])] h (fun v h' => ∃ b14 : Bool, v = (Value.bool b14) ∧ Q b14 h')
def C_mark_Fresh (B : RO) (i1 : Int) (i2 : Int) (i3 : Int) (i4 : Int) (h : Heap) (Q : Option Addr → Option Addr → Option Addr → Int → Int → Int → Int → Heap → Prop) : Prop :=
  Spec PG B 59 #[(Value.agg #[(Value.int .i64 (i1)), (Value.int .i64 (i2)), (Value.int .i64 (i3)), (Value.int .i64 (i4))])] h (fun v h' => ∃ p5 : Option Addr, ∃ p6 : Option Addr, ∃ p7 : Option Addr, ∃ i8 : Int, ∃ i9 : Int, ∃ i10 : Int, ∃ i11 : Int, v = (Value.agg #[(Value.pointer p5), (Value.pointer p6), (Value.pointer p7), (Value.int .i64 (i8)), (Value.int .i64 (i9)), (Value.int .i64 (i10)), (Value.int .i64 (i11))]) ∧ Q p5 p6 p7 i8 i9 i10 i11 h')
def C_mark_Stack_Len (B : RO) (p1 : Option Addr) (h : Heap) (Q : Int → Heap → Prop) : Prop :=
  Spec PG B 60 #[(Value.pointer p1)] h (fun v h' => ∃ i2 : Int, v = (Value.int .i64 (i2)) ∧ Q i2 h')
def C_mark_Stack_Pop (B : RO) (p1 : Option Addr) (h : Heap) (Q : Option Addr → Option Addr → Option Addr → Int → Int → Int → Int → Int → Int → Int → Int → Int → Bool → Heap → Prop) : Prop :=
  Spec PG B 61 #[(Value.pointer p1)] h (fun v h' => ∃ p2 : Option Addr, ∃ p3 : Option Addr, ∃ p4 : Option Addr, ∃ i5 : Int, ∃ i6 : Int, ∃ i7 : Int, ∃ i8 : Int, ∃ i9 : Int, ∃ i10 : Int, ∃ i11 : Int, ∃ i12 : Int, ∃ i13 : Int, ∃ b14 : Bool, v = Value.tuple #[(Value.agg #[(Value.pointer p2), (Value.pointer p3), (Value.pointer p4), (Value.int .i64 (i5)), (Value.int .i64 (i6)), (Value.int .i64 (i7)), (Value.int .i64 (i8)), (Value.int .i64 (i9)), (Value.int .i64 (i10)), (Value.int .i64 (i11)), (Value.int .i64 (i12)), (Value.int .i64 (i13))]), (Value.bool b14)] ∧ Q p2 p3 p4 i5 i6 i7 i8 i9 i10 i11 i12 i13 b14 h')
def C_mark_State_Copy (B : RO) (p1 : Option Addr) (p2 : Option Addr) (p3 : Option Addr) (i4 : Int) (i5 : Int) (i6 : Int) (i7 : Int) (h : Heap) (Q : Option Addr → Option Addr → Option Addr → Int → Int → Int → Int → Heap → Prop) : Prop :=
  Spec PG B 80 #[(Value.agg #[(Value.pointer p1), (Value.pointer p2), (Value.pointer p3), (Value.int .i64 (i4)), (Value.int .i64 (i5)), (Value.int .i64 (i6)), (Value.int .i64 (i7))])] h (fun v h' => ∃ p8 : Option Addr, ∃ p9 : Option Addr, ∃ p10 : Option Addr, ∃ i11 : Int, ∃ i12 : Int, ∃ i13 : Int, ∃ i14 : Int, v = (Value.agg #[(Value.pointer p8), (Value.pointer p9), (Value.pointer p10), (Value.int .i64 (i11)), (Value.int .i64 (i12)), (Value.int .i64 (i13)), (Value.int .i64 (i14))]) ∧ Q p8 p9 p10 i11 i12 i13 i14 h')
def C_sheet_New (B : RO) (h : Heap) (Q : Option Addr → Heap → Prop) : Prop :=
  Spec PG B 81 #[] h (fun v h' => ∃ p1 : Option Addr, v = (Value.pointer p1) ∧ Q p1 h')
def C_slices_Delete_s_mark_Mark_mark_Mark (B : RO) (a1 : Option Addr) (n2 : Nat) (c3 : Nat) (i4 : Int) (i5 : Int) (h : Heap) (Q : Option Addr → Nat → Nat → Heap → Prop) : Prop :=
  Spec PG B 82 #[(Value.slice a1 n2 c3), (Value.int .i64 (i4)), (Value.int .i64 (i5))] h (fun v h' => ∃ a6 : Option Addr, ∃ n7 : Nat, ∃ c8 : Nat, v = (Value.slice a6 n7 c8) ∧ Q a6 n7 c8 h')
def C_draft_Draft_int_Copy (B : RO) (p1 : Option Addr) (h : Heap) (Q : Option Addr → Heap → Prop) : Prop :=
  Spec PG B 85 #[(Value.pointer p1)] h (fun v h' => ∃ p2 : Option Addr, v = (Value.pointer p2) ∧ Q p2 h')
def C_sheet_Sheet_Copy (B : RO) (p1 : Option Addr) (h : Heap) (Q : Option Addr → Heap → Prop) : Prop :=
  Spec PG B 86 #[(Value.pointer p1)] h (fun v h' => ∃ p2 : Option Addr, v = (Value.pointer p2) ∧ Q p2 h')
def C_cursor_Cursor_Copy (B : RO) (p1 : Option Addr) (h : Heap) (Q : Option Addr → Heap → Prop) : Prop :=
  Spec PG B 87 #[(Value.pointer p1)] h (fun v h' => ∃ p2 : Option Addr, v = (Value.pointer p2) ∧ Q p2 h')
def C_slices_Clone_s_draft_entry_int_draft_entry_int (B : RO) (a1 : Option Addr) (n2 : Nat) (c3 : Nat) (h : Heap) (Q : Option Addr → Nat → Nat → Heap → Prop) : Prop :=
  Spec PG B 89 #[(Value.slice a1 n2 c3)] h (fun v h' => ∃ a4 : Option Addr, ∃ n5 : Nat, ∃ c6 : Nat, v = (Value.slice a4 n5 c6) ∧ Q a4 n5 c6 h')
def C_draft_Draft_file_File_Copy (B : RO) (p1 : Option Addr) (h : Heap) (Q : Option Addr → Heap → Prop) : Prop :=
  Spec PG B 90 #[(Value.pointer p1)] h (fun v h' => ∃ p2 : Option Addr, v = (Value.pointer p2) ∧ Q p2 h')
def C_slices_Clone_s_draft_entry_file_File_draft_entry_file_File (B : RO) (a1 : Option Addr) (n2 : Nat) (c3 : Nat) (h : Heap) (Q : Option Addr → Nat → Nat → Heap → Prop) : Prop :=
  Spec PG B 91 #[(Value.slice a1 n2 c3)] h (fun v h' => ∃ a4 : Option Addr, ∃ n5 : Nat, ∃ c6 : Nat, v = (Value.slice a4 n5 c6) ∧ Q a4 n5 c6 h')
end Go.Proofs.Ythlnibaechobmaa.H
