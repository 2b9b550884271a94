/- Calls and facts. No condition. -/
import Derived.Test.YthlnibaechobmaaHi
import Derived.Test.YthlnibaechobmaaProg
import Derived.KernelRfl
namespace Go.Proofs.Ythlnibaechobmaa.H
open Go
set_option linter.unusedVariables false
set_option maxRecDepth 100000

noncomputable abbrev PG : Program := Go.Proofs.Try.prog
abbrev TY.int64 : TypeId := 2
abbrev TY.int : TypeId := 3
abbrev TY.bool : TypeId := 4
abbrev TY.uint8 : TypeId := 5
abbrev TY.abi_BoundsErrorCode : TypeId := 6
abbrev TY.runtime_boundsError : TypeId := 8
abbrev TY.string : TypeId := 9
abbrev TY.runtime_errorString : TypeId := 10
abbrev TY.runtime_plainError : TypeId := 11
abbrev TY.uintptr : TypeId := 12
abbrev TY.runtime_errorAddressString : TypeId := 14
abbrev TY.p_runtime_TypeAssertionError : TypeId := 15
abbrev TY.p_runtime_PanicNilError : TypeId := 16
abbrev TY.p_abi_Type : TypeId := 17
abbrev TY.maps_unhashableTypeError : TypeId := 19
abbrev TY.int32 : TypeId := 21
abbrev TY.p_stylus_Stylus : TypeId := 23
abbrev TY.s_uint8 : TypeId := 24
abbrev TY.stylus_Stylus : TypeId := 26
abbrev TY.s_countermandlaw01_Item : TypeId := 30
abbrev TY.s_countermandref08_Set : TypeId := 35
abbrev TY.p_cell_Row_int : TypeId := 36
abbrev TY.a_64_int : TypeId := 38
abbrev TY.countermandref08_Set : TypeId := 40
abbrev TY.p_cell_Row_string : TypeId := 44
abbrev TY.iter_Seq2_int_string : TypeId := 48
abbrev TY.p_countermandref08_Row : TypeId := 54
abbrev TY.countermandref08_Row : TypeId := 56
abbrev TY.iter_Seq2_int_int : TypeId := 61
abbrev TY.s_acts_Open : TypeId := 64
abbrev TY.s_int : TypeId := 65
abbrev TY.p_acts_Acts : TypeId := 66
abbrev TY.s_acts_Out : TypeId := 67
abbrev TY.acts_Acts : TypeId := 69
abbrev TY.a_4_int : TypeId := 70
abbrev TY.acts_Open : TypeId := 72
abbrev TY.acts_Mark : TypeId := 73
abbrev TY.s_countermandlaw11_Call : TypeId := 78
abbrev TY.p_feed_Feed : TypeId := 79
abbrev TY.p_countermandref11_Feed : TypeId := 81
abbrev TY.a_3_string : TypeId := 82
abbrev TY.a_3_int : TypeId := 83
abbrev TY.countermandref11_Feed : TypeId := 85
abbrev TY.countermandlaw11_Call : TypeId := 87
abbrev TY.api_Errno : TypeId := 88
abbrev TY.s_string : TypeId := 94
abbrev TY.p_stylus_Reader : TypeId := 96
abbrev TY.uint64 : TypeId := 98
abbrev TY.p_mark_Stack : TypeId := 102
abbrev TY.s_mark_Mark : TypeId := 103
abbrev TY.mark_Stack : TypeId := 105
abbrev TY.p_draft_Draft_int : TypeId := 107
abbrev TY.p_sheet_Sheet : TypeId := 108
abbrev TY.p_cursor_Cursor : TypeId := 109
abbrev TY.api_Regs : TypeId := 110
abbrev TY.mark_State : TypeId := 112
abbrev TY.mark_Mark : TypeId := 115
abbrev TY.uint : TypeId := 119
abbrev TY.countermandlaw01_Item : TypeId := 121
abbrev TY.s_cell_slot_int : TypeId := 125
abbrev TY.cell_Row_int : TypeId := 127
abbrev TY.cell_slot_int : TypeId := 129
abbrev TY.s_cell_slot_string : TypeId := 130
abbrev TY.cell_Row_string : TypeId := 132
abbrev TY.cell_slot_string : TypeId := 134
abbrev TY.acts_Out : TypeId := 138
abbrev TY.feed_Feed : TypeId := 143
abbrev TY.stylus_Reader : TypeId := 145
abbrev TY.s_draft_entry_int : TypeId := 149
abbrev TY.draft_Draft_int : TypeId := 151
abbrev TY.cursor_Cursor : TypeId := 154
abbrev TY.iter_Seq2_int_acts_Open : TypeId := 157
abbrev TY.p_draft_Draft_file_File : TypeId := 161
abbrev TY.s_draft_entry_file_File : TypeId := 162
abbrev TY.draft_Draft_file_File : TypeId := 164
abbrev TY.sheet_Sheet : TypeId := 166
abbrev TY.draft_entry_int : TypeId := 170
abbrev TY.file_File : TypeId := 173
abbrev TY.draft_entry_file_File : TypeId := 176
abbrev TY.runtime_TypeAssertionError : TypeId := 178
abbrev TY.a_0_p_runtime_PanicNilError : TypeId := 179
abbrev TY.runtime_PanicNilError : TypeId := 181
abbrev TY.uint32 : TypeId := 182
abbrev TY.abi_TFlag : TypeId := 183
abbrev TY.abi_Kind : TypeId := 184
abbrev TY.p_uint8 : TypeId := 186
abbrev TY.abi_NameOff : TypeId := 187
abbrev TY.abi_TypeOff : TypeId := 188
abbrev TY.abi_Type : TypeId := 190
theorem TF.agg_125 : aggB PG 125 = some false := by kernel_rfl
theorem TF.agg_129 : aggB PG 129 = some true := by kernel_rfl
theorem TF.agg_130 : aggB PG 130 = some false := by kernel_rfl
theorem TF.agg_134 : aggB PG 134 = some true := by kernel_rfl
theorem TF.agg_3 : aggB PG 3 = some false := by kernel_rfl
theorem TF.agg_35 : aggB PG 35 = some false := by kernel_rfl
theorem TF.agg_36 : aggB PG 36 = some false := by kernel_rfl
theorem TF.agg_38 : aggB PG 38 = some true := by kernel_rfl
theorem TF.agg_4 : aggB PG 4 = some false := by kernel_rfl
theorem TF.agg_40 : aggB PG 40 = some true := by kernel_rfl
theorem TF.agg_44 : aggB PG 44 = some false := by kernel_rfl
theorem TF.agg_54 : aggB PG 54 = some false := by kernel_rfl
theorem TF.agg_9 : aggB PG 9 = some false := by kernel_rfl
theorem TF.arr_38 : arrB PG 38 = some (64, 3, 1, false) := by kernel_rfl
theorem TF.bool_4 : boolT PG 4 = true := by kernel_rfl
theorem TF.fld_127_0 : fldB PG 127 0 = some 0 := by kernel_rfl
theorem TF.fld_129_0 : fldB PG 129 0 = some 0 := by kernel_rfl
theorem TF.fld_129_1 : fldB PG 129 1 = some 1 := by kernel_rfl
theorem TF.fld_132_0 : fldB PG 132 0 = some 0 := by kernel_rfl
theorem TF.fld_134_0 : fldB PG 134 0 = some 0 := by kernel_rfl
theorem TF.fld_134_1 : fldB PG 134 1 = some 1 := by kernel_rfl
theorem TF.fld_40_0 : fldB PG 40 0 = some 0 := by kernel_rfl
theorem TF.fld_40_1 : fldB PG 40 1 = some 1 := by kernel_rfl
theorem TF.fld_40_2 : fldB PG 40 2 = some 2 := by kernel_rfl
theorem TF.fld_56_0 : fldB PG 56 0 = some 0 := by kernel_rfl
theorem TF.fld_56_1 : fldB PG 56 1 = some 1 := by kernel_rfl
theorem TF.fld_56_2 : fldB PG 56 2 = some 2 := by kernel_rfl
theorem TF.goes_20 : Goes PG 20 := ⟨Try.f20, Try.func20, by kernel_rfl, by kernel_rfl⟩
theorem TF.goes_21 : Goes PG 21 := ⟨Try.f21, Try.func21, by kernel_rfl, by kernel_rfl⟩
theorem TF.goes_22 : Goes PG 22 := ⟨Try.f22, Try.func22, by kernel_rfl, by kernel_rfl⟩
theorem TF.goes_23 : Goes PG 23 := ⟨Try.f23, Try.func23, by kernel_rfl, by kernel_rfl⟩
theorem TF.goes_24 : Goes PG 24 := ⟨Try.f24, Try.func24, by kernel_rfl, by kernel_rfl⟩
theorem TF.goes_25 : Goes PG 25 := ⟨Try.f25, Try.func25, by kernel_rfl, by kernel_rfl⟩
theorem TF.goes_26 : Goes PG 26 := ⟨Try.f26, Try.func26, by kernel_rfl, by kernel_rfl⟩
theorem TF.goes_27 : Goes PG 27 := ⟨Try.f27, Try.func27, by kernel_rfl, by kernel_rfl⟩
theorem TF.goes_28 : Goes PG 28 := ⟨Try.f28, Try.func28, by kernel_rfl, by kernel_rfl⟩
theorem TF.goes_29 : Goes PG 29 := ⟨Try.f29, Try.func29, by kernel_rfl, by kernel_rfl⟩
theorem TF.goes_30 : Goes PG 30 := ⟨Try.f30, Try.func30, by kernel_rfl, by kernel_rfl⟩
theorem TF.goes_31 : Goes PG 31 := ⟨Try.f31, Try.func31, by kernel_rfl, by kernel_rfl⟩
theorem TF.goes_32 : Goes PG 32 := ⟨Try.f32, Try.func32, by kernel_rfl, by kernel_rfl⟩
theorem TF.goes_33 : Goes PG 33 := ⟨Try.f33, Try.func33, by kernel_rfl, by kernel_rfl⟩
theorem TF.goes_34 : Goes PG 34 := ⟨Try.f34, Try.func34, by kernel_rfl, by kernel_rfl⟩
theorem TF.goes_6 : Goes PG 6 := ⟨Try.f6, Try.func6, by kernel_rfl, by kernel_rfl⟩
theorem TF.goes_68 : Goes PG 68 := ⟨Try.f68, Try.func68, by kernel_rfl, by kernel_rfl⟩
theorem TF.goes_69 : Goes PG 69 := ⟨Try.f69, Try.func69, by kernel_rfl, by kernel_rfl⟩
theorem TF.goes_7 : Goes PG 7 := ⟨Try.f7, Try.func7, by kernel_rfl, by kernel_rfl⟩
theorem TF.goes_70 : Goes PG 70 := ⟨Try.f70, Try.func70, by kernel_rfl, by kernel_rfl⟩
theorem TF.goes_71 : Goes PG 71 := ⟨Try.f71, Try.func71, by kernel_rfl, by kernel_rfl⟩
theorem TF.goes_8 : Goes PG 8 := ⟨Try.f8, Try.func8, by kernel_rfl, by kernel_rfl⟩
theorem TF.int_21 : intB PG 21 = some .i32 := by kernel_rfl
theorem TF.int_3 : intB PG 3 = some .i64 := by kernel_rfl
theorem TF.isStr_9 : isStr PG 9 = true := by kernel_rfl
theorem TF.mixed : PG.follows .mixedOrders = true := by kernel_rfl
theorem TF.places_127 : strPlaces PG 127 = some [(0, 1)] := by kernel_rfl
theorem TF.places_129 : strPlaces PG 129 = some [(0, 1), (1, 1)] := by kernel_rfl
theorem TF.places_132 : strPlaces PG 132 = some [(0, 1)] := by kernel_rfl
theorem TF.places_134 : strPlaces PG 134 = some [(0, 1), (1, 1)] := by kernel_rfl
theorem TF.places_56 : strPlaces PG 56 = some [(0, 1), (1, 1), (2, 1)] := by kernel_rfl
theorem TF.ptr_36 : ptrB PG 36 = true := by kernel_rfl
theorem TF.ptr_44 : ptrB PG 44 = true := by kernel_rfl
theorem TF.sl_125 : slT PG 125 = true := by kernel_rfl
theorem TF.sl_130 : slT PG 130 = true := by kernel_rfl
theorem TF.sl_35 : slT PG 35 = true := by kernel_rfl
theorem TF.slc_125 : slcB PG 125 = some (129, 2, 16) := by kernel_rfl
theorem TF.slc_130 : slcB PG 130 = some (134, 2, 24) := by kernel_rfl
theorem TF.slc_35 : slcB PG 35 = some (40, 3, 24) := by kernel_rfl
theorem TF.sz_125 : szB PG 125 = some 1 := by kernel_rfl
theorem TF.sz_129 : szB PG 129 = some 2 := by kernel_rfl
theorem TF.sz_130 : szB PG 130 = some 1 := by kernel_rfl
theorem TF.sz_134 : szB PG 134 = some 2 := by kernel_rfl
theorem TF.sz_3 : szB PG 3 = some 1 := by kernel_rfl
theorem TF.sz_35 : szB PG 35 = some 1 := by kernel_rfl
theorem TF.sz_36 : szB PG 36 = some 1 := by kernel_rfl
theorem TF.sz_38 : szB PG 38 = some 64 := by kernel_rfl
theorem TF.sz_4 : szB PG 4 = some 1 := by kernel_rfl
theorem TF.sz_40 : szB PG 40 = some 3 := by kernel_rfl
theorem TF.sz_44 : szB PG 44 = some 1 := by kernel_rfl
theorem TF.sz_54 : szB PG 54 = some 1 := by kernel_rfl
theorem TF.zero_127 : zeroB PG 127 = some [(Value.slice none 0 0)] := by kernel_rfl
theorem TF.zero_129 : zeroB PG 129 = some [(Value.int .i64 (0)), (Value.int .i64 (0))] := by kernel_rfl
theorem TF.zero_132 : zeroB PG 132 = some [(Value.slice none 0 0)] := by kernel_rfl
theorem TF.zero_134 : zeroB PG 134 = some [(Value.string ByteArray.empty), (Value.int .i64 (0))] := by kernel_rfl
theorem TF.zero_3 : zeroB PG 3 = some [(Value.int .i64 (0))] := by kernel_rfl
theorem TF.zero_36 : zeroB PG 36 = some [(Value.pointer none)] := by kernel_rfl
theorem TF.zero_38 : zeroB PG 38 = some (List.replicate 64 (Value.int .i64 (0))) := by kernel_rfl
theorem TF.zero_4 : zeroB PG 4 = some [(Value.bool false)] := by kernel_rfl
theorem TF.zero_40 : zeroB PG 40 = some [(Value.int .i64 (0)), (Value.int .i64 (0)), (Value.int .i64 (0))] := by kernel_rfl
theorem TF.zero_44 : zeroB PG 44 = some [(Value.pointer none)] := by kernel_rfl
theorem TF.zero_54 : zeroB PG 54 = some [(Value.pointer none)] := by kernel_rfl
theorem TF.zero_56 : zeroB PG 56 = some [(Value.int .i64 (0)), (Value.int .i64 (0)), (Value.slice none 0 0)] := by kernel_rfl
abbrev FN.countermandlaw08_CellNewest : FuncId := 6
abbrev FN.countermandlaw08_CellApart : FuncId := 7
abbrev FN.countermandlaw08_CellSets : FuncId := 8
abbrev FN.countermandlaw08_alive : FuncId := 20
abbrev FN.cell_New_int : FuncId := 21
abbrev FN.cell_Row_int_Set : FuncId := 22
abbrev FN.cell_Row_int_Newest : FuncId := 23
abbrev FN.cell_New_string : FuncId := 24
abbrev FN.cell_Row_string_Set : FuncId := 25
abbrev FN.cell_Row_string_All : FuncId := 26
abbrev FN.cell_Row_string_Get : FuncId := 27
abbrev FN.cell_Row_string_Version : FuncId := 28
abbrev FN.countermandref08_Row_Is : FuncId := 29
abbrev FN.cell_Row_int_Get : FuncId := 30
abbrev FN.countermandref08_Row_Get : FuncId := 31
abbrev FN.cell_Row_int_Version : FuncId := 32
abbrev FN.cell_Row_int_Len : FuncId := 33
abbrev FN.cell_Row_int_All : FuncId := 34
abbrev FN.cell_Row_int_is : FuncId := 68
abbrev FN.cell_Row_string_is : FuncId := 69
abbrev FN.cell_Row_string_All_1 : FuncId := 70
abbrev FN.cell_Row_int_All_1 : FuncId := 71
theorem TG.countermandlaw08_CellNewest : Goes PG FN.countermandlaw08_CellNewest := TF.goes_6
theorem TG.countermandlaw08_CellApart : Goes PG FN.countermandlaw08_CellApart := TF.goes_7
theorem TG.countermandlaw08_CellSets : Goes PG FN.countermandlaw08_CellSets := TF.goes_8
theorem TG.countermandlaw08_alive : Goes PG FN.countermandlaw08_alive := TF.goes_20
theorem TG.cell_New_int : Goes PG FN.cell_New_int := TF.goes_21
theorem TG.cell_Row_int_Set : Goes PG FN.cell_Row_int_Set := TF.goes_22
theorem TG.cell_Row_int_Newest : Goes PG FN.cell_Row_int_Newest := TF.goes_23
theorem TG.cell_New_string : Goes PG FN.cell_New_string := TF.goes_24
theorem TG.cell_Row_string_Set : Goes PG FN.cell_Row_string_Set := TF.goes_25
theorem TG.cell_Row_string_All : Goes PG FN.cell_Row_string_All := TF.goes_26
theorem TG.cell_Row_string_Get : Goes PG FN.cell_Row_string_Get := TF.goes_27
theorem TG.cell_Row_string_Version : Goes PG FN.cell_Row_string_Version := TF.goes_28
theorem TG.countermandref08_Row_Is : Goes PG FN.countermandref08_Row_Is := TF.goes_29
theorem TG.cell_Row_int_Get : Goes PG FN.cell_Row_int_Get := TF.goes_30
theorem TG.countermandref08_Row_Get : Goes PG FN.countermandref08_Row_Get := TF.goes_31
theorem TG.cell_Row_int_Version : Goes PG FN.cell_Row_int_Version := TF.goes_32
theorem TG.cell_Row_int_Len : Goes PG FN.cell_Row_int_Len := TF.goes_33
theorem TG.cell_Row_int_All : Goes PG FN.cell_Row_int_All := TF.goes_34
theorem TG.cell_Row_int_is : Goes PG FN.cell_Row_int_is := TF.goes_68
theorem TG.cell_Row_string_is : Goes PG FN.cell_Row_string_is := TF.goes_69
theorem TG.cell_Row_string_All_1 : Goes PG FN.cell_Row_string_All_1 := TF.goes_70
theorem TG.cell_Row_int_All_1 : Goes PG FN.cell_Row_int_All_1 := TF.goes_71
def C_countermandlaw08_CellNewest (B : RO) (i1 : Int) (a2 : Option Addr) (n3 : Nat) (c4 : Nat) (h : Heap) (Q : Bool → Heap → Prop) : Prop :=
  Spec PG B 6 #[(Value.int .i64 (i1)), (Value.slice a2 n3 c4)] h (fun v h' => ∃ b5 : Bool, v = (Value.bool b5) ∧ Q b5 h')
def C_countermandlaw08_CellApart (B : RO) (i1 : Int) (a2 : Option Addr) (n3 : Nat) (c4 : Nat) (i5 : Int) (i6 : Int) (i7 : Int) (i8 : Int) (h : Heap) (Q : Bool → Heap → Prop) : Prop :=
  Spec PG B 7 #[(Value.int .i64 (i1)), (Value.slice a2 n3 c4), (Value.agg #[(Value.int .i64 (i5)), (Value.int .i64 (i6)), (Value.int .i64 (i7))]), (Value.int .i64 (i8))] h (fun v h' => ∃ b9 : Bool, v = (Value.bool b9) ∧ Q b9 h')
def C_countermandlaw08_CellSets (B : RO) (i1 : Int) (i2 : Int) (a3 : Option Addr) (n4 : Nat) (c5 : Nat) (i6 : Int) (h : Heap) (Q : Bool → Heap → Prop) : Prop :=
  Spec PG B 8 #[(Value.int .i64 (i1)), (Value.int .i64 (i2)), (Value.slice a3 n4 c5), (Value.int .i64 (i6))] h (fun v h' => ∃ b7 : Bool, v = (Value.bool b7) ∧ Q b7 h')
def C_countermandlaw08_alive (B : RO) (h : Heap) (Q : Bool → Heap → Prop) : Prop :=
  Spec PG B 20 #[] h (fun v h' => ∃ b1 : Bool, v = (Value.bool b1) ∧ Q b1 h')
def C_cell_New_int (B : RO) (i1 : Int) (i2 : Int) (h : Heap) (Q : Option Addr → Heap → Prop) : Prop :=
  Spec PG B 21 #[(Value.int .i64 (i1)), (Value.int .i64 (i2))] h (fun v h' => ∃ p3 : Option Addr, v = (Value.pointer p3) ∧ Q p3 h')
def C_cell_Row_int_Set (B : RO) (p1 : Option Addr) (i2 : Int) (i3 : Int) (i4 : Int) (h : Heap) (Q : Bool → Heap → Prop) : Prop :=
  Spec PG B 22 #[(Value.pointer p1), (Value.int .i64 (i2)), (Value.int .i64 (i3)), (Value.int .i64 (i4))] h (fun v h' => ∃ b5 : Bool, v = (Value.bool b5) ∧ Q b5 h')
def C_cell_Row_int_Newest (B : RO) (p1 : Option Addr) (h : Heap) (Q : Int → Heap → Prop) : Prop :=
  Spec PG B 23 #[(Value.pointer p1)] h (fun v h' => ∃ i2 : Int, v = (Value.int .i64 (i2)) ∧ Q i2 h')
def C_cell_New_string (B : RO) (i1 : Int) (s2 : ByteArray) (h : Heap) (Q : Option Addr → Heap → Prop) : Prop :=
  Spec PG B 24 #[(Value.int .i64 (i1)), (Value.string s2)] h (fun v h' => ∃ p3 : Option Addr, v = (Value.pointer p3) ∧ Q p3 h')
def C_cell_Row_string_Set (B : RO) (p1 : Option Addr) (i2 : Int) (s3 : ByteArray) (i4 : Int) (h : Heap) (Q : Bool → Heap → Prop) : Prop :=
  Spec PG B 25 #[(Value.pointer p1), (Value.int .i64 (i2)), (Value.string s3), (Value.int .i64 (i4))] h (fun v h' => ∃ b5 : Bool, v = (Value.bool b5) ∧ Q b5 h')
def C_cell_Row_string_All (B : RO) (p1 : Option Addr) (h : Heap) (Q : Value → Heap → Prop) : Prop :=
  Spec PG B 26 #[(Value.pointer p1)] h (fun v h' => ∃ v2 : Value, v = v2 ∧ Q v2 h')
def C_cell_Row_string_Get (B : RO) (p1 : Option Addr) (i2 : Int) (h : Heap) (Q : ByteArray → Int → Heap → Prop) : Prop :=
  Spec PG B 27 #[(Value.pointer p1), (Value.int .i64 (i2))] h (fun v h' => ∃ s3 : ByteArray, ∃ i4 : Int, v = Value.tuple #[(Value.string s3), (Value.int .i64 (i4))] ∧ Q s3 i4 h')
def C_cell_Row_string_Version (B : RO) (p1 : Option Addr) (i2 : Int) (h : Heap) (Q : Int → Heap → Prop) : Prop :=
  Spec PG B 28 #[(Value.pointer p1), (Value.int .i64 (i2))] h (fun v h' => ∃ i3 : Int, v = (Value.int .i64 (i3)) ∧ Q i3 h')
def C_countermandref08_Row_Is (B : RO) (p1 : Option Addr) (i2 : Int) (h : Heap) (Q : Bool → Heap → Prop) : Prop :=
  Spec PG B 29 #[(Value.pointer p1), (Value.int .i64 (i2))] h (fun v h' => ∃ b3 : Bool, v = (Value.bool b3) ∧ Q b3 h')
def C_cell_Row_int_Get (B : RO) (p1 : Option Addr) (i2 : Int) (h : Heap) (Q : Int → Int → Heap → Prop) : Prop :=
  Spec PG B 30 #[(Value.pointer p1), (Value.int .i64 (i2))] h (fun v h' => ∃ i3 : Int, ∃ i4 : Int, v = Value.tuple #[(Value.int .i64 (i3)), (Value.int .i64 (i4))] ∧ Q i3 i4 h')
def C_countermandref08_Row_Get (B : RO) (p1 : Option Addr) (i2 : Int) (h : Heap) (Q : Int → Int → Heap → Prop) : Prop :=
  Spec PG B 31 #[(Value.pointer p1), (Value.int .i64 (i2))] h (fun v h' => ∃ i3 : Int, ∃ i4 : Int, v = Value.tuple #[(Value.int .i64 (i3)), (Value.int .i64 (i4))] ∧ Q i3 i4 h')
def C_cell_Row_int_Version (B : RO) (p1 : Option Addr) (i2 : Int) (h : Heap) (Q : Int → Heap → Prop) : Prop :=
  Spec PG B 32 #[(Value.pointer p1), (Value.int .i64 (i2))] h (fun v h' => ∃ i3 : Int, v = (Value.int .i64 (i3)) ∧ Q i3 h')
def C_cell_Row_int_Len (B : RO) (p1 : Option Addr) (h : Heap) (Q : Int → Heap → Prop) : Prop :=
  Spec PG B 33 #[(Value.pointer p1)] h (fun v h' => ∃ i2 : Int, v = (Value.int .i64 (i2)) ∧ Q i2 h')
def C_cell_Row_int_All (B : RO) (p1 : Option Addr) (h : Heap) (Q : Value → Heap → Prop) : Prop :=
  Spec PG B 34 #[(Value.pointer p1)] h (fun v h' => ∃ v2 : Value, v = v2 ∧ Q v2 h')
def C_cell_Row_int_is (B : RO) (p1 : Option Addr) (i2 : Int) (h : Heap) (Q : Bool → Heap → Prop) : Prop :=
  Spec PG B 68 #[(Value.pointer p1), (Value.int .i64 (i2))] h (fun v h' => ∃ b3 : Bool, v = (Value.bool b3) ∧ Q b3 h')
def C_cell_Row_string_is (B : RO) (p1 : Option Addr) (i2 : Int) (h : Heap) (Q : Bool → Heap → Prop) : Prop :=
  Spec PG B 69 #[(Value.pointer p1), (Value.int .i64 (i2))] h (fun v h' => ∃ b3 : Bool, v = (Value.bool b3) ∧ Q b3 h')
def C_cell_Row_string_All_1 (B : RO) (v1 : Value) (A2 : Addr) (h : Heap) (Q : Heap → Prop) : Prop :=
  Spec PG B 70 #[v1, (Value.pointer (some A2))] h (fun v h' => v = Value.tuple #[] ∧ Q  h')
def C_cell_Row_int_All_1 (B : RO) (v1 : Value) (A2 : Addr) (h : Heap) (Q : Heap → Prop) : Prop :=
  Spec PG B 71 #[v1, (Value.pointer (some A2))] h (fun v h' => v = Value.tuple #[] ∧ Q  h')
end Go.Proofs.Ythlnibaechobmaa.H
