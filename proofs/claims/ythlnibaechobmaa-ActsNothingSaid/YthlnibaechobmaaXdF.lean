/- Calls and facts. No condition. -/
import Derived.Test.YthlnibaechobmaaHq
import Derived.Test.YthlnibaechobmaaProg
import Derived.KernelRfl
namespace Go.Proofs.Ythlnibaechobmaa.H
open Go
set_option linter.unusedVariables false
set_option maxRecDepth 100000

noncomputable abbrev PG : Program := Go.Proofs.Try.prog
abbrev TY.int64 : TypeId := 2
abbrev TY.int : TypeId := 3
abbrev TY.bool : TypeId := 4
abbrev TY.uint8 : TypeId := 5
abbrev TY.abi_BoundsErrorCode : TypeId := 6
abbrev TY.runtime_boundsError : TypeId := 8
abbrev TY.string : TypeId := 9
abbrev TY.runtime_errorString : TypeId := 10
abbrev TY.runtime_plainError : TypeId := 11
abbrev TY.uintptr : TypeId := 12
abbrev TY.runtime_errorAddressString : TypeId := 14
abbrev TY.p_runtime_TypeAssertionError : TypeId := 15
abbrev TY.p_runtime_PanicNilError : TypeId := 16
abbrev TY.p_abi_Type : TypeId := 17
abbrev TY.maps_unhashableTypeError : TypeId := 19
abbrev TY.int32 : TypeId := 21
abbrev TY.p_stylus_Stylus : TypeId := 23
abbrev TY.s_uint8 : TypeId := 24
abbrev TY.stylus_Stylus : TypeId := 26
abbrev TY.s_countermandlaw01_Item : TypeId := 30
abbrev TY.s_countermandref08_Set : TypeId := 35
abbrev TY.p_cell_Row_int : TypeId := 36
abbrev TY.a_64_int : TypeId := 38
abbrev TY.countermandref08_Set : TypeId := 40
abbrev TY.p_cell_Row_string : TypeId := 44
abbrev TY.iter_Seq2_int_string : TypeId := 48
abbrev TY.p_countermandref08_Row : TypeId := 54
abbrev TY.countermandref08_Row : TypeId := 56
abbrev TY.iter_Seq2_int_int : TypeId := 61
abbrev TY.s_acts_Open : TypeId := 64
abbrev TY.s_int : TypeId := 65
abbrev TY.p_acts_Acts : TypeId := 66
abbrev TY.s_acts_Out : TypeId := 67
abbrev TY.acts_Acts : TypeId := 69
abbrev TY.a_4_int : TypeId := 70
abbrev TY.acts_Open : TypeId := 72
abbrev TY.acts_Mark : TypeId := 73
abbrev TY.s_countermandlaw11_Call : TypeId := 78
abbrev TY.p_feed_Feed : TypeId := 79
abbrev TY.p_countermandref11_Feed : TypeId := 81
abbrev TY.a_3_string : TypeId := 82
abbrev TY.a_3_int : TypeId := 83
abbrev TY.countermandref11_Feed : TypeId := 85
abbrev TY.countermandlaw11_Call : TypeId := 87
abbrev TY.api_Errno : TypeId := 88
abbrev TY.s_string : TypeId := 94
abbrev TY.p_stylus_Reader : TypeId := 96
abbrev TY.uint64 : TypeId := 98
abbrev TY.p_mark_Stack : TypeId := 102
abbrev TY.s_mark_Mark : TypeId := 103
abbrev TY.mark_Stack : TypeId := 105
abbrev TY.p_draft_Draft_int : TypeId := 107
abbrev TY.p_sheet_Sheet : TypeId := 108
abbrev TY.p_cursor_Cursor : TypeId := 109
abbrev TY.api_Regs : TypeId := 110
abbrev TY.mark_State : TypeId := 112
abbrev TY.mark_Mark : TypeId := 115
abbrev TY.uint : TypeId := 119
abbrev TY.countermandlaw01_Item : TypeId := 121
abbrev TY.s_cell_slot_int : TypeId := 125
abbrev TY.cell_Row_int : TypeId := 127
abbrev TY.cell_slot_int : TypeId := 129
abbrev TY.s_cell_slot_string : TypeId := 130
abbrev TY.cell_Row_string : TypeId := 132
abbrev TY.cell_slot_string : TypeId := 134
abbrev TY.acts_Out : TypeId := 138
abbrev TY.feed_Feed : TypeId := 143
abbrev TY.stylus_Reader : TypeId := 145
abbrev TY.s_draft_entry_int : TypeId := 149
abbrev TY.draft_Draft_int : TypeId := 151
abbrev TY.cursor_Cursor : TypeId := 154
abbrev TY.iter_Seq2_int_acts_Open : TypeId := 157
abbrev TY.p_draft_Draft_file_File : TypeId := 161
abbrev TY.s_draft_entry_file_File : TypeId := 162
abbrev TY.draft_Draft_file_File : TypeId := 164
abbrev TY.sheet_Sheet : TypeId := 166
abbrev TY.draft_entry_int : TypeId := 170
abbrev TY.file_File : TypeId := 173
abbrev TY.draft_entry_file_File : TypeId := 176
abbrev TY.runtime_TypeAssertionError : TypeId := 178
abbrev TY.a_0_p_runtime_PanicNilError : TypeId := 179
abbrev TY.runtime_PanicNilError : TypeId := 181
abbrev TY.uint32 : TypeId := 182
abbrev TY.abi_TFlag : TypeId := 183
abbrev TY.abi_Kind : TypeId := 184
abbrev TY.p_uint8 : TypeId := 186
abbrev TY.abi_NameOff : TypeId := 187
abbrev TY.abi_TypeOff : TypeId := 188
abbrev TY.abi_Type : TypeId := 190
theorem TF.agg_3 : aggB PG 3 = some false := by kernel_rfl
theorem TF.agg_64 : aggB PG 64 = some false := by kernel_rfl
theorem TF.agg_65 : aggB PG 65 = some false := by kernel_rfl
theorem TF.agg_67 : aggB PG 67 = some false := by kernel_rfl
theorem TF.agg_70 : aggB PG 70 = some true := by kernel_rfl
theorem TF.agg_72 : aggB PG 72 = some true := by kernel_rfl
theorem TF.agg_73 : aggB PG 73 = some true := by kernel_rfl
theorem TF.arr_70 : arrB PG 70 = some (4, 3, 1, false) := by kernel_rfl
theorem TF.arr_73 : arrB PG 73 = some (4, 3, 1, false) := by kernel_rfl
theorem TF.eqg_70 : eqGB PG 70 = false := by kernel_rfl
theorem TF.eqg_72 : eqGB PG 72 = false := by kernel_rfl
theorem TF.flat_70 : flat6B PG 70 = some [.int .i64, .int .i64, .int .i64, .int .i64] := by kernel_rfl
theorem TF.flat_72 : flat6B PG 72 = some [.int .i64, .int .i64] := by kernel_rfl
theorem TF.fld_69_0 : fldB PG 69 0 = some 0 := by kernel_rfl
theorem TF.fld_69_1 : fldB PG 69 1 = some 1 := by kernel_rfl
theorem TF.fld_69_2 : fldB PG 69 2 = some 2 := by kernel_rfl
theorem TF.fld_69_3 : fldB PG 69 3 = some 3 := by kernel_rfl
theorem TF.fld_72_0 : fldB PG 72 0 = some 0 := by kernel_rfl
theorem TF.fld_72_1 : fldB PG 72 1 = some 1 := by kernel_rfl
theorem TF.goes_35 : Goes PG 35 := ⟨Try.f35, Try.func35, by kernel_rfl, by kernel_rfl⟩
theorem TF.goes_36 : Goes PG 36 := ⟨Try.f36, Try.func36, by kernel_rfl, by kernel_rfl⟩
theorem TF.goes_37 : Goes PG 37 := ⟨Try.f37, Try.func37, by kernel_rfl, by kernel_rfl⟩
theorem TF.goes_38 : Goes PG 38 := ⟨Try.f38, Try.func38, by kernel_rfl, by kernel_rfl⟩
theorem TF.goes_39 : Goes PG 39 := ⟨Try.f39, Try.func39, by kernel_rfl, by kernel_rfl⟩
theorem TF.goes_72 : Goes PG 72 := ⟨Try.f72, Try.func72, by kernel_rfl, by kernel_rfl⟩
theorem TF.goes_73 : Goes PG 73 := ⟨Try.f73, Try.func73, by kernel_rfl, by kernel_rfl⟩
theorem TF.goes_74 : Goes PG 74 := ⟨Try.f74, Try.func74, by kernel_rfl, by kernel_rfl⟩
theorem TF.goes_75 : Goes PG 75 := ⟨Try.f75, Try.func75, by kernel_rfl, by kernel_rfl⟩
theorem TF.goes_83 : Goes PG 83 := ⟨Try.f83, Try.func83, by kernel_rfl, by kernel_rfl⟩
theorem TF.goes_88 : Goes PG 88 := ⟨Try.f88, Try.func88, by kernel_rfl, by kernel_rfl⟩
theorem TF.goes_9 : Goes PG 9 := ⟨Try.f9, Try.func9, by kernel_rfl, by kernel_rfl⟩
theorem TF.mixed : PG.follows .mixedOrders = true := by kernel_rfl
theorem TF.places_69 : strPlaces PG 69 = some [(0, 1), (1, 1), (2, 1), (3, 1)] := by kernel_rfl
theorem TF.places_72 : strPlaces PG 72 = some [(0, 1), (1, 1)] := by kernel_rfl
theorem TF.ptr_66 : ptrB PG 66 = true := by kernel_rfl
theorem TF.sl_64 : slT PG 64 = true := by kernel_rfl
theorem TF.sl_65 : slT PG 65 = true := by kernel_rfl
theorem TF.sl_67 : slT PG 67 = true := by kernel_rfl
theorem TF.slc_64 : slcB PG 64 = some (72, 2, 16) := by kernel_rfl
theorem TF.slc_65 : slcB PG 65 = some (3, 1, 8) := by kernel_rfl
theorem TF.slc_67 : slcB PG 67 = some (138, 2, 16) := by kernel_rfl
theorem TF.sz_3 : szB PG 3 = some 1 := by kernel_rfl
theorem TF.sz_64 : szB PG 64 = some 1 := by kernel_rfl
theorem TF.sz_65 : szB PG 65 = some 1 := by kernel_rfl
theorem TF.sz_67 : szB PG 67 = some 1 := by kernel_rfl
theorem TF.sz_70 : szB PG 70 = some 4 := by kernel_rfl
theorem TF.sz_72 : szB PG 72 = some 2 := by kernel_rfl
theorem TF.sz_73 : szB PG 73 = some 4 := by kernel_rfl
theorem TF.zero_64 : zeroB PG 64 = some [(Value.slice none 0 0)] := by kernel_rfl
theorem TF.zero_69 : zeroB PG 69 = some [(Value.slice none 0 0), (Value.slice none 0 0), (Value.slice none 0 0), (Value.slice none 0 0)] := by kernel_rfl
theorem TF.zero_70 : zeroB PG 70 = some [(Value.int .i64 (0)), (Value.int .i64 (0)), (Value.int .i64 (0)), (Value.int .i64 (0))] := by kernel_rfl
theorem TF.zero_72 : zeroB PG 72 = some [(Value.int .i64 (0)), (Value.int .i64 (0))] := by kernel_rfl
theorem TF.zero_73 : zeroB PG 73 = some [(Value.int .i64 (0)), (Value.int .i64 (0)), (Value.int .i64 (0)), (Value.int .i64 (0))] := by kernel_rfl
abbrev FN.countermandlaw16_ActsNothing : FuncId := 9
abbrev FN.countermandlaw16_alive : FuncId := 35
abbrev FN.acts_Acts_Opened : FuncId := 36
abbrev FN.acts_Acts_Mark : FuncId := 37
abbrev FN.acts_Acts_Back : FuncId := 38
abbrev FN.acts_Acts_Undo : FuncId := 39
abbrev FN.acts_first_acts_Out : FuncId := 72
abbrev FN.acts_first_int : FuncId := 73
abbrev FN.acts_first_acts_Open : FuncId := 74
abbrev FN.acts_undo : FuncId := 75
abbrev FN.slices_Backward_s_acts_Open_acts_Open : FuncId := 83
abbrev FN.slices_Backward_s_acts_Open_acts_Open_1 : FuncId := 88
theorem TG.countermandlaw16_ActsNothing : Goes PG FN.countermandlaw16_ActsNothing := TF.goes_9
theorem TG.countermandlaw16_alive : Goes PG FN.countermandlaw16_alive := TF.goes_35
theorem TG.acts_Acts_Opened : Goes PG FN.acts_Acts_Opened := TF.goes_36
theorem TG.acts_Acts_Mark : Goes PG FN.acts_Acts_Mark := TF.goes_37
theorem TG.acts_Acts_Back : Goes PG FN.acts_Acts_Back := TF.goes_38
theorem TG.acts_Acts_Undo : Goes PG FN.acts_Acts_Undo := TF.goes_39
theorem TG.acts_first_acts_Out : Goes PG FN.acts_first_acts_Out := TF.goes_72
theorem TG.acts_first_int : Goes PG FN.acts_first_int := TF.goes_73
theorem TG.acts_first_acts_Open : Goes PG FN.acts_first_acts_Open := TF.goes_74
theorem TG.acts_undo : Goes PG FN.acts_undo := TF.goes_75
theorem TG.slices_Backward_s_acts_Open_acts_Open : Goes PG FN.slices_Backward_s_acts_Open_acts_Open := TF.goes_83
theorem TG.slices_Backward_s_acts_Open_acts_Open_1 : Goes PG FN.slices_Backward_s_acts_Open_acts_Open_1 := TF.goes_88
def C_countermandlaw16_ActsNothing (B : RO) (a1 : Option Addr) (n2 : Nat) (c3 : Nat) (a4 : Option Addr) (n5 : Nat) (c6 : Nat) (h : Heap) (Q : Bool → Heap → Prop) : Prop :=
  Spec PG B 9 #[(Value.slice a1 n2 c3), (Value.slice a4 n5 c6)] h (fun v h' => ∃ b7 : Bool, v = (Value.bool b7) ∧ Q b7 h')
def C_countermandlaw16_alive (B : RO) (h : Heap) (Q : Bool → Heap → Prop) : Prop :=
  Spec PG B 35 #[] h (fun v h' => ∃ b1 : Bool, v = (Value.bool b1) ∧ Q b1 h')
def C_acts_Acts_Opened (B : RO) (p1 : Option Addr) (i2 : Int) (i3 : Int) (h : Heap) (Q : Bool → Heap → Prop) : Prop :=
  Spec PG B 36 #[(Value.pointer p1), (Value.int .i64 (i2)), (Value.int .i64 (i3))] h (fun v h' => ∃ b4 : Bool, v = (Value.bool b4) ∧ Q b4 h')
def C_acts_Acts_Mark (B : RO) (p1 : Option Addr) (h : Heap) (Q : Int → Int → Int → Int → Heap → Prop) : Prop :=
  Spec PG B 37 #[(Value.pointer p1)] h (fun v h' => ∃ i2 : Int, ∃ i3 : Int, ∃ i4 : Int, ∃ i5 : Int, v = (Value.agg #[(Value.int .i64 (i2)), (Value.int .i64 (i3)), (Value.int .i64 (i4)), (Value.int .i64 (i5))]) ∧ Q i2 i3 i4 i5 h')
def C_acts_Acts_Back (B : RO) (p1 : Option Addr) (i2 : Int) (i3 : Int) (i4 : Int) (i5 : Int) (h : Heap) (Q : Option Addr → Nat → Nat → Heap → Prop) : Prop :=
  Spec PG B 38 #[(Value.pointer p1), (Value.agg #[(Value.int .i64 (i2)), (Value.int .i64 (i3)), (Value.int .i64 (i4)), (Value.int .i64 (i5))])] h (fun v h' => ∃ a6 : Option Addr, ∃ n7 : Nat, ∃ c8 : Nat, v = (Value.slice a6 n7 c8) ∧ Q a6 n7 c8 h')
def C_acts_Acts_Undo (B : RO) (p1 : Option Addr) (h : Heap) (Q : Option Addr → Nat → Nat → Heap → Prop) : Prop :=
  Spec PG B 39 #[(Value.pointer p1)] h (fun v h' => ∃ a2 : Option Addr, ∃ n3 : Nat, ∃ c4 : Nat, v = (Value.slice a2 n3 c4) ∧ Q a2 n3 c4 h')
def C_acts_first_acts_Out (B : RO) (a1 : Option Addr) (n2 : Nat) (c3 : Nat) (i4 : Int) (h : Heap) (Q : Option Addr → Nat → Nat → Heap → Prop) : Prop :=
  Spec PG B 72 #[(Value.slice a1 n2 c3), (Value.int .i64 (i4))] h (fun v h' => ∃ a5 : Option Addr, ∃ n6 : Nat, ∃ c7 : Nat, v = (Value.slice a5 n6 c7) ∧ Q a5 n6 c7 h')
def C_acts_first_int (B : RO) (a1 : Option Addr) (n2 : Nat) (c3 : Nat) (i4 : Int) (h : Heap) (Q : Option Addr → Nat → Nat → Heap → Prop) : Prop :=
  Spec PG B 73 #[(Value.slice a1 n2 c3), (Value.int .i64 (i4))] h (fun v h' => ∃ a5 : Option Addr, ∃ n6 : Nat, ∃ c7 : Nat, v = (Value.slice a5 n6 c7) ∧ Q a5 n6 c7 h')
def C_acts_first_acts_Open (B : RO) (a1 : Option Addr) (n2 : Nat) (c3 : Nat) (i4 : Int) (h : Heap) (Q : Option Addr → Nat → Nat → Heap → Prop) : Prop :=
  Spec PG B 74 #[(Value.slice a1 n2 c3), (Value.int .i64 (i4))] h (fun v h' => ∃ a5 : Option Addr, ∃ n6 : Nat, ∃ c7 : Nat, v = (Value.slice a5 n6 c7) ∧ Q a5 n6 c7 h')
def C_acts_undo (B : RO) (a1 : Option Addr) (n2 : Nat) (c3 : Nat) (h : Heap) (Q : Option Addr → Nat → Nat → Heap → Prop) : Prop :=
  Spec PG B 75 #[(Value.slice a1 n2 c3)] h (fun v h' => ∃ a4 : Option Addr, ∃ n5 : Nat, ∃ c6 : Nat, v = (Value.slice a4 n5 c6) ∧ Q a4 n5 c6 h')
def C_slices_Backward_s_acts_Open_acts_Open (B : RO) (a1 : Option Addr) (n2 : Nat) (c3 : Nat) (h : Heap) (Q : Value → Heap → Prop) : Prop :=
  Spec PG B 83 #[(Value.slice a1 n2 c3)] h (fun v h' => ∃ v4 : Value, v = v4 ∧ Q v4 h')
def C_slices_Backward_s_acts_Open_acts_Open_1 (B : RO) (v1 : Value) (A2 : Addr) (h : Heap) (Q : Heap → Prop) : Prop :=
  Spec PG B 88 #[v1, (Value.pointer (some A2))] h (fun v h' => v = Value.tuple #[] ∧ Q  h')
end Go.Proofs.Ythlnibaechobmaa.H
