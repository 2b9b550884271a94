/- Calls and facts. No condition. -/
import Derived.Test.YthlnibaechobmaaHi
import Derived.Test.YthlnibaechobmaaProg
import Derived.KernelRfl
namespace Go.Proofs.Ythlnibaechobmaa.H
open Go
set_option linter.unusedVariables false
set_option maxRecDepth 100000

noncomputable abbrev PG : Program := Go.Proofs.Try.prog
abbrev TY.int64 : TypeId := 2
abbrev TY.int : TypeId := 3
abbrev TY.bool : TypeId := 4
abbrev TY.uint8 : TypeId := 5
abbrev TY.abi_BoundsErrorCode : TypeId := 6
abbrev TY.runtime_boundsError : TypeId := 8
abbrev TY.string : TypeId := 9
abbrev TY.runtime_errorString : TypeId := 10
abbrev TY.runtime_plainError : TypeId := 11
abbrev TY.uintptr : TypeId := 12
abbrev TY.runtime_errorAddressString : TypeId := 14
abbrev TY.p_runtime_TypeAssertionError : TypeId := 15
abbrev TY.p_runtime_PanicNilError : TypeId := 16
abbrev TY.p_abi_Type : TypeId := 17
abbrev TY.maps_unhashableTypeError : TypeId := 19
abbrev TY.int32 : TypeId := 21
abbrev TY.p_stylus_Stylus : TypeId := 23
abbrev TY.s_uint8 : TypeId := 24
abbrev TY.stylus_Stylus : TypeId := 26
abbrev TY.s_countermandlaw01_Item : TypeId := 30
abbrev TY.s_countermandref08_Set : TypeId := 35
abbrev TY.p_cell_Row_int : TypeId := 36
abbrev TY.a_64_int : TypeId := 38
abbrev TY.countermandref08_Set : TypeId := 40
abbrev TY.p_cell_Row_string : TypeId := 44
abbrev TY.iter_Seq2_int_string : TypeId := 48
abbrev TY.p_countermandref08_Row : TypeId := 54
abbrev TY.countermandref08_Row : TypeId := 56
abbrev TY.iter_Seq2_int_int : TypeId := 61
abbrev TY.s_acts_Open : TypeId := 64
abbrev TY.s_int : TypeId := 65
abbrev TY.p_acts_Acts : TypeId := 66
abbrev TY.s_acts_Out : TypeId := 67
abbrev TY.acts_Acts : TypeId := 69
abbrev TY.a_4_int : TypeId := 70
abbrev TY.acts_Open : TypeId := 72
abbrev TY.acts_Mark : TypeId := 73
abbrev TY.s_countermandlaw11_Call : TypeId := 78
abbrev TY.p_feed_Feed : TypeId := 79
abbrev TY.p_countermandref11_Feed : TypeId := 81
abbrev TY.a_3_string : TypeId := 82
abbrev TY.a_3_int : TypeId := 83
abbrev TY.countermandref11_Feed : TypeId := 85
abbrev TY.countermandlaw11_Call : TypeId := 87
abbrev TY.api_Errno : TypeId := 88
abbrev TY.s_string : TypeId := 94
abbrev TY.p_stylus_Reader : TypeId := 96
abbrev TY.uint64 : TypeId := 98
abbrev TY.p_mark_Stack : TypeId := 102
abbrev TY.s_mark_Mark : TypeId := 103
abbrev TY.mark_Stack : TypeId := 105
abbrev TY.p_draft_Draft_int : TypeId := 107
abbrev TY.p_sheet_Sheet : TypeId := 108
abbrev TY.p_cursor_Cursor : TypeId := 109
abbrev TY.api_Regs : TypeId := 110
abbrev TY.mark_State : TypeId := 112
abbrev TY.mark_Mark : TypeId := 115
abbrev TY.uint : TypeId := 119
abbrev TY.countermandlaw01_Item : TypeId := 121
abbrev TY.s_cell_slot_int : TypeId := 125
abbrev TY.cell_Row_int : TypeId := 127
abbrev TY.cell_slot_int : TypeId := 129
abbrev TY.s_cell_slot_string : TypeId := 130
abbrev TY.cell_Row_string : TypeId := 132
abbrev TY.cell_slot_string : TypeId := 134
abbrev TY.acts_Out : TypeId := 138
abbrev TY.feed_Feed : TypeId := 143
abbrev TY.stylus_Reader : TypeId := 145
abbrev TY.s_draft_entry_int : TypeId := 149
abbrev TY.draft_Draft_int : TypeId := 151
abbrev TY.cursor_Cursor : TypeId := 154
abbrev TY.iter_Seq2_int_acts_Open : TypeId := 157
abbrev TY.p_draft_Draft_file_File : TypeId := 161
abbrev TY.s_draft_entry_file_File : TypeId := 162
abbrev TY.draft_Draft_file_File : TypeId := 164
abbrev TY.sheet_Sheet : TypeId := 166
abbrev TY.draft_entry_int : TypeId := 170
abbrev TY.file_File : TypeId := 173
abbrev TY.draft_entry_file_File : TypeId := 176
abbrev TY.runtime_TypeAssertionError : TypeId := 178
abbrev TY.a_0_p_runtime_PanicNilError : TypeId := 179
abbrev TY.runtime_PanicNilError : TypeId := 181
abbrev TY.uint32 : TypeId := 182
abbrev TY.abi_TFlag : TypeId := 183
abbrev TY.abi_Kind : TypeId := 184
abbrev TY.p_uint8 : TypeId := 186
abbrev TY.abi_NameOff : TypeId := 187
abbrev TY.abi_TypeOff : TypeId := 188
abbrev TY.abi_Type : TypeId := 190
theorem TF.agg_125 : aggB PG 125 = some false := by kernel_rfl
theorem TF.agg_3 : aggB PG 3 = some false := by kernel_rfl
theorem TF.agg_36 : aggB PG 36 = some false := by kernel_rfl
theorem TF.agg_87 : aggB PG 87 = some true := by kernel_rfl
theorem TF.agg_9 : aggB PG 9 = some false := by kernel_rfl
theorem TF.arr_82 : arrB PG 82 = some (3, 9, 1, false) := by kernel_rfl
theorem TF.arr_83 : arrB PG 83 = some (3, 3, 1, false) := by kernel_rfl
theorem TF.bool_4 : boolT PG 4 = true := by kernel_rfl
theorem TF.fld_127_0 : fldB PG 127 0 = some 0 := by kernel_rfl
theorem TF.fld_129_0 : fldB PG 129 0 = some 0 := by kernel_rfl
theorem TF.fld_129_1 : fldB PG 129 1 = some 1 := by kernel_rfl
theorem TF.fld_143_0 : fldB PG 143 0 = some 0 := by kernel_rfl
theorem TF.fld_143_1 : fldB PG 143 1 = some 3 := by kernel_rfl
theorem TF.fld_85_0 : fldB PG 85 0 = some 0 := by kernel_rfl
theorem TF.fld_85_1 : fldB PG 85 1 = some 3 := by kernel_rfl
theorem TF.fld_85_2 : fldB PG 85 2 = some 6 := by kernel_rfl
theorem TF.fld_87_0 : fldB PG 87 0 = some 0 := by kernel_rfl
theorem TF.fld_87_1 : fldB PG 87 1 = some 1 := by kernel_rfl
theorem TF.fld_87_2 : fldB PG 87 2 = some 2 := by kernel_rfl
theorem TF.fld_87_3 : fldB PG 87 3 = some 3 := by kernel_rfl
theorem TF.fld_87_4 : fldB PG 87 4 = some 4 := by kernel_rfl
theorem TF.goes_10 : Goes PG 10 := ⟨Try.f10, Try.func10, by kernel_rfl, by kernel_rfl⟩
theorem TF.goes_11 : Goes PG 11 := ⟨Try.f11, Try.func11, by kernel_rfl, by kernel_rfl⟩
theorem TF.goes_12 : Goes PG 12 := ⟨Try.f12, Try.func12, by kernel_rfl, by kernel_rfl⟩
theorem TF.goes_21 : Goes PG 21 := ⟨Try.f21, Try.func21, by kernel_rfl, by kernel_rfl⟩
theorem TF.goes_22 : Goes PG 22 := ⟨Try.f22, Try.func22, by kernel_rfl, by kernel_rfl⟩
theorem TF.goes_30 : Goes PG 30 := ⟨Try.f30, Try.func30, by kernel_rfl, by kernel_rfl⟩
theorem TF.goes_32 : Goes PG 32 := ⟨Try.f32, Try.func32, by kernel_rfl, by kernel_rfl⟩
theorem TF.goes_40 : Goes PG 40 := ⟨Try.f40, Try.func40, by kernel_rfl, by kernel_rfl⟩
theorem TF.goes_41 : Goes PG 41 := ⟨Try.f41, Try.func41, by kernel_rfl, by kernel_rfl⟩
theorem TF.goes_42 : Goes PG 42 := ⟨Try.f42, Try.func42, by kernel_rfl, by kernel_rfl⟩
theorem TF.goes_43 : Goes PG 43 := ⟨Try.f43, Try.func43, by kernel_rfl, by kernel_rfl⟩
theorem TF.goes_44 : Goes PG 44 := ⟨Try.f44, Try.func44, by kernel_rfl, by kernel_rfl⟩
theorem TF.goes_45 : Goes PG 45 := ⟨Try.f45, Try.func45, by kernel_rfl, by kernel_rfl⟩
theorem TF.goes_46 : Goes PG 46 := ⟨Try.f46, Try.func46, by kernel_rfl, by kernel_rfl⟩
theorem TF.goes_47 : Goes PG 47 := ⟨Try.f47, Try.func47, by kernel_rfl, by kernel_rfl⟩
theorem TF.goes_48 : Goes PG 48 := ⟨Try.f48, Try.func48, by kernel_rfl, by kernel_rfl⟩
theorem TF.goes_49 : Goes PG 49 := ⟨Try.f49, Try.func49, by kernel_rfl, by kernel_rfl⟩
theorem TF.goes_50 : Goes PG 50 := ⟨Try.f50, Try.func50, by kernel_rfl, by kernel_rfl⟩
theorem TF.goes_68 : Goes PG 68 := ⟨Try.f68, Try.func68, by kernel_rfl, by kernel_rfl⟩
theorem TF.goes_76 : Goes PG 76 := ⟨Try.f76, Try.func76, by kernel_rfl, by kernel_rfl⟩
theorem TF.int_3 : intB PG 3 = some .i64 := by kernel_rfl
theorem TF.int_5 : intB PG 5 = some .u8 := by kernel_rfl
theorem TF.isStr_9 : isStr PG 9 = true := by kernel_rfl
theorem TF.mixed : PG.follows .mixedOrders = true := by kernel_rfl
theorem TF.places_127 : strPlaces PG 127 = some [(0, 1)] := by kernel_rfl
theorem TF.places_129 : strPlaces PG 129 = some [(0, 1), (1, 1)] := by kernel_rfl
theorem TF.places_143 : strPlaces PG 143 = some [(0, 3), (3, 1)] := by kernel_rfl
theorem TF.places_85 : strPlaces PG 85 = some [(0, 3), (3, 3), (6, 3)] := by kernel_rfl
theorem TF.ptr_36 : ptrB PG 36 = true := by kernel_rfl
theorem TF.ptr_79 : ptrB PG 79 = true := by kernel_rfl
theorem TF.sl_125 : slT PG 125 = true := by kernel_rfl
theorem TF.sl_78 : slT PG 78 = true := by kernel_rfl
theorem TF.sl_94 : slT PG 94 = true := by kernel_rfl
theorem TF.slc_125 : slcB PG 125 = some (129, 2, 16) := by kernel_rfl
theorem TF.slc_78 : slcB PG 78 = some (87, 5, 48) := by kernel_rfl
theorem TF.slc_94 : slcB PG 94 = some (9, 1, 16) := by kernel_rfl
theorem TF.sz_125 : szB PG 125 = some 1 := by kernel_rfl
theorem TF.sz_129 : szB PG 129 = some 2 := by kernel_rfl
theorem TF.sz_3 : szB PG 3 = some 1 := by kernel_rfl
theorem TF.sz_87 : szB PG 87 = some 5 := by kernel_rfl
theorem TF.sz_9 : szB PG 9 = some 1 := by kernel_rfl
theorem TF.zero_127 : zeroB PG 127 = some [(Value.slice none 0 0)] := by kernel_rfl
theorem TF.zero_129 : zeroB PG 129 = some [(Value.int .i64 (0)), (Value.int .i64 (0))] := by kernel_rfl
theorem TF.zero_143 : zeroB PG 143 = some [(Value.string ByteArray.empty), (Value.string ByteArray.empty), (Value.string ByteArray.empty), (Value.pointer none)] := by kernel_rfl
theorem TF.zero_85 : zeroB PG 85 = some [(Value.string ByteArray.empty), (Value.string ByteArray.empty), (Value.string ByteArray.empty), (Value.int .i64 (0)), (Value.int .i64 (0)), (Value.int .i64 (0)), (Value.int .i64 (0)), (Value.int .i64 (0)), (Value.int .i64 (0))] := by kernel_rfl
theorem TF.zero_87 : zeroB PG 87 = some [(Value.int .i64 (0)), (Value.int .i64 (0)), (Value.string ByteArray.empty), (Value.int .i64 (0)), (Value.int .i64 (0))] := by kernel_rfl
abbrev FN.countermandlaw11_FeedDoes : FuncId := 10
abbrev FN.countermandlaw11_FeedStays : FuncId := 11
abbrev FN.countermandlaw11_FeedParts : FuncId := 12
abbrev FN.cell_New_int : FuncId := 21
abbrev FN.cell_Row_int_Set : FuncId := 22
abbrev FN.cell_Row_int_Get : FuncId := 30
abbrev FN.cell_Row_int_Version : FuncId := 32
abbrev FN.countermandlaw11_alive : FuncId := 40
abbrev FN.feed_New : FuncId := 41
abbrev FN.feed_Feed_Arrive : FuncId := 42
abbrev FN.countermandref11_Feed_Arrive : FuncId := 43
abbrev FN.feed_Feed_Take : FuncId := 44
abbrev FN.countermandref11_Feed_Take : FuncId := 45
abbrev FN.countermandref11_Is : FuncId := 46
abbrev FN.feed_Feed_Text : FuncId := 47
abbrev FN.feed_Feed_Left : FuncId := 48
abbrev FN.feed_Feed_At : FuncId := 49
abbrev FN.feed_Feed_Place : FuncId := 50
abbrev FN.cell_Row_int_is : FuncId := 68
abbrev FN.feed_Feed_is : FuncId := 76
theorem TG.countermandlaw11_FeedDoes : Goes PG FN.countermandlaw11_FeedDoes := TF.goes_10
theorem TG.countermandlaw11_FeedStays : Goes PG FN.countermandlaw11_FeedStays := TF.goes_11
theorem TG.countermandlaw11_FeedParts : Goes PG FN.countermandlaw11_FeedParts := TF.goes_12
theorem TG.cell_New_int : Goes PG FN.cell_New_int := TF.goes_21
theorem TG.cell_Row_int_Set : Goes PG FN.cell_Row_int_Set := TF.goes_22
theorem TG.cell_Row_int_Get : Goes PG FN.cell_Row_int_Get := TF.goes_30
theorem TG.cell_Row_int_Version : Goes PG FN.cell_Row_int_Version := TF.goes_32
theorem TG.countermandlaw11_alive : Goes PG FN.countermandlaw11_alive := TF.goes_40
theorem TG.feed_New : Goes PG FN.feed_New := TF.goes_41
theorem TG.feed_Feed_Arrive : Goes PG FN.feed_Feed_Arrive := TF.goes_42
theorem TG.countermandref11_Feed_Arrive : Goes PG FN.countermandref11_Feed_Arrive := TF.goes_43
theorem TG.feed_Feed_Take : Goes PG FN.feed_Feed_Take := TF.goes_44
theorem TG.countermandref11_Feed_Take : Goes PG FN.countermandref11_Feed_Take := TF.goes_45
theorem TG.countermandref11_Is : Goes PG FN.countermandref11_Is := TF.goes_46
theorem TG.feed_Feed_Text : Goes PG FN.feed_Feed_Text := TF.goes_47
theorem TG.feed_Feed_Left : Goes PG FN.feed_Feed_Left := TF.goes_48
theorem TG.feed_Feed_At : Goes PG FN.feed_Feed_At := TF.goes_49
theorem TG.feed_Feed_Place : Goes PG FN.feed_Feed_Place := TF.goes_50
theorem TG.cell_Row_int_is : Goes PG FN.cell_Row_int_is := TF.goes_68
theorem TG.feed_Feed_is : Goes PG FN.feed_Feed_is := TF.goes_76
def C_countermandlaw11_FeedDoes (B : RO) (a1 : Option Addr) (n2 : Nat) (c3 : Nat) (i4 : Int) (h : Heap) (Q : Bool → Heap → Prop) : Prop :=
  Spec PG B 10 #[(Value.slice a1 n2 c3), (Value.int .i64 (i4))] h (fun v h' => ∃ b5 : Bool, v = (Value.bool b5) ∧ Q b5 h')
def C_countermandlaw11_FeedStays (B : RO) (a1 : Option Addr) (n2 : Nat) (c3 : Nat) (i4 : Int) (h : Heap) (Q : Bool → Heap → Prop) : Prop :=
  Spec PG B 11 #[(Value.slice a1 n2 c3), (Value.int .i64 (i4))] h (fun v h' => ∃ b5 : Bool, v = (Value.bool b5) ∧ Q b5 h')
def C_countermandlaw11_FeedParts (B : RO) (a1 : Option Addr) (n2 : Nat) (c3 : Nat) (i4 : Int) (i5 : Int) (h : Heap) (Q : Bool → Heap → Prop) : Prop :=
  Spec PG B 12 #[(Value.slice a1 n2 c3), (Value.int .i64 (i4)), (Value.int .i64 (i5))] h (fun v h' => ∃ b6 : Bool, v = (Value.bool b6) ∧ Q b6 h')
def C_cell_New_int (B : RO) (i1 : Int) (i2 : Int) (h : Heap) (Q : Option Addr → Heap → Prop) : Prop :=
  Spec PG B 21 #[(Value.int .i64 (i1)), (Value.int .i64 (i2))] h (fun v h' => ∃ p3 : Option Addr, v = (Value.pointer p3) ∧ Q p3 h')
def C_cell_Row_int_Set (B : RO) (p1 : Option Addr) (i2 : Int) (i3 : Int) (i4 : Int) (h : Heap) (Q : Bool → Heap → Prop) : Prop :=
  Spec PG B 22 #[(Value.pointer p1), (Value.int .i64 (i2)), (Value.int .i64 (i3)), (Value.int .i64 (i4))] h (fun v h' => ∃ b5 : Bool, v = (Value.bool b5) ∧ Q b5 h')
def C_cell_Row_int_Get (B : RO) (p1 : Option Addr) (i2 : Int) (h : Heap) (Q : Int → Int → Heap → Prop) : Prop :=
  Spec PG B 30 #[(Value.pointer p1), (Value.int .i64 (i2))] h (fun v h' => ∃ i3 : Int, ∃ i4 : Int, v = Value.tuple #[(Value.int .i64 (i3)), (Value.int .i64 (i4))] ∧ Q i3 i4 h')
def C_cell_Row_int_Version (B : RO) (p1 : Option Addr) (i2 : Int) (h : Heap) (Q : Int → Heap → Prop) : Prop :=
  Spec PG B 32 #[(Value.pointer p1), (Value.int .i64 (i2))] h (fun v h' => ∃ i3 : Int, v = (Value.int .i64 (i3)) ∧ Q i3 h')
def C_countermandlaw11_alive (B : RO) (h : Heap) (Q : Bool → Heap → Prop) : Prop :=
  Spec PG B 40 #[] h (fun v h' => ∃ b1 : Bool, v = (Value.bool b1) ∧ Q b1 h')
def C_feed_New (B : RO) (h : Heap) (Q : Option Addr → Heap → Prop) : Prop :=
  Spec PG B 41 #[] h (fun v h' => ∃ p1 : Option Addr, v = (Value.pointer p1) ∧ Q p1 h')
def C_feed_Feed_Arrive (B : RO) (p1 : Option Addr) (i2 : Int) (s3 : ByteArray) (h : Heap) (Q : Int → Heap → Prop) : Prop :=
  Spec PG B 42 #[(Value.pointer p1), (Value.int .i64 (i2)), (Value.string s3)] h (fun v h' => ∃ i4 : Int, v = (Value.int .i64 (i4)) ∧ Q i4 h')
def C_countermandref11_Feed_Arrive (B : RO) (p1 : Option Addr) (i2 : Int) (s3 : ByteArray) (h : Heap) (Q : Int → Heap → Prop) : Prop :=
  Spec PG B 43 #[(Value.pointer p1), (Value.int .i64 (i2)), (Value.string s3)] h (fun v h' => ∃ i4 : Int, v = (Value.int .i64 (i4)) ∧ Q i4 h')
def C_feed_Feed_Take (B : RO) (p1 : Option Addr) (i2 : Int) (i3 : Int) (i4 : Int) (h : Heap) (Q : Bool → Heap → Prop) : Prop :=
  Spec PG B 44 #[(Value.pointer p1), (Value.int .i64 (i2)), (Value.int .i64 (i3)), (Value.int .i64 (i4))] h (fun v h' => ∃ b5 : Bool, v = (Value.bool b5) ∧ Q b5 h')
def C_countermandref11_Feed_Take (B : RO) (p1 : Option Addr) (i2 : Int) (i3 : Int) (i4 : Int) (h : Heap) (Q : Bool → Heap → Prop) : Prop :=
  Spec PG B 45 #[(Value.pointer p1), (Value.int .i64 (i2)), (Value.int .i64 (i3)), (Value.int .i64 (i4))] h (fun v h' => ∃ b5 : Bool, v = (Value.bool b5) ∧ Q b5 h')
def C_countermandref11_Is (B : RO) (i1 : Int) (h : Heap) (Q : Bool → Heap → Prop) : Prop :=
  Spec PG B 46 #[(Value.int .i64 (i1))] h (fun v h' => ∃ b2 : Bool, v = (Value.bool b2) ∧ Q b2 h')
def C_feed_Feed_Text (B : RO) (p1 : Option Addr) (i2 : Int) (h : Heap) (Q : ByteArray → Heap → Prop) : Prop :=
  Spec PG B 47 #[(Value.pointer p1), (Value.int .i64 (i2))] h (fun v h' => ∃ s3 : ByteArray, v = (Value.string s3) ∧ Q s3 h')
def C_feed_Feed_Left (B : RO) (p1 : Option Addr) (i2 : Int) (h : Heap) (Q : ByteArray → Heap → Prop) : Prop :=
  Spec PG B 48 #[(Value.pointer p1), (Value.int .i64 (i2))] h (fun v h' => ∃ s3 : ByteArray, v = (Value.string s3) ∧ Q s3 h')
def C_feed_Feed_At (B : RO) (p1 : Option Addr) (i2 : Int) (i3 : Int) (h : Heap) (Q : Int → Heap → Prop) : Prop :=
  Spec PG B 49 #[(Value.pointer p1), (Value.int .i64 (i2)), (Value.int .i64 (i3))] h (fun v h' => ∃ i4 : Int, v = (Value.int .i64 (i4)) ∧ Q i4 h')
def C_feed_Feed_Place (B : RO) (p1 : Option Addr) (i2 : Int) (h : Heap) (Q : Int → Int → Heap → Prop) : Prop :=
  Spec PG B 50 #[(Value.pointer p1), (Value.int .i64 (i2))] h (fun v h' => ∃ i3 : Int, ∃ i4 : Int, v = Value.tuple #[(Value.int .i64 (i3)), (Value.int .i64 (i4))] ∧ Q i3 i4 h')
def C_cell_Row_int_is (B : RO) (p1 : Option Addr) (i2 : Int) (h : Heap) (Q : Bool → Heap → Prop) : Prop :=
  Spec PG B 68 #[(Value.pointer p1), (Value.int .i64 (i2))] h (fun v h' => ∃ b3 : Bool, v = (Value.bool b3) ∧ Q b3 h')
def C_feed_Feed_is (B : RO) (p1 : Option Addr) (i2 : Int) (h : Heap) (Q : Bool → Heap → Prop) : Prop :=
  Spec PG B 76 #[(Value.pointer p1), (Value.int .i64 (i2))] h (fun v h' => ∃ b3 : Bool, v = (Value.bool b3) ∧ Q b3 h')
end Go.Proofs.Ythlnibaechobmaa.H
