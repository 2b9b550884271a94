/- Calls and facts. No condition. -/
import Derived.Test.YthlnibaechobmaaHi
import Derived.Test.YthlnibaechobmaaProg
import Derived.KernelRfl
namespace Go.Proofs.Ythlnibaechobmaa.H
open Go
set_option linter.unusedVariables false
set_option maxRecDepth 100000

noncomputable abbrev PG : Program := Go.Proofs.Try.prog
abbrev TY.int64 : TypeId := 2
abbrev TY.int : TypeId := 3
abbrev TY.bool : TypeId := 4
abbrev TY.uint8 : TypeId := 5
abbrev TY.abi_BoundsErrorCode : TypeId := 6
abbrev TY.runtime_boundsError : TypeId := 8
abbrev TY.string : TypeId := 9
abbrev TY.runtime_errorString : TypeId := 10
abbrev TY.runtime_plainError : TypeId := 11
abbrev TY.uintptr : TypeId := 12
abbrev TY.runtime_errorAddressString : TypeId := 14
abbrev TY.p_runtime_TypeAssertionError : TypeId := 15
abbrev TY.p_runtime_PanicNilError : TypeId := 16
abbrev TY.p_abi_Type : TypeId := 17
abbrev TY.maps_unhashableTypeError : TypeId := 19
abbrev TY.int32 : TypeId := 21
abbrev TY.p_stylus_Stylus : TypeId := 23
abbrev TY.s_uint8 : TypeId := 24
abbrev TY.stylus_Stylus : TypeId := 26
abbrev TY.s_countermandlaw01_Item : TypeId := 30
abbrev TY.s_countermandref08_Set : TypeId := 35
abbrev TY.p_cell_Row_int : TypeId := 36
abbrev TY.a_64_int : TypeId := 38
abbrev TY.countermandref08_Set : TypeId := 40
abbrev TY.p_cell_Row_string : TypeId := 44
abbrev TY.iter_Seq2_int_string : TypeId := 48
abbrev TY.p_countermandref08_Row : TypeId := 54
abbrev TY.countermandref08_Row : TypeId := 56
abbrev TY.iter_Seq2_int_int : TypeId := 61
abbrev TY.s_acts_Open : TypeId := 64
abbrev TY.s_int : TypeId := 65
abbrev TY.p_acts_Acts : TypeId := 66
abbrev TY.s_acts_Out : TypeId := 67
abbrev TY.acts_Acts : TypeId := 69
abbrev TY.a_4_int : TypeId := 70
abbrev TY.acts_Open : TypeId := 72
abbrev TY.acts_Mark : TypeId := 73
abbrev TY.s_countermandlaw11_Call : TypeId := 78
abbrev TY.p_feed_Feed : TypeId := 79
abbrev TY.p_countermandref11_Feed : TypeId := 81
abbrev TY.a_3_string : TypeId := 82
abbrev TY.a_3_int : TypeId := 83
abbrev TY.countermandref11_Feed : TypeId := 85
abbrev TY.countermandlaw11_Call : TypeId := 87
abbrev TY.api_Errno : TypeId := 88
abbrev TY.s_string : TypeId := 94
abbrev TY.p_stylus_Reader : TypeId := 96
abbrev TY.uint64 : TypeId := 98
abbrev TY.p_mark_Stack : TypeId := 102
abbrev TY.s_mark_Mark : TypeId := 103
abbrev TY.mark_Stack : TypeId := 105
abbrev TY.p_draft_Draft_int : TypeId := 107
abbrev TY.p_sheet_Sheet : TypeId := 108
abbrev TY.p_cursor_Cursor : TypeId := 109
abbrev TY.api_Regs : TypeId := 110
abbrev TY.mark_State : TypeId := 112
abbrev TY.mark_Mark : TypeId := 115
abbrev TY.uint : TypeId := 119
abbrev TY.countermandlaw01_Item : TypeId := 121
abbrev TY.s_cell_slot_int : TypeId := 125
abbrev TY.cell_Row_int : TypeId := 127
abbrev TY.cell_slot_int : TypeId := 129
abbrev TY.s_cell_slot_string : TypeId := 130
abbrev TY.cell_Row_string : TypeId := 132
abbrev TY.cell_slot_string : TypeId := 134
abbrev TY.acts_Out : TypeId := 138
abbrev TY.feed_Feed : TypeId := 143
abbrev TY.stylus_Reader : TypeId := 145
abbrev TY.s_draft_entry_int : TypeId := 149
abbrev TY.draft_Draft_int : TypeId := 151
abbrev TY.cursor_Cursor : TypeId := 154
abbrev TY.iter_Seq2_int_acts_Open : TypeId := 157
abbrev TY.p_draft_Draft_file_File : TypeId := 161
abbrev TY.s_draft_entry_file_File : TypeId := 162
abbrev TY.draft_Draft_file_File : TypeId := 164
abbrev TY.sheet_Sheet : TypeId := 166
abbrev TY.draft_entry_int : TypeId := 170
abbrev TY.file_File : TypeId := 173
abbrev TY.draft_entry_file_File : TypeId := 176
abbrev TY.runtime_TypeAssertionError : TypeId := 178
abbrev TY.a_0_p_runtime_PanicNilError : TypeId := 179
abbrev TY.runtime_PanicNilError : TypeId := 181
abbrev TY.uint32 : TypeId := 182
abbrev TY.abi_TFlag : TypeId := 183
abbrev TY.abi_Kind : TypeId := 184
abbrev TY.p_uint8 : TypeId := 186
abbrev TY.abi_NameOff : TypeId := 187
abbrev TY.abi_TypeOff : TypeId := 188
abbrev TY.abi_Type : TypeId := 190
theorem TF.agg_121 : aggB PG 121 = some true := by kernel_rfl
theorem TF.agg_24 : aggB PG 24 = some false := by kernel_rfl
theorem TF.agg_3 : aggB PG 3 = some false := by kernel_rfl
theorem TF.agg_4 : aggB PG 4 = some false := by kernel_rfl
theorem TF.agg_9 : aggB PG 9 = some false := by kernel_rfl
theorem TF.bool_4 : boolT PG 4 = true := by kernel_rfl
theorem TF.fld_121_0 : fldB PG 121 0 = some 0 := by kernel_rfl
theorem TF.fld_121_1 : fldB PG 121 1 = some 1 := by kernel_rfl
theorem TF.fld_121_2 : fldB PG 121 2 = some 2 := by kernel_rfl
theorem TF.fld_145_0 : fldB PG 145 0 = some 0 := by kernel_rfl
theorem TF.fld_145_1 : fldB PG 145 1 = some 1 := by kernel_rfl
theorem TF.fld_26_0 : fldB PG 26 0 = some 0 := by kernel_rfl
theorem TF.goes_13 : Goes PG 13 := ⟨Try.f13, Try.func13, by kernel_rfl, by kernel_rfl⟩
theorem TF.goes_15 : Goes PG 15 := ⟨Try.f15, Try.func15, by kernel_rfl, by kernel_rfl⟩
theorem TF.goes_16 : Goes PG 16 := ⟨Try.f16, Try.func16, by kernel_rfl, by kernel_rfl⟩
theorem TF.goes_17 : Goes PG 17 := ⟨Try.f17, Try.func17, by kernel_rfl, by kernel_rfl⟩
theorem TF.goes_18 : Goes PG 18 := ⟨Try.f18, Try.func18, by kernel_rfl, by kernel_rfl⟩
theorem TF.goes_19 : Goes PG 19 := ⟨Try.f19, Try.func19, by kernel_rfl, by kernel_rfl⟩
theorem TF.goes_3 : Goes PG 3 := ⟨Try.f3, Try.func3, by kernel_rfl, by kernel_rfl⟩
theorem TF.goes_4 : Goes PG 4 := ⟨Try.f4, Try.func4, by kernel_rfl, by kernel_rfl⟩
theorem TF.goes_5 : Goes PG 5 := ⟨Try.f5, Try.func5, by kernel_rfl, by kernel_rfl⟩
theorem TF.goes_51 : Goes PG 51 := ⟨Try.f51, Try.func51, by kernel_rfl, by kernel_rfl⟩
theorem TF.goes_52 : Goes PG 52 := ⟨Try.f52, Try.func52, by kernel_rfl, by kernel_rfl⟩
theorem TF.goes_53 : Goes PG 53 := ⟨Try.f53, Try.func53, by kernel_rfl, by kernel_rfl⟩
theorem TF.goes_54 : Goes PG 54 := ⟨Try.f54, Try.func54, by kernel_rfl, by kernel_rfl⟩
theorem TF.goes_55 : Goes PG 55 := ⟨Try.f55, Try.func55, by kernel_rfl, by kernel_rfl⟩
theorem TF.goes_56 : Goes PG 56 := ⟨Try.f56, Try.func56, by kernel_rfl, by kernel_rfl⟩
theorem TF.goes_62 : Goes PG 62 := ⟨Try.f62, Try.func62, by kernel_rfl, by kernel_rfl⟩
theorem TF.goes_63 : Goes PG 63 := ⟨Try.f63, Try.func63, by kernel_rfl, by kernel_rfl⟩
theorem TF.goes_64 : Goes PG 64 := ⟨Try.f64, Try.func64, by kernel_rfl, by kernel_rfl⟩
theorem TF.goes_65 : Goes PG 65 := ⟨Try.f65, Try.func65, by kernel_rfl, by kernel_rfl⟩
theorem TF.goes_66 : Goes PG 66 := ⟨Try.f66, Try.func66, by kernel_rfl, by kernel_rfl⟩
theorem TF.goes_67 : Goes PG 67 := ⟨Try.f67, Try.func67, by kernel_rfl, by kernel_rfl⟩
theorem TF.goes_77 : Goes PG 77 := ⟨Try.f77, Try.func77, by kernel_rfl, by kernel_rfl⟩
theorem TF.goes_78 : Goes PG 78 := ⟨Try.f78, Try.func78, by kernel_rfl, by kernel_rfl⟩
theorem TF.goes_79 : Goes PG 79 := ⟨Try.f79, Try.func79, by kernel_rfl, by kernel_rfl⟩
theorem TF.goes_84 : Goes PG 84 := ⟨Try.f84, Try.func84, by kernel_rfl, by kernel_rfl⟩
theorem TF.int_3 : intB PG 3 = some .i64 := by kernel_rfl
theorem TF.int_5 : intB PG 5 = some .u8 := by kernel_rfl
theorem TF.int_98 : intB PG 98 = some .u64 := by kernel_rfl
theorem TF.isStr_9 : isStr PG 9 = true := by kernel_rfl
theorem TF.mixed : PG.follows .mixedOrders = true := by kernel_rfl
theorem TF.places_145 : strPlaces PG 145 = some [(0, 1), (1, 1)] := by kernel_rfl
theorem TF.places_26 : strPlaces PG 26 = some [(0, 1)] := by kernel_rfl
theorem TF.ptr_96 : ptrB PG 96 = true := by kernel_rfl
theorem TF.sl_30 : slT PG 30 = true := by kernel_rfl
theorem TF.sl_65 : slT PG 65 = true := by kernel_rfl
theorem TF.sl_94 : slT PG 94 = true := by kernel_rfl
theorem TF.slc_24 : slcB PG 24 = some (5, 1, 1) := by kernel_rfl
theorem TF.slc_30 : slcB PG 30 = some (121, 3, 32) := by kernel_rfl
theorem TF.slc_65 : slcB PG 65 = some (3, 1, 8) := by kernel_rfl
theorem TF.slc_94 : slcB PG 94 = some (9, 1, 16) := by kernel_rfl
theorem TF.sz_121 : szB PG 121 = some 3 := by kernel_rfl
theorem TF.sz_24 : szB PG 24 = some 1 := by kernel_rfl
theorem TF.sz_4 : szB PG 4 = some 1 := by kernel_rfl
theorem TF.sz_9 : szB PG 9 = some 1 := by kernel_rfl
theorem TF.zero_121 : zeroB PG 121 = some [(Value.int .i64 (0)), (Value.int .i64 (0)), (Value.string ByteArray.empty)] := by kernel_rfl
theorem TF.zero_145 : zeroB PG 145 = some [(Value.string ByteArray.empty), (Value.bool false)] := by kernel_rfl
theorem TF.zero_26 : zeroB PG 26 = some [(Value.slice none 0 0)] := by kernel_rfl
theorem TF.zero_3 : zeroB PG 3 = some [(Value.int .i64 (0))] := by kernel_rfl
theorem TF.zero_5 : zeroB PG 5 = some [(Value.int .u8 (0))] := by kernel_rfl
theorem TF.zero_9 : zeroB PG 9 = some [(Value.string ByteArray.empty)] := by kernel_rfl
abbrev FN.countermandlaw01_StylusRises : FuncId := 3
abbrev FN.countermandlaw01_StylusWrites : FuncId := 4
abbrev FN.countermandlaw01_StylusParts : FuncId := 5
abbrev FN.countermandlaw01_StylusNumbers : FuncId := 13
abbrev FN.countermandlaw01_alive : FuncId := 15
abbrev FN.stylus_Stylus_Nat : FuncId := 16
abbrev FN.stylus_Stylus_Bytes : FuncId := 17
abbrev FN.countermandlaw01_great : FuncId := 18
abbrev FN.countermandlaw01_put : FuncId := 19
abbrev FN.stylus_Stylus_Int : FuncId := 51
abbrev FN.stylus_Of : FuncId := 52
abbrev FN.stylus_Reader_Nat : FuncId := 53
abbrev FN.countermandref01_Taken : FuncId := 54
abbrev FN.stylus_Reader_Bad : FuncId := 55
abbrev FN.stylus_Reader_Left : FuncId := 56
abbrev FN.stylus_Reader_Over : FuncId := 62
abbrev FN.countermandref01_Nat : FuncId := 63
abbrev FN.countermandref01_Int : FuncId := 64
abbrev FN.stylus_Stylus_Raw : FuncId := 65
abbrev FN.stylus_Stylus_Text : FuncId := 66
abbrev FN.countermandref01_Text : FuncId := 67
abbrev FN.stylus_Reader_word : FuncId := 77
abbrev FN.stylus_Reader_Spoil : FuncId := 78
abbrev FN.countermandref01_Wide : FuncId := 79
abbrev FN.stylus_Reader_Raw : FuncId := 84
def C_countermandlaw01_StylusRises (B : RO) (i1 : Int) (i2 : Int) (h : Heap) (Q : Bool → Heap → Prop) : Prop :=
  Spec PG B 3 #[(Value.int .i64 (i1)), (Value.int .i64 (i2))] h (fun v h' => ∃ b3 : Bool, v = (Value.bool b3) ∧ Q b3 h')
def C_countermandlaw01_StylusWrites (B : RO) (a1 : Option Addr) (n2 : Nat) (c3 : Nat) (h : Heap) (Q : Bool → Heap → Prop) : Prop :=
  Spec PG B 4 #[(Value.slice a1 n2 c3)] h (fun v h' => ∃ b4 : Bool, v = (Value.bool b4) ∧ Q b4 h')
def C_countermandlaw01_StylusParts (B : RO) (a1 : Option Addr) (n2 : Nat) (c3 : Nat) (a4 : Option Addr) (n5 : Nat) (c6 : Nat) (h : Heap) (Q : Bool → Heap → Prop) : Prop :=
  Spec PG B 5 #[(Value.slice a1 n2 c3), (Value.slice a4 n5 c6)] h (fun v h' => ∃ b7 : Bool, v = (Value.bool b7) ∧ Q b7 h')
def C_countermandlaw01_StylusNumbers (B : RO) (i1 : Int) (i2 : Int) (s3 : ByteArray) (i4 : Int) (h : Heap) (Q : Bool → Heap → Prop) : Prop :=
  Spec PG B 13 #[(Value.int .i64 (i1)), (Value.int .i64 (i2)), (Value.string s3), (Value.int .i64 (i4))] h (fun v h' => ∃ b5 : Bool, v = (Value.bool b5) ∧ Q b5 h')
def C_countermandlaw01_alive (B : RO) (h : Heap) (Q : Bool → Heap → Prop) : Prop :=
  Spec PG B 15 #[] h (fun v h' => ∃ b1 : Bool, v = (Value.bool b1) ∧ Q b1 h')
def C_stylus_Stylus_Nat (B : RO) (p1 : Option Addr) (a2 : Option Addr) (n3 : Nat) (c4 : Nat) (h : Heap) (Q : Heap → Prop) : Prop :=
  Spec PG B 16 #[(Value.pointer p1), (Value.slice a2 n3 c4)] h (fun v h' => v = Value.tuple #[] ∧ Q  h')
def C_stylus_Stylus_Bytes (B : RO) (p1 : Option Addr) (h : Heap) (Q : ByteArray → Heap → Prop) : Prop :=
  Spec PG B 17 #[(Value.pointer p1)] h (fun v h' => ∃ s2 : ByteArray, v = (Value.string s2) ∧ Q s2 h')
def C_countermandlaw01_great (B : RO) (a1 : Option Addr) (n2 : Nat) (c3 : Nat) (h : Heap) (Q : Bool → Heap → Prop) : Prop :=
  Spec PG B 18 #[(Value.slice a1 n2 c3)] h (fun v h' => ∃ b4 : Bool, v = (Value.bool b4) ∧ Q b4 h')
def C_countermandlaw01_put (B : RO) (a1 : Option Addr) (n2 : Nat) (c3 : Nat) (h : Heap) (Q : ByteArray → ByteArray → Heap → Prop) : Prop :=
  Spec PG B 19 #[(Value.slice a1 n2 c3)] h (fun v h' => ∃ s4 : ByteArray, ∃ s5 : ByteArray, v = Value.tuple #[(Value.string s4), (Value.string s5)] ∧ Q s4 s5 h')
def C_stylus_Stylus_Int (B : RO) (p1 : Option Addr) (a2 : Option Addr) (n3 : Nat) (c4 : Nat) (h : Heap) (Q : Heap → Prop) : Prop :=
  Spec PG B 51 #[(Value.pointer p1), (Value.slice a2 n3 c4)] h (fun v h' => v = Value.tuple #[] ∧ Q  h')
def C_stylus_Of (B : RO) (s1 : ByteArray) (h : Heap) (Q : Option Addr → Heap → Prop) : Prop :=
  Spec PG B 52 #[(Value.string s1)] h (fun v h' => ∃ p2 : Option Addr, v = (Value.pointer p2) ∧ Q p2 h')
def C_stylus_Reader_Nat (B : RO) (p1 : Option Addr) (i2 : Int) (h : Heap) (Q : Int → Heap → Prop) : Prop :=
  Spec PG B 53 #[(Value.pointer p1), (Value.int .i64 (i2))] h (fun v h' => ∃ i3 : Int, v = (Value.int .i64 (i3)) ∧ Q i3 h')
def C_countermandref01_Taken (B : RO) (s1 : ByteArray) (h : Heap) (Q : Int → Int → Heap → Prop) : Prop :=
  Spec PG B 54 #[(Value.string s1)] h (fun v h' => ∃ i2 : Int, ∃ i3 : Int, v = Value.tuple #[(Value.int .u64 (i2)), (Value.int .i64 (i3))] ∧ Q i2 i3 h')
def C_stylus_Reader_Bad (B : RO) (p1 : Option Addr) (h : Heap) (Q : Bool → Heap → Prop) : Prop :=
  Spec PG B 55 #[(Value.pointer p1)] h (fun v h' => ∃ b2 : Bool, v = (Value.bool b2) ∧ Q b2 h')
def C_stylus_Reader_Left (B : RO) (p1 : Option Addr) (h : Heap) (Q : Int → Heap → Prop) : Prop :=
  Spec PG B 56 #[(Value.pointer p1)] h (fun v h' => ∃ i2 : Int, v = (Value.int .i64 (i2)) ∧ Q i2 h')
def C_stylus_Reader_Over (B : RO) (p1 : Option Addr) (h : Heap) (Q : Bool → Heap → Prop) : Prop :=
  Spec PG B 62 #[(Value.pointer p1)] h (fun v h' => ∃ b2 : Bool, v = (Value.bool b2) ∧ Q b2 h')
def C_countermandref01_Nat (B : RO) (i1 : Int) (h : Heap) (Q : ByteArray → Heap → Prop) : Prop :=
  Spec PG B 63 #[(Value.int .i64 (i1))] h (fun v h' => ∃ s2 : ByteArray, v = (Value.string s2) ∧ Q s2 h')
def C_countermandref01_Int (B : RO) (i1 : Int) (h : Heap) (Q : ByteArray → Heap → Prop) : Prop :=
  Spec PG B 64 #[(Value.int .i64 (i1))] h (fun v h' => ∃ s2 : ByteArray, v = (Value.string s2) ∧ Q s2 h')
def C_stylus_Stylus_Raw (B : RO) (p1 : Option Addr) (s2 : ByteArray) (h : Heap) (Q : Heap → Prop) : Prop :=
  Spec PG B 65 #[(Value.pointer p1), (Value.string s2)] h (fun v h' => v = Value.tuple #[] ∧ Q  h')
def C_stylus_Stylus_Text (B : RO) (p1 : Option Addr) (a2 : Option Addr) (n3 : Nat) (c4 : Nat) (h : Heap) (Q : Heap → Prop) : Prop :=
  Spec PG B 66 #[(Value.pointer p1), (Value.slice a2 n3 c4)] h (fun v h' => v = Value.tuple #[] ∧ Q  h')
def C_countermandref01_Text (B : RO) (s1 : ByteArray) (h : Heap) (Q : ByteArray → Heap → Prop) : Prop :=
  Spec PG B 67 #[(Value.string s1)] h (fun v h' => ∃ s2 : ByteArray, v = (Value.string s2) ∧ Q s2 h')
def C_stylus_Reader_word (B : RO) (p1 : Option Addr) (h : Heap) (Q : Int → Heap → Prop) : Prop :=
  Spec PG B 77 #[(Value.pointer p1)] h (fun v h' => ∃ i2 : Int, v = (Value.int .u64 (i2)) ∧ Q i2 h')
def C_stylus_Reader_Spoil (B : RO) (p1 : Option Addr) (h : Heap) (Q : Heap → Prop) : Prop :=
  Spec PG B 78 #[(Value.pointer p1)] h (fun v h' => v = Value.tuple #[] ∧ Q  h')
def C_countermandref01_Wide (B : RO) (i1 : Int) (h : Heap) (Q : ByteArray → Heap → Prop) : Prop :=
  Spec PG B 79 #[(Value.int .u64 (i1))] h (fun v h' => ∃ s2 : ByteArray, v = (Value.string s2) ∧ Q s2 h')
def C_stylus_Reader_Raw (B : RO) (p1 : Option Addr) (i2 : Int) (h : Heap) (Q : ByteArray → Heap → Prop) : Prop :=
  Spec PG B 84 #[(Value.pointer p1), (Value.int .i64 (i2))] h (fun v h' => ∃ s3 : ByteArray, v = (Value.string s3) ∧ Q s3 h')
end Go.Proofs.Ythlnibaechobmaa.H
