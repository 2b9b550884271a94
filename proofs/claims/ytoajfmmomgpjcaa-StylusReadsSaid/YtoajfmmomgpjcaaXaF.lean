/- Calls and facts. No condition. -/
import Derived.Test.YtoajfmmomgpjcaaHi
import Derived.Test.YtoajfmmomgpjcaaProg
import Derived.KernelRfl
namespace Go.Proofs.Ytoajfmmomgpjcaa.H
open Go
set_option linter.unusedVariables false
set_option maxRecDepth 100000

noncomputable abbrev PG : Program := Go.Proofs.Try.prog
abbrev TY.int64 : TypeId := 2
abbrev TY.int : TypeId := 3
abbrev TY.bool : TypeId := 4
abbrev TY.uint8 : TypeId := 5
abbrev TY.abi_BoundsErrorCode : TypeId := 6
abbrev TY.runtime_boundsError : TypeId := 8
abbrev TY.string : TypeId := 9
abbrev TY.runtime_errorString : TypeId := 10
abbrev TY.runtime_plainError : TypeId := 11
abbrev TY.uintptr : TypeId := 12
abbrev TY.runtime_errorAddressString : TypeId := 14
abbrev TY.p_runtime_TypeAssertionError : TypeId := 15
abbrev TY.p_runtime_PanicNilError : TypeId := 16
abbrev TY.p_abi_Type : TypeId := 17
abbrev TY.maps_unhashableTypeError : TypeId := 19
abbrev TY.int32 : TypeId := 21
abbrev TY.s_countermandlaw01_Ask : TypeId := 22
abbrev TY.p_stylus_Reader : TypeId := 24
abbrev TY.countermandlaw01_Ask : TypeId := 27
abbrev TY.uint64 : TypeId := 28
abbrev TY.s_string : TypeId := 36
abbrev TY.p_stylus_Stylus : TypeId := 37
abbrev TY.s_uint8 : TypeId := 38
abbrev TY.stylus_Stylus : TypeId := 40
abbrev TY.uint : TypeId := 43
abbrev TY.s_countermandlaw01_Item : TypeId := 45
abbrev TY.countermandlaw01_Item : TypeId := 50
abbrev TY.s_countermandlaw10_Set : TypeId := 51
abbrev TY.file_File : TypeId := 54
abbrev TY.countermandlaw10_Set : TypeId := 56
abbrev TY.p_tome_Tome : TypeId := 57
abbrev TY.p_countermandref10_Tome : TypeId := 62
abbrev TY.countermandref09_File : TypeId := 63
abbrev TY.a_6_countermandref09_File : TypeId := 64
abbrev TY.a_6_int : TypeId := 65
abbrev TY.countermandref10_Tome : TypeId := 67
abbrev TY.iter_Seq2_int_file_File : TypeId := 72
abbrev TY.s_countermandref16_Act : TypeId := 81
abbrev TY.p_acts_Acts : TypeId := 82
abbrev TY.s_acts_Out : TypeId := 83
abbrev TY.s_int : TypeId := 84
abbrev TY.s_acts_Open : TypeId := 85
abbrev TY.acts_Acts : TypeId := 87
abbrev TY.countermandref16_Act : TypeId := 89
abbrev TY.a_4_int : TypeId := 91
abbrev TY.acts_Mark : TypeId := 92
abbrev TY.acts_Out : TypeId := 98
abbrev TY.acts_Open : TypeId := 100
abbrev TY.s_countermandlaw16_Step : TypeId := 102
abbrev TY.countermandlaw16_Step : TypeId := 104
abbrev TY.s_countermandref13_Put : TypeId := 118
abbrev TY.p_draft_Draft_int : TypeId := 119
abbrev TY.s_draft_entry_int : TypeId := 120
abbrev TY.draft_Draft_int : TypeId := 122
abbrev TY.iter_Seq2_int_int : TypeId := 127
abbrev TY.countermandref13_Put : TypeId := 132
abbrev TY.stylus_Reader : TypeId := 137
abbrev TY.p_cell_Row_file_File : TypeId := 142
abbrev TY.tome_Tome : TypeId := 145
abbrev TY.s_countermandref09_File : TypeId := 148
abbrev TY.p_draft_Draft_string : TypeId := 155
abbrev TY.s_draft_entry_string : TypeId := 156
abbrev TY.draft_Draft_string : TypeId := 158
abbrev TY.draft_entry_int : TypeId := 163
abbrev TY.s_cell_slot_file_File : TypeId := 166
abbrev TY.cell_Row_file_File : TypeId := 168
abbrev TY.cell_slot_file_File : TypeId := 170
abbrev TY.iter_Seq2_int_acts_Open : TypeId := 172
abbrev TY.s_s_acts_Out : TypeId := 174
abbrev TY.draft_entry_string : TypeId := 176
abbrev TY.runtime_TypeAssertionError : TypeId := 190
abbrev TY.a_0_p_runtime_PanicNilError : TypeId := 191
abbrev TY.runtime_PanicNilError : TypeId := 193
abbrev TY.uint32 : TypeId := 194
abbrev TY.abi_TFlag : TypeId := 195
abbrev TY.abi_Kind : TypeId := 196
abbrev TY.p_uint8 : TypeId := 198
abbrev TY.abi_NameOff : TypeId := 199
abbrev TY.abi_TypeOff : TypeId := 200
abbrev TY.abi_Type : TypeId := 202
abbrev TY.iter_Seq2_int_string : TypeId := 207
theorem TF.agg_27 : aggB PG 27 = some true := by kernel_rfl
theorem TF.agg_3 : aggB PG 3 = some false := by kernel_rfl
theorem TF.agg_38 : aggB PG 38 = some false := by kernel_rfl
theorem TF.agg_4 : aggB PG 4 = some false := by kernel_rfl
theorem TF.agg_50 : aggB PG 50 = some true := by kernel_rfl
theorem TF.agg_9 : aggB PG 9 = some false := by kernel_rfl
theorem TF.bool_4 : boolT PG 4 = true := by kernel_rfl
theorem TF.fld_137_0 : fldB PG 137 0 = some 0 := by kernel_rfl
theorem TF.fld_137_1 : fldB PG 137 1 = some 1 := by kernel_rfl
theorem TF.fld_27_0 : fldB PG 27 0 = some 0 := by kernel_rfl
theorem TF.fld_27_1 : fldB PG 27 1 = some 1 := by kernel_rfl
theorem TF.fld_40_0 : fldB PG 40 0 = some 0 := by kernel_rfl
theorem TF.fld_50_0 : fldB PG 50 0 = some 0 := by kernel_rfl
theorem TF.fld_50_1 : fldB PG 50 1 = some 1 := by kernel_rfl
theorem TF.fld_50_2 : fldB PG 50 2 = some 2 := by kernel_rfl
theorem TF.goes_15 : Goes PG 15 := ⟨Try.f15, Try.func15, by kernel_rfl, by kernel_rfl⟩
theorem TF.goes_16 : Goes PG 16 := ⟨Try.f16, Try.func16, by kernel_rfl, by kernel_rfl⟩
theorem TF.goes_17 : Goes PG 17 := ⟨Try.f17, Try.func17, by kernel_rfl, by kernel_rfl⟩
theorem TF.goes_18 : Goes PG 18 := ⟨Try.f18, Try.func18, by kernel_rfl, by kernel_rfl⟩
theorem TF.goes_19 : Goes PG 19 := ⟨Try.f19, Try.func19, by kernel_rfl, by kernel_rfl⟩
theorem TF.goes_20 : Goes PG 20 := ⟨Try.f20, Try.func20, by kernel_rfl, by kernel_rfl⟩
theorem TF.goes_21 : Goes PG 21 := ⟨Try.f21, Try.func21, by kernel_rfl, by kernel_rfl⟩
theorem TF.goes_22 : Goes PG 22 := ⟨Try.f22, Try.func22, by kernel_rfl, by kernel_rfl⟩
theorem TF.goes_23 : Goes PG 23 := ⟨Try.f23, Try.func23, by kernel_rfl, by kernel_rfl⟩
theorem TF.goes_24 : Goes PG 24 := ⟨Try.f24, Try.func24, by kernel_rfl, by kernel_rfl⟩
theorem TF.goes_25 : Goes PG 25 := ⟨Try.f25, Try.func25, by kernel_rfl, by kernel_rfl⟩
theorem TF.goes_26 : Goes PG 26 := ⟨Try.f26, Try.func26, by kernel_rfl, by kernel_rfl⟩
theorem TF.goes_27 : Goes PG 27 := ⟨Try.f27, Try.func27, by kernel_rfl, by kernel_rfl⟩
theorem TF.goes_28 : Goes PG 28 := ⟨Try.f28, Try.func28, by kernel_rfl, by kernel_rfl⟩
theorem TF.goes_29 : Goes PG 29 := ⟨Try.f29, Try.func29, by kernel_rfl, by kernel_rfl⟩
theorem TF.goes_3 : Goes PG 3 := ⟨Try.f3, Try.func3, by kernel_rfl, by kernel_rfl⟩
theorem TF.goes_30 : Goes PG 30 := ⟨Try.f30, Try.func30, by kernel_rfl, by kernel_rfl⟩
theorem TF.goes_4 : Goes PG 4 := ⟨Try.f4, Try.func4, by kernel_rfl, by kernel_rfl⟩
theorem TF.goes_5 : Goes PG 5 := ⟨Try.f5, Try.func5, by kernel_rfl, by kernel_rfl⟩
theorem TF.goes_70 : Goes PG 70 := ⟨Try.f70, Try.func70, by kernel_rfl, by kernel_rfl⟩
theorem TF.goes_71 : Goes PG 71 := ⟨Try.f71, Try.func71, by kernel_rfl, by kernel_rfl⟩
theorem TF.goes_72 : Goes PG 72 := ⟨Try.f72, Try.func72, by kernel_rfl, by kernel_rfl⟩
theorem TF.goes_73 : Goes PG 73 := ⟨Try.f73, Try.func73, by kernel_rfl, by kernel_rfl⟩
theorem TF.goes_74 : Goes PG 74 := ⟨Try.f74, Try.func74, by kernel_rfl, by kernel_rfl⟩
theorem TF.goes_75 : Goes PG 75 := ⟨Try.f75, Try.func75, by kernel_rfl, by kernel_rfl⟩
theorem TF.goes_76 : Goes PG 76 := ⟨Try.f76, Try.func76, by kernel_rfl, by kernel_rfl⟩
theorem TF.goes_77 : Goes PG 77 := ⟨Try.f77, Try.func77, by kernel_rfl, by kernel_rfl⟩
theorem TF.int_28 : intB PG 28 = some .u64 := by kernel_rfl
theorem TF.int_3 : intB PG 3 = some .i64 := by kernel_rfl
theorem TF.int_43 : intB PG 43 = some .u64 := by kernel_rfl
theorem TF.int_5 : intB PG 5 = some .u8 := by kernel_rfl
theorem TF.isStr_9 : isStr PG 9 = true := by kernel_rfl
theorem TF.mixed : PG.follows .mixedOrders = true := by kernel_rfl
theorem TF.places_137 : strPlaces PG 137 = some [(0, 1), (1, 1)] := by kernel_rfl
theorem TF.places_40 : strPlaces PG 40 = some [(0, 1)] := by kernel_rfl
theorem TF.ptr_24 : ptrB PG 24 = true := by kernel_rfl
theorem TF.sl_22 : slT PG 22 = true := by kernel_rfl
theorem TF.sl_36 : slT PG 36 = true := by kernel_rfl
theorem TF.sl_45 : slT PG 45 = true := by kernel_rfl
theorem TF.sl_84 : slT PG 84 = true := by kernel_rfl
theorem TF.slc_22 : slcB PG 22 = some (27, 2, 16) := by kernel_rfl
theorem TF.slc_36 : slcB PG 36 = some (9, 1, 16) := by kernel_rfl
theorem TF.slc_38 : slcB PG 38 = some (5, 1, 1) := by kernel_rfl
theorem TF.slc_45 : slcB PG 45 = some (50, 3, 32) := by kernel_rfl
theorem TF.slc_84 : slcB PG 84 = some (3, 1, 8) := by kernel_rfl
theorem TF.sz_27 : szB PG 27 = some 2 := by kernel_rfl
theorem TF.sz_38 : szB PG 38 = some 1 := by kernel_rfl
theorem TF.sz_4 : szB PG 4 = some 1 := by kernel_rfl
theorem TF.sz_50 : szB PG 50 = some 3 := by kernel_rfl
theorem TF.sz_9 : szB PG 9 = some 1 := by kernel_rfl
theorem TF.zero_137 : zeroB PG 137 = some [(Value.string ByteArray.empty), (Value.bool false)] := by kernel_rfl
theorem TF.zero_27 : zeroB PG 27 = some [(Value.int .i64 (0)), (Value.int .i64 (0))] := by kernel_rfl
theorem TF.zero_3 : zeroB PG 3 = some [(Value.int .i64 (0))] := by kernel_rfl
theorem TF.zero_40 : zeroB PG 40 = some [(Value.slice none 0 0)] := by kernel_rfl
theorem TF.zero_5 : zeroB PG 5 = some [(Value.int .u8 (0))] := by kernel_rfl
theorem TF.zero_50 : zeroB PG 50 = some [(Value.int .i64 (0)), (Value.int .i64 (0)), (Value.string ByteArray.empty)] := by kernel_rfl
theorem TF.zero_9 : zeroB PG 9 = some [(Value.string ByteArray.empty)] := by kernel_rfl
abbrev FN.countermandlaw01_StylusReads : FuncId := 3
abbrev FN.countermandlaw01_StylusTexts : FuncId := 4
abbrev FN.countermandlaw01_StylusReturns : FuncId := 5
abbrev FN.countermandlaw01_alive : FuncId := 15
abbrev FN.stylus_Of : FuncId := 16
abbrev FN.countermandref01_Taken : FuncId := 17
abbrev FN.stylus_Reader_Nat : FuncId := 18
abbrev FN.stylus_Reader_Int : FuncId := 19
abbrev FN.countermandref01_Signed : FuncId := 20
abbrev FN.stylus_Reader_Raw : FuncId := 21
abbrev FN.stylus_Reader_Text : FuncId := 22
abbrev FN.stylus_Reader_Bad : FuncId := 23
abbrev FN.stylus_Reader_Left : FuncId := 24
abbrev FN.stylus_Reader_Over : FuncId := 25
abbrev FN.stylus_Reader_Spoil : FuncId := 26
abbrev FN.stylus_Stylus_Text : FuncId := 27
abbrev FN.stylus_Stylus_Bytes : FuncId := 28
abbrev FN.countermandlaw01_great : FuncId := 29
abbrev FN.countermandlaw01_put : FuncId := 30
abbrev FN.stylus_Stylus_Nat : FuncId := 70
abbrev FN.stylus_Stylus_Int : FuncId := 71
abbrev FN.countermandref01_Wide : FuncId := 72
abbrev FN.stylus_Reader_word : FuncId := 73
abbrev FN.stylus_Stylus_Raw : FuncId := 74
abbrev FN.countermandref01_Nat : FuncId := 75
abbrev FN.countermandref01_Int : FuncId := 76
abbrev FN.countermandref01_Text : FuncId := 77
def C_countermandlaw01_StylusReads (B : RO) (s1 : ByteArray) (a2 : Option Addr) (n3 : Nat) (c4 : Nat) (h : Heap) (Q : Bool → Heap → Prop) : Prop :=
  Spec PG B 3 #[(Value.string s1), (Value.slice a2 n3 c4)] h (fun v h' => ∃ b5 : Bool, v = (Value.bool b5) ∧ Q b5 h')
def C_countermandlaw01_StylusTexts (B : RO) (a1 : Option Addr) (n2 : Nat) (c3 : Nat) (i4 : Int) (h : Heap) (Q : Bool → Heap → Prop) : Prop :=
  Spec PG B 4 #[(Value.slice a1 n2 c3), (Value.int .i64 (i4))] h (fun v h' => ∃ b5 : Bool, v = (Value.bool b5) ∧ Q b5 h')
def C_countermandlaw01_StylusReturns (B : RO) (a1 : Option Addr) (n2 : Nat) (c3 : Nat) (h : Heap) (Q : Bool → Heap → Prop) : Prop :=
  Spec PG B 5 #[(Value.slice a1 n2 c3)] h (fun v h' => ∃ b4 : Bool, v = (Value.bool b4) ∧ Q b4 h')
def C_countermandlaw01_alive (B : RO) (h : Heap) (Q : Bool → Heap → Prop) : Prop :=
  Spec PG B 15 #[] h (fun v h' => ∃ b1 : Bool, v = (Value.bool b1) ∧ Q b1 h')
def C_stylus_Of (B : RO) (s1 : ByteArray) (h : Heap) (Q : Option Addr → Heap → Prop) : Prop :=
  Spec PG B 16 #[(Value.string s1)] h (fun v h' => ∃ p2 : Option Addr, v = (Value.pointer p2) ∧ Q p2 h')
def C_countermandref01_Taken (B : RO) (s1 : ByteArray) (h : Heap) (Q : Int → Int → Heap → Prop) : Prop :=
  Spec PG B 17 #[(Value.string s1)] h (fun v h' => ∃ i2 : Int, ∃ i3 : Int, v = Value.tuple #[(Value.int .u64 (i2)), (Value.int .i64 (i3))] ∧ Q i2 i3 h')
def C_stylus_Reader_Nat (B : RO) (p1 : Option Addr) (i2 : Int) (h : Heap) (Q : Int → Heap → Prop) : Prop :=
  Spec PG B 18 #[(Value.pointer p1), (Value.int .i64 (i2))] h (fun v h' => ∃ i3 : Int, v = (Value.int .i64 (i3)) ∧ Q i3 h')
def C_stylus_Reader_Int (B : RO) (p1 : Option Addr) (h : Heap) (Q : Int → Heap → Prop) : Prop :=
  Spec PG B 19 #[(Value.pointer p1)] h (fun v h' => ∃ i2 : Int, v = (Value.int .i64 (i2)) ∧ Q i2 h')
def C_countermandref01_Signed (B : RO) (i1 : Int) (h : Heap) (Q : Int → Heap → Prop) : Prop :=
  Spec PG B 20 #[(Value.int .u64 (i1))] h (fun v h' => ∃ i2 : Int, v = (Value.int .i64 (i2)) ∧ Q i2 h')
def C_stylus_Reader_Raw (B : RO) (p1 : Option Addr) (i2 : Int) (h : Heap) (Q : ByteArray → Heap → Prop) : Prop :=
  Spec PG B 21 #[(Value.pointer p1), (Value.int .i64 (i2))] h (fun v h' => ∃ s3 : ByteArray, v = (Value.string s3) ∧ Q s3 h')
def C_stylus_Reader_Text (B : RO) (p1 : Option Addr) (i2 : Int) (h : Heap) (Q : ByteArray → Heap → Prop) : Prop :=
  Spec PG B 22 #[(Value.pointer p1), (Value.int .i64 (i2))] h (fun v h' => ∃ s3 : ByteArray, v = (Value.string s3) ∧ Q s3 h')
def C_stylus_Reader_Bad (B : RO) (p1 : Option Addr) (h : Heap) (Q : Bool → Heap → Prop) : Prop :=
  Spec PG B 23 #[(Value.pointer p1)] h (fun v h' => ∃ b2 : Bool, v = (Value.bool b2) ∧ Q b2 h')
def C_stylus_Reader_Left (B : RO) (p1 : Option Addr) (h : Heap) (Q : Int → Heap → Prop) : Prop :=
  Spec PG B 24 #[(Value.pointer p1)] h (fun v h' => ∃ i2 : Int, v = (Value.int .i64 (i2)) ∧ Q i2 h')
def C_stylus_Reader_Over (B : RO) (p1 : Option Addr) (h : Heap) (Q : Bool → Heap → Prop) : Prop :=
  Spec PG B 25 #[(Value.pointer p1)] h (fun v h' => ∃ b2 : Bool, v = (Value.bool b2) ∧ Q b2 h')
def C_stylus_Reader_Spoil (B : RO) (p1 : Option Addr) (h : Heap) (Q : Heap → Prop) : Prop :=
  Spec PG B 26 #[(Value.pointer p1)] h (fun v h' => v = Value.tuple #[] ∧ Q  h')
def C_stylus_Stylus_Text (B : RO) (p1 : Option Addr) (a2 : Option Addr) (n3 : Nat) (c4 : Nat) (h : Heap) (Q : Heap → Prop) : Prop :=
  Spec PG B 27 #[(Value.pointer p1), (Value.slice a2 n3 c4)] h (fun v h' => v = Value.tuple #[] ∧ Q  h')
def C_stylus_Stylus_Bytes (B : RO) (p1 : Option Addr) (h : Heap) (Q : ByteArray → Heap → Prop) : Prop :=
  Spec PG B 28 #[(Value.pointer p1)] h (fun v h' => ∃ s2 : ByteArray, v = (Value.string s2) ∧ Q s2 h')
def C_countermandlaw01_great (B : RO) (a1 : Option Addr) (n2 : Nat) (c3 : Nat) (h : Heap) (Q : Bool → Heap → Prop) : Prop :=
  Spec PG B 29 #[(Value.slice a1 n2 c3)] h (fun v h' => ∃ b4 : Bool, v = (Value.bool b4) ∧ Q b4 h')
def C_countermandlaw01_put (B : RO) (a1 : Option Addr) (n2 : Nat) (c3 : Nat) (h : Heap) (Q : ByteArray → ByteArray → Heap → Prop) : Prop :=
  Spec PG B 30 #[(Value.slice a1 n2 c3)] h (fun v h' => ∃ s4 : ByteArray, ∃ s5 : ByteArray, v = Value.tuple #[(Value.string s4), (Value.string s5)] ∧ Q s4 s5 h')
def C_stylus_Stylus_Nat (B : RO) (p1 : Option Addr) (a2 : Option Addr) (n3 : Nat) (c4 : Nat) (h : Heap) (Q : Heap → Prop) : Prop :=
  Spec PG B 70 #[(Value.pointer p1), (Value.slice a2 n3 c4)] h (fun v h' => v = Value.tuple #[] ∧ Q  h')
def C_stylus_Stylus_Int (B : RO) (p1 : Option Addr) (a2 : Option Addr) (n3 : Nat) (c4 : Nat) (h : Heap) (Q : Heap → Prop) : Prop :=
  Spec PG B 71 #[(Value.pointer p1), (Value.slice a2 n3 c4)] h (fun v h' => v = Value.tuple #[] ∧ Q  h')
def C_countermandref01_Wide (B : RO) (i1 : Int) (h : Heap) (Q : ByteArray → Heap → Prop) : Prop :=
  Spec PG B 72 #[(Value.int .u64 (i1))] h (fun v h' => ∃ s2 : ByteArray, v = (Value.string s2) ∧ Q s2 h')
def C_stylus_Reader_word (B : RO) (p1 : Option Addr) (h : Heap) (Q : Int → Heap → Prop) : Prop :=
  Spec PG B 73 #[(Value.pointer p1)] h (fun v h' => ∃ i2 : Int, v = (Value.int .u64 (i2)) ∧ Q i2 h')
def C_stylus_Stylus_Raw (B : RO) (p1 : Option Addr) (s2 : ByteArray) (h : Heap) (Q : Heap → Prop) : Prop :=
  Spec PG B 74 #[(Value.pointer p1), (Value.string s2)] h (fun v h' => v = Value.tuple #[] ∧ Q  h')
def C_countermandref01_Nat (B : RO) (i1 : Int) (h : Heap) (Q : ByteArray → Heap → Prop) : Prop :=
  Spec PG B 75 #[(Value.int .i64 (i1))] h (fun v h' => ∃ s2 : ByteArray, v = (Value.string s2) ∧ Q s2 h')
def C_countermandref01_Int (B : RO) (i1 : Int) (h : Heap) (Q : ByteArray → Heap → Prop) : Prop :=
  Spec PG B 76 #[(Value.int .i64 (i1))] h (fun v h' => ∃ s2 : ByteArray, v = (Value.string s2) ∧ Q s2 h')
def C_countermandref01_Text (B : RO) (s1 : ByteArray) (h : Heap) (Q : ByteArray → Heap → Prop) : Prop :=
  Spec PG B 77 #[(Value.string s1)] h (fun v h' => ∃ s2 : ByteArray, v = (Value.string s2) ∧ Q s2 h')
end Go.Proofs.Ytoajfmmomgpjcaa.H
