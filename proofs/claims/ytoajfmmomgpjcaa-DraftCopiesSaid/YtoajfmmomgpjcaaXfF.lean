/- Calls and facts. No condition. -/
import Derived.Test.YtoajfmmomgpjcaaHs
import Derived.Test.YtoajfmmomgpjcaaProg
import Derived.KernelRfl
namespace Go.Proofs.Ytoajfmmomgpjcaa.H
open Go
set_option linter.unusedVariables false
set_option maxRecDepth 100000

noncomputable abbrev PG : Program := Go.Proofs.Try.prog
abbrev TY.int64 : TypeId := 2
abbrev TY.int : TypeId := 3
abbrev TY.bool : TypeId := 4
abbrev TY.uint8 : TypeId := 5
abbrev TY.abi_BoundsErrorCode : TypeId := 6
abbrev TY.runtime_boundsError : TypeId := 8
abbrev TY.string : TypeId := 9
abbrev TY.runtime_errorString : TypeId := 10
abbrev TY.runtime_plainError : TypeId := 11
abbrev TY.uintptr : TypeId := 12
abbrev TY.runtime_errorAddressString : TypeId := 14
abbrev TY.p_runtime_TypeAssertionError : TypeId := 15
abbrev TY.p_runtime_PanicNilError : TypeId := 16
abbrev TY.p_abi_Type : TypeId := 17
abbrev TY.maps_unhashableTypeError : TypeId := 19
abbrev TY.int32 : TypeId := 21
abbrev TY.s_countermandlaw01_Ask : TypeId := 22
abbrev TY.p_stylus_Reader : TypeId := 24
abbrev TY.countermandlaw01_Ask : TypeId := 27
abbrev TY.uint64 : TypeId := 28
abbrev TY.s_string : TypeId := 36
abbrev TY.p_stylus_Stylus : TypeId := 37
abbrev TY.s_uint8 : TypeId := 38
abbrev TY.stylus_Stylus : TypeId := 40
abbrev TY.uint : TypeId := 43
abbrev TY.s_countermandlaw01_Item : TypeId := 45
abbrev TY.countermandlaw01_Item : TypeId := 50
abbrev TY.s_countermandlaw10_Set : TypeId := 51
abbrev TY.file_File : TypeId := 54
abbrev TY.countermandlaw10_Set : TypeId := 56
abbrev TY.p_tome_Tome : TypeId := 57
abbrev TY.p_countermandref10_Tome : TypeId := 62
abbrev TY.countermandref09_File : TypeId := 63
abbrev TY.a_6_countermandref09_File : TypeId := 64
abbrev TY.a_6_int : TypeId := 65
abbrev TY.countermandref10_Tome : TypeId := 67
abbrev TY.iter_Seq2_int_file_File : TypeId := 72
abbrev TY.s_countermandref16_Act : TypeId := 81
abbrev TY.p_acts_Acts : TypeId := 82
abbrev TY.s_acts_Out : TypeId := 83
abbrev TY.s_int : TypeId := 84
abbrev TY.s_acts_Open : TypeId := 85
abbrev TY.acts_Acts : TypeId := 87
abbrev TY.countermandref16_Act : TypeId := 89
abbrev TY.a_4_int : TypeId := 91
abbrev TY.acts_Mark : TypeId := 92
abbrev TY.acts_Out : TypeId := 98
abbrev TY.acts_Open : TypeId := 100
abbrev TY.s_countermandlaw16_Step : TypeId := 102
abbrev TY.countermandlaw16_Step : TypeId := 104
abbrev TY.s_countermandref13_Put : TypeId := 118
abbrev TY.p_draft_Draft_int : TypeId := 119
abbrev TY.s_draft_entry_int : TypeId := 120
abbrev TY.draft_Draft_int : TypeId := 122
abbrev TY.iter_Seq2_int_int : TypeId := 127
abbrev TY.countermandref13_Put : TypeId := 132
abbrev TY.stylus_Reader : TypeId := 137
abbrev TY.p_cell_Row_file_File : TypeId := 142
abbrev TY.tome_Tome : TypeId := 145
abbrev TY.s_countermandref09_File : TypeId := 148
abbrev TY.p_draft_Draft_string : TypeId := 155
abbrev TY.s_draft_entry_string : TypeId := 156
abbrev TY.draft_Draft_string : TypeId := 158
abbrev TY.draft_entry_int : TypeId := 163
abbrev TY.s_cell_slot_file_File : TypeId := 166
abbrev TY.cell_Row_file_File : TypeId := 168
abbrev TY.cell_slot_file_File : TypeId := 170
abbrev TY.iter_Seq2_int_acts_Open : TypeId := 172
abbrev TY.s_s_acts_Out : TypeId := 174
abbrev TY.draft_entry_string : TypeId := 176
abbrev TY.runtime_TypeAssertionError : TypeId := 190
abbrev TY.a_0_p_runtime_PanicNilError : TypeId := 191
abbrev TY.runtime_PanicNilError : TypeId := 193
abbrev TY.uint32 : TypeId := 194
abbrev TY.abi_TFlag : TypeId := 195
abbrev TY.abi_Kind : TypeId := 196
abbrev TY.p_uint8 : TypeId := 198
abbrev TY.abi_NameOff : TypeId := 199
abbrev TY.abi_TypeOff : TypeId := 200
abbrev TY.abi_Type : TypeId := 202
abbrev TY.iter_Seq2_int_string : TypeId := 207
theorem TF.agg_118 : aggB PG 118 = some false := by kernel_rfl
theorem TF.agg_119 : aggB PG 119 = some false := by kernel_rfl
theorem TF.agg_120 : aggB PG 120 = some false := by kernel_rfl
theorem TF.agg_132 : aggB PG 132 = some true := by kernel_rfl
theorem TF.agg_156 : aggB PG 156 = some false := by kernel_rfl
theorem TF.agg_163 : aggB PG 163 = some true := by kernel_rfl
theorem TF.agg_176 : aggB PG 176 = some true := by kernel_rfl
theorem TF.agg_3 : aggB PG 3 = some false := by kernel_rfl
theorem TF.agg_4 : aggB PG 4 = some false := by kernel_rfl
theorem TF.agg_84 : aggB PG 84 = some false := by kernel_rfl
theorem TF.agg_9 : aggB PG 9 = some false := by kernel_rfl
theorem TF.bool_4 : boolT PG 4 = true := by kernel_rfl
theorem TF.fld_122_0 : fldB PG 122 0 = some 0 := by kernel_rfl
theorem TF.fld_132_0 : fldB PG 132 0 = some 0 := by kernel_rfl
theorem TF.fld_132_1 : fldB PG 132 1 = some 1 := by kernel_rfl
theorem TF.fld_158_0 : fldB PG 158 0 = some 0 := by kernel_rfl
theorem TF.fld_163_0 : fldB PG 163 0 = some 0 := by kernel_rfl
theorem TF.fld_163_1 : fldB PG 163 1 = some 1 := by kernel_rfl
theorem TF.fld_176_0 : fldB PG 176 0 = some 0 := by kernel_rfl
theorem TF.fld_176_1 : fldB PG 176 1 = some 1 := by kernel_rfl
theorem TF.goes_101 : Goes PG 101 := ⟨Try.f101, Try.func101, by kernel_rfl, by kernel_rfl⟩
theorem TF.goes_102 : Goes PG 102 := ⟨Try.f102, Try.func102, by kernel_rfl, by kernel_rfl⟩
theorem TF.goes_103 : Goes PG 103 := ⟨Try.f103, Try.func103, by kernel_rfl, by kernel_rfl⟩
theorem TF.goes_104 : Goes PG 104 := ⟨Try.f104, Try.func104, by kernel_rfl, by kernel_rfl⟩
theorem TF.goes_106 : Goes PG 106 := ⟨Try.f106, Try.func106, by kernel_rfl, by kernel_rfl⟩
theorem TF.goes_108 : Goes PG 108 := ⟨Try.f108, Try.func108, by kernel_rfl, by kernel_rfl⟩
theorem TF.goes_109 : Goes PG 109 := ⟨Try.f109, Try.func109, by kernel_rfl, by kernel_rfl⟩
theorem TF.goes_111 : Goes PG 111 := ⟨Try.f111, Try.func111, by kernel_rfl, by kernel_rfl⟩
theorem TF.goes_112 : Goes PG 112 := ⟨Try.f112, Try.func112, by kernel_rfl, by kernel_rfl⟩
theorem TF.goes_113 : Goes PG 113 := ⟨Try.f113, Try.func113, by kernel_rfl, by kernel_rfl⟩
theorem TF.goes_114 : Goes PG 114 := ⟨Try.f114, Try.func114, by kernel_rfl, by kernel_rfl⟩
theorem TF.goes_115 : Goes PG 115 := ⟨Try.f115, Try.func115, by kernel_rfl, by kernel_rfl⟩
theorem TF.goes_12 : Goes PG 12 := ⟨Try.f12, Try.func12, by kernel_rfl, by kernel_rfl⟩
theorem TF.goes_13 : Goes PG 13 := ⟨Try.f13, Try.func13, by kernel_rfl, by kernel_rfl⟩
theorem TF.goes_14 : Goes PG 14 := ⟨Try.f14, Try.func14, by kernel_rfl, by kernel_rfl⟩
theorem TF.goes_62 : Goes PG 62 := ⟨Try.f62, Try.func62, by kernel_rfl, by kernel_rfl⟩
theorem TF.goes_63 : Goes PG 63 := ⟨Try.f63, Try.func63, by kernel_rfl, by kernel_rfl⟩
theorem TF.goes_64 : Goes PG 64 := ⟨Try.f64, Try.func64, by kernel_rfl, by kernel_rfl⟩
theorem TF.goes_65 : Goes PG 65 := ⟨Try.f65, Try.func65, by kernel_rfl, by kernel_rfl⟩
theorem TF.goes_66 : Goes PG 66 := ⟨Try.f66, Try.func66, by kernel_rfl, by kernel_rfl⟩
theorem TF.goes_67 : Goes PG 67 := ⟨Try.f67, Try.func67, by kernel_rfl, by kernel_rfl⟩
theorem TF.goes_68 : Goes PG 68 := ⟨Try.f68, Try.func68, by kernel_rfl, by kernel_rfl⟩
theorem TF.goes_69 : Goes PG 69 := ⟨Try.f69, Try.func69, by kernel_rfl, by kernel_rfl⟩
theorem TF.goes_90 : Goes PG 90 := ⟨Try.f90, Try.func90, by kernel_rfl, by kernel_rfl⟩
theorem TF.goes_91 : Goes PG 91 := ⟨Try.f91, Try.func91, by kernel_rfl, by kernel_rfl⟩
theorem TF.goes_92 : Goes PG 92 := ⟨Try.f92, Try.func92, by kernel_rfl, by kernel_rfl⟩
theorem TF.goes_93 : Goes PG 93 := ⟨Try.f93, Try.func93, by kernel_rfl, by kernel_rfl⟩
theorem TF.goes_94 : Goes PG 94 := ⟨Try.f94, Try.func94, by kernel_rfl, by kernel_rfl⟩
theorem TF.goes_95 : Goes PG 95 := ⟨Try.f95, Try.func95, by kernel_rfl, by kernel_rfl⟩
theorem TF.goes_96 : Goes PG 96 := ⟨Try.f96, Try.func96, by kernel_rfl, by kernel_rfl⟩
theorem TF.goesx_105 : GoesX PG 105 (Extern.SlicesOverlaps.overlaps #[120, 120] #[4]) := ⟨Try.f105, Try.func105, by kernel_rfl, by kernel_rfl, by kernel_rfl, by kernel_rfl⟩
theorem TF.goesx_110 : GoesX PG 110 (Extern.SlicesOverlaps.overlaps #[156, 156] #[4]) := ⟨Try.f110, Try.func110, by kernel_rfl, by kernel_rfl, by kernel_rfl, by kernel_rfl⟩
theorem TF.int_3 : intB PG 3 = some .i64 := by kernel_rfl
theorem TF.int_43 : intB PG 43 = some .u64 := by kernel_rfl
theorem TF.mixed : PG.follows .mixedOrders = true := by kernel_rfl
theorem TF.places_122 : strPlaces PG 122 = some [(0, 1)] := by kernel_rfl
theorem TF.places_158 : strPlaces PG 158 = some [(0, 1)] := by kernel_rfl
theorem TF.places_163 : strPlaces PG 163 = some [(0, 1), (1, 1)] := by kernel_rfl
theorem TF.places_176 : strPlaces PG 176 = some [(0, 1), (1, 1)] := by kernel_rfl
theorem TF.ptr_119 : ptrB PG 119 = true := by kernel_rfl
theorem TF.ptr_155 : ptrB PG 155 = true := by kernel_rfl
theorem TF.sl_118 : slT PG 118 = true := by kernel_rfl
theorem TF.sl_120 : slT PG 120 = true := by kernel_rfl
theorem TF.sl_156 : slT PG 156 = true := by kernel_rfl
theorem TF.sl_84 : slT PG 84 = true := by kernel_rfl
theorem TF.slc_118 : slcB PG 118 = some (132, 2, 16) := by kernel_rfl
theorem TF.slc_120 : slcB PG 120 = some (163, 2, 16) := by kernel_rfl
theorem TF.slc_156 : slcB PG 156 = some (176, 2, 24) := by kernel_rfl
theorem TF.slc_84 : slcB PG 84 = some (3, 1, 8) := by kernel_rfl
theorem TF.sz_119 : szB PG 119 = some 1 := by kernel_rfl
theorem TF.sz_120 : szB PG 120 = some 1 := by kernel_rfl
theorem TF.sz_132 : szB PG 132 = some 2 := by kernel_rfl
theorem TF.sz_156 : szB PG 156 = some 1 := by kernel_rfl
theorem TF.sz_163 : szB PG 163 = some 2 := by kernel_rfl
theorem TF.sz_176 : szB PG 176 = some 2 := by kernel_rfl
theorem TF.sz_3 : szB PG 3 = some 1 := by kernel_rfl
theorem TF.sz_4 : szB PG 4 = some 1 := by kernel_rfl
theorem TF.sz_84 : szB PG 84 = some 1 := by kernel_rfl
theorem TF.sz_9 : szB PG 9 = some 1 := by kernel_rfl
theorem TF.zero_119 : zeroB PG 119 = some [(Value.pointer none)] := by kernel_rfl
theorem TF.zero_122 : zeroB PG 122 = some [(Value.slice none 0 0)] := by kernel_rfl
theorem TF.zero_132 : zeroB PG 132 = some [(Value.int .i64 (0)), (Value.int .i64 (0))] := by kernel_rfl
theorem TF.zero_158 : zeroB PG 158 = some [(Value.slice none 0 0)] := by kernel_rfl
theorem TF.zero_163 : zeroB PG 163 = some [(Value.int .i64 (0)), (Value.int .i64 (0))] := by kernel_rfl
theorem TF.zero_176 : zeroB PG 176 = some [(Value.int .i64 (0)), (Value.string ByteArray.empty)] := by kernel_rfl
theorem TF.zero_3 : zeroB PG 3 = some [(Value.int .i64 (0))] := by kernel_rfl
theorem TF.zero_4 : zeroB PG 4 = some [(Value.bool false)] := by kernel_rfl
theorem TF.zero_84 : zeroB PG 84 = some [(Value.slice none 0 0)] := by kernel_rfl
abbrev FN.countermandlaw13_DraftOrder : FuncId := 12
abbrev FN.countermandlaw13_DraftPuts : FuncId := 13
abbrev FN.countermandlaw13_DraftCopies : FuncId := 14
abbrev FN.countermandlaw13_alive : FuncId := 62
abbrev FN.countermandref13_Numbers : FuncId := 63
abbrev FN.countermandref13_Get : FuncId := 64
abbrev FN.draft_Draft_int_Put : FuncId := 65
abbrev FN.draft_Draft_int_Len : FuncId := 66
abbrev FN.draft_Draft_int_All : FuncId := 67
abbrev FN.draft_Draft_int_Get : FuncId := 68
abbrev FN.draft_Draft_int_Copy : FuncId := 69
abbrev FN.draft_Draft_string_Get : FuncId := 90
abbrev FN.draft_Draft_string_Put : FuncId := 91
abbrev FN.draft_Draft_string_Len : FuncId := 92
abbrev FN.draft_Draft_int_find : FuncId := 93
abbrev FN.slices_Insert_s_draft_entry_int_draft_entry_int : FuncId := 94
abbrev FN.draft_Draft_int_All_1 : FuncId := 95
abbrev FN.slices_Clone_s_draft_entry_int_draft_entry_int : FuncId := 96
abbrev FN.draft_Draft_string_find : FuncId := 101
abbrev FN.slices_Insert_s_draft_entry_string_draft_entry_string : FuncId := 102
abbrev FN.slices_BinarySearchFunc_s_draft_entry_int_draft_entry_int_int : FuncId := 103
abbrev FN.draft_by_int : FuncId := 104
abbrev FN.slices_rotateRight_draft_entry_int : FuncId := 106
abbrev FN.slices_BinarySearchFunc_s_draft_entry_string_draft_entry_string_int : FuncId := 108
abbrev FN.draft_by_string : FuncId := 109
abbrev FN.slices_rotateRight_draft_entry_string : FuncId := 111
abbrev FN.slices_rotateLeft_draft_entry_int : FuncId := 112
abbrev FN.slices_rotateLeft_draft_entry_string : FuncId := 113
abbrev FN.slices_Reverse_s_draft_entry_int_draft_entry_int : FuncId := 114
abbrev FN.slices_Reverse_s_draft_entry_string_draft_entry_string : FuncId := 115
theorem TG.countermandlaw13_DraftOrder : Goes PG FN.countermandlaw13_DraftOrder := TF.goes_12
theorem TG.countermandlaw13_DraftPuts : Goes PG FN.countermandlaw13_DraftPuts := TF.goes_13
theorem TG.countermandlaw13_DraftCopies : Goes PG FN.countermandlaw13_DraftCopies := TF.goes_14
theorem TG.countermandlaw13_alive : Goes PG FN.countermandlaw13_alive := TF.goes_62
theorem TG.countermandref13_Numbers : Goes PG FN.countermandref13_Numbers := TF.goes_63
theorem TG.countermandref13_Get : Goes PG FN.countermandref13_Get := TF.goes_64
theorem TG.draft_Draft_int_Put : Goes PG FN.draft_Draft_int_Put := TF.goes_65
theorem TG.draft_Draft_int_Len : Goes PG FN.draft_Draft_int_Len := TF.goes_66
theorem TG.draft_Draft_int_All : Goes PG FN.draft_Draft_int_All := TF.goes_67
theorem TG.draft_Draft_int_Get : Goes PG FN.draft_Draft_int_Get := TF.goes_68
theorem TG.draft_Draft_int_Copy : Goes PG FN.draft_Draft_int_Copy := TF.goes_69
theorem TG.draft_Draft_string_Get : Goes PG FN.draft_Draft_string_Get := TF.goes_90
theorem TG.draft_Draft_string_Put : Goes PG FN.draft_Draft_string_Put := TF.goes_91
theorem TG.draft_Draft_string_Len : Goes PG FN.draft_Draft_string_Len := TF.goes_92
theorem TG.draft_Draft_int_find : Goes PG FN.draft_Draft_int_find := TF.goes_93
theorem TG.slices_Insert_s_draft_entry_int_draft_entry_int : Goes PG FN.slices_Insert_s_draft_entry_int_draft_entry_int := TF.goes_94
theorem TG.draft_Draft_int_All_1 : Goes PG FN.draft_Draft_int_All_1 := TF.goes_95
theorem TG.slices_Clone_s_draft_entry_int_draft_entry_int : Goes PG FN.slices_Clone_s_draft_entry_int_draft_entry_int := TF.goes_96
theorem TG.draft_Draft_string_find : Goes PG FN.draft_Draft_string_find := TF.goes_101
theorem TG.slices_Insert_s_draft_entry_string_draft_entry_string : Goes PG FN.slices_Insert_s_draft_entry_string_draft_entry_string := TF.goes_102
theorem TG.slices_BinarySearchFunc_s_draft_entry_int_draft_entry_int_int : Goes PG FN.slices_BinarySearchFunc_s_draft_entry_int_draft_entry_int_int := TF.goes_103
theorem TG.draft_by_int : Goes PG FN.draft_by_int := TF.goes_104
theorem TG.slices_rotateRight_draft_entry_int : Goes PG FN.slices_rotateRight_draft_entry_int := TF.goes_106
theorem TG.slices_BinarySearchFunc_s_draft_entry_string_draft_entry_string_int : Goes PG FN.slices_BinarySearchFunc_s_draft_entry_string_draft_entry_string_int := TF.goes_108
theorem TG.draft_by_string : Goes PG FN.draft_by_string := TF.goes_109
theorem TG.slices_rotateRight_draft_entry_string : Goes PG FN.slices_rotateRight_draft_entry_string := TF.goes_111
theorem TG.slices_rotateLeft_draft_entry_int : Goes PG FN.slices_rotateLeft_draft_entry_int := TF.goes_112
theorem TG.slices_rotateLeft_draft_entry_string : Goes PG FN.slices_rotateLeft_draft_entry_string := TF.goes_113
theorem TG.slices_Reverse_s_draft_entry_int_draft_entry_int : Goes PG FN.slices_Reverse_s_draft_entry_int_draft_entry_int := TF.goes_114
theorem TG.slices_Reverse_s_draft_entry_string_draft_entry_string : Goes PG FN.slices_Reverse_s_draft_entry_string_draft_entry_string := TF.goes_115
def C_countermandlaw13_DraftOrder (B : RO) (a1 : Option Addr) (n2 : Nat) (c3 : Nat) (i4 : Int) (h : Heap) (Q : Bool → Heap → Prop) : Prop :=
  Spec PG B 12 #[(Value.slice a1 n2 c3), (Value.int .i64 (i4))] h (fun v h' => ∃ b5 : Bool, v = (Value.bool b5) ∧ Q b5 h')
def C_countermandlaw13_DraftPuts (B : RO) (a1 : Option Addr) (n2 : Nat) (c3 : Nat) (i4 : Int) (h : Heap) (Q : Bool → Heap → Prop) : Prop :=
  Spec PG B 13 #[(Value.slice a1 n2 c3), (Value.int .i64 (i4))] h (fun v h' => ∃ b5 : Bool, v = (Value.bool b5) ∧ Q b5 h')
def C_countermandlaw13_DraftCopies (B : RO) (a1 : Option Addr) (n2 : Nat) (c3 : Nat) (i4 : Int) (i5 : Int) (i6 : Int) (h : Heap) (Q : Bool → Heap → Prop) : Prop :=
  Spec PG B 14 #[(Value.slice a1 n2 c3), (Value.agg #[(Value.int .i64 (i4)), (Value.int .i64 (i5))]), (Value.int .i64 (i6))] h (fun v h' => ∃ b7 : Bool, v = (Value.bool b7) ∧ Q b7 h')
def C_countermandlaw13_alive (B : RO) (h : Heap) (Q : Bool → Heap → Prop) : Prop :=
  Spec PG B 62 #[] h (fun v h' => ∃ b1 : Bool, v = (Value.bool b1) ∧ Q b1 h')
def C_countermandref13_Numbers (B : RO) (a1 : Option Addr) (n2 : Nat) (c3 : Nat) (h : Heap) (Q : Option Addr → Nat → Nat → Heap → Prop) : Prop :=
  Spec PG B 63 #[(Value.slice a1 n2 c3)] h (fun v h' => ∃ a4 : Option Addr, ∃ n5 : Nat, ∃ c6 : Nat, v = (Value.slice a4 n5 c6) ∧ Q a4 n5 c6 h')
def C_countermandref13_Get (B : RO) (a1 : Option Addr) (n2 : Nat) (c3 : Nat) (i4 : Int) (h : Heap) (Q : Int → Bool → Heap → Prop) : Prop :=
  Spec PG B 64 #[(Value.slice a1 n2 c3), (Value.int .i64 (i4))] h (fun v h' => ∃ i5 : Int, ∃ b6 : Bool, v = Value.tuple #[(Value.int .i64 (i5)), (Value.bool b6)] ∧ Q i5 b6 h')
def C_draft_Draft_int_Put (B : RO) (p1 : Option Addr) (i2 : Int) (i3 : Int) (h : Heap) (Q : Bool → Heap → Prop) : Prop :=
  Spec PG B 65 #[(Value.pointer p1), (Value.int .i64 (i2)), (Value.int .i64 (i3))] h (fun v h' => ∃ b4 : Bool, v = (Value.bool b4) ∧ Q b4 h')
def C_draft_Draft_int_Len (B : RO) (p1 : Option Addr) (h : Heap) (Q : Int → Heap → Prop) : Prop :=
  Spec PG B 66 #[(Value.pointer p1)] h (fun v h' => ∃ i2 : Int, v = (Value.int .i64 (i2)) ∧ Q i2 h')
def C_draft_Draft_int_All (B : RO) (p1 : Option Addr) (h : Heap) (Q : Value → Heap → Prop) : Prop :=
  Spec PG B 67 #[(Value.pointer p1)] h (fun v h' => ∃ v2 : Value, v = v2 ∧ Q v2 h')
def C_draft_Draft_int_Get (B : RO) (p1 : Option Addr) (i2 : Int) (h : Heap) (Q : Int → Bool → Heap → Prop) : Prop :=
  Spec PG B 68 #[(Value.pointer p1), (Value.int .i64 (i2))] h (fun v h' => ∃ i3 : Int, ∃ b4 : Bool, v = Value.tuple #[(Value.int .i64 (i3)), (Value.bool b4)] ∧ Q i3 b4 h')
def C_draft_Draft_int_Copy (B : RO) (p1 : Option Addr) (h : Heap) (Q : Option Addr → Heap → Prop) : Prop :=
  Spec PG B 69 #[(Value.pointer p1)] h (fun v h' => ∃ p2 : Option Addr, v = (Value.pointer p2) ∧ Q p2 h')
def C_draft_Draft_string_Get (B : RO) (p1 : Option Addr) (i2 : Int) (h : Heap) (Q : ByteArray → Bool → Heap → Prop) : Prop :=
  Spec PG B 90 #[(Value.pointer p1), (Value.int .i64 (i2))] h (fun v h' => ∃ s3 : ByteArray, ∃ b4 : Bool, v = Value.tuple #[(Value.string s3), (Value.bool b4)] ∧ Q s3 b4 h')
def C_draft_Draft_string_Put (B : RO) (p1 : Option Addr) (i2 : Int) (s3 : ByteArray) (h : Heap) (Q : Bool → Heap → Prop) : Prop :=
  Spec PG B 91 #[(Value.pointer p1), (Value.int .i64 (i2)), (Value.string s3)] h (fun v h' => ∃ b4 : Bool, v = (Value.bool b4) ∧ Q b4 h')
def C_draft_Draft_string_Len (B : RO) (p1 : Option Addr) (h : Heap) (Q : Int → Heap → Prop) : Prop :=
  Spec PG B 92 #[(Value.pointer p1)] h (fun v h' => ∃ i2 : Int, v = (Value.int .i64 (i2)) ∧ Q i2 h')
def C_draft_Draft_int_find (B : RO) (p1 : Option Addr) (i2 : Int) (h : Heap) (Q : Int → Bool → Heap → Prop) : Prop :=
  Spec PG B 93 #[(Value.pointer p1), (Value.int .i64 (i2))] h (fun v h' => ∃ i3 : Int, ∃ b4 : Bool, v = Value.tuple #[(Value.int .i64 (i3)), (Value.bool b4)] ∧ Q i3 b4 h')
def C_slices_Insert_s_draft_entry_int_draft_entry_int (B : RO) (a1 : Option Addr) (n2 : Nat) (c3 : Nat) (i4 : Int) (a5 : Option Addr) (n6 : Nat) (c7 : Nat) (h : Heap) (Q : Option Addr → Nat → Nat → Heap → Prop) : Prop :=
  Spec PG B 94 #[(Value.slice a1 n2 c3), (Value.int .i64 (i4)), (Value.slice a5 n6 c7)] h (fun v h' => ∃ a8 : Option Addr, ∃ n9 : Nat, ∃ c10 : Nat, v = (Value.slice a8 n9 c10) ∧ Q a8 n9 c10 h')
def C_draft_Draft_int_All_1 (B : RO) (v1 : Value) (A2 : Addr) (h : Heap) (Q : Heap → Prop) : Prop :=
  Spec PG B 95 #[v1, (Value.pointer (some A2))] h (fun v h' => v = Value.tuple #[] ∧ Q  h')
def C_slices_Clone_s_draft_entry_int_draft_entry_int (B : RO) (a1 : Option Addr) (n2 : Nat) (c3 : Nat) (h : Heap) (Q : Option Addr → Nat → Nat → Heap → Prop) : Prop :=
  Spec PG B 96 #[(Value.slice a1 n2 c3)] h (fun v h' => ∃ a4 : Option Addr, ∃ n5 : Nat, ∃ c6 : Nat, v = (Value.slice a4 n5 c6) ∧ Q a4 n5 c6 h')
def C_draft_Draft_string_find (B : RO) (p1 : Option Addr) (i2 : Int) (h : Heap) (Q : Int → Bool → Heap → Prop) : Prop :=
  Spec PG B 101 #[(Value.pointer p1), (Value.int .i64 (i2))] h (fun v h' => ∃ i3 : Int, ∃ b4 : Bool, v = Value.tuple #[(Value.int .i64 (i3)), (Value.bool b4)] ∧ Q i3 b4 h')
def C_slices_Insert_s_draft_entry_string_draft_entry_string (B : RO) (a1 : Option Addr) (n2 : Nat) (c3 : Nat) (i4 : Int) (a5 : Option Addr) (n6 : Nat) (c7 : Nat) (h : Heap) (Q : Option Addr → Nat → Nat → Heap → Prop) : Prop :=
  Spec PG B 102 #[(Value.slice a1 n2 c3), (Value.int .i64 (i4)), (Value.slice a5 n6 c7)] h (fun v h' => ∃ a8 : Option Addr, ∃ n9 : Nat, ∃ c10 : Nat, v = (Value.slice a8 n9 c10) ∧ Q a8 n9 c10 h')
def C_slices_BinarySearchFunc_s_draft_entry_int_draft_entry_int_int (B : RO) (a1 : Option Addr) (n2 : Nat) (c3 : Nat) (i4 : Int) (v5 : Value) (h : Heap) (Q : Int → Bool → Heap → Prop) : Prop :=
  Spec PG B 103 #[(Value.slice a1 n2 c3), (Value.int .i64 (i4)), v5] h (fun v h' => ∃ i6 : Int, ∃ b7 : Bool, v = Value.tuple #[(Value.int .i64 (i6)), (Value.bool b7)] ∧ Q i6 b7 h')
def C_draft_by_int (B : RO) (i1 : Int) (i2 : Int) (i3 : Int) (h : Heap) (Q : Int → Heap → Prop) : Prop :=
  Spec PG B 104 #[(Value.agg #[(Value.int .i64 (i1)), (Value.int .i64 (i2))]), (Value.int .i64 (i3))] h (fun v h' => ∃ i4 : Int, v = (Value.int .i64 (i4)) ∧ Q i4 h')
def C_slices_rotateRight_draft_entry_int (B : RO) (a1 : Option Addr) (n2 : Nat) (c3 : Nat) (i4 : Int) (h : Heap) (Q : Heap → Prop) : Prop :=
  Spec PG B 106 #[(Value.slice a1 n2 c3), (Value.int .i64 (i4))] h (fun v h' => v = Value.tuple #[] ∧ Q  h')
def C_slices_BinarySearchFunc_s_draft_entry_string_draft_entry_string_int (B : RO) (a1 : Option Addr) (n2 : Nat) (c3 : Nat) (i4 : Int) (v5 : Value) (h : Heap) (Q : Int → Bool → Heap → Prop) : Prop :=
  Spec PG B 108 #[(Value.slice a1 n2 c3), (Value.int .i64 (i4)), v5] h (fun v h' => ∃ i6 : Int, ∃ b7 : Bool, v = Value.tuple #[(Value.int .i64 (i6)), (Value.bool b7)] ∧ Q i6 b7 h')
def C_draft_by_string (B : RO) (i1 : Int) (s2 : ByteArray) (i3 : Int) (h : Heap) (Q : Int → Heap → Prop) : Prop :=
  Spec PG B 109 #[(Value.agg #[(Value.int .i64 (i1)), (Value.string s2)]), (Value.int .i64 (i3))] h (fun v h' => ∃ i4 : Int, v = (Value.int .i64 (i4)) ∧ Q i4 h')
def C_slices_rotateRight_draft_entry_string (B : RO) (a1 : Option Addr) (n2 : Nat) (c3 : Nat) (i4 : Int) (h : Heap) (Q : Heap → Prop) : Prop :=
  Spec PG B 111 #[(Value.slice a1 n2 c3), (Value.int .i64 (i4))] h (fun v h' => v = Value.tuple #[] ∧ Q  h')
def C_slices_rotateLeft_draft_entry_int (B : RO) (a1 : Option Addr) (n2 : Nat) (c3 : Nat) (i4 : Int) (h : Heap) (Q : Heap → Prop) : Prop :=
  Spec PG B 112 #[(Value.slice a1 n2 c3), (Value.int .i64 (i4))] h (fun v h' => v = Value.tuple #[] ∧ Q  h')
def C_slices_rotateLeft_draft_entry_string (B : RO) (a1 : Option Addr) (n2 : Nat) (c3 : Nat) (i4 : Int) (h : Heap) (Q : Heap → Prop) : Prop :=
  Spec PG B 113 #[(Value.slice a1 n2 c3), (Value.int .i64 (i4))] h (fun v h' => v = Value.tuple #[] ∧ Q  h')
def C_slices_Reverse_s_draft_entry_int_draft_entry_int (B : RO) (a1 : Option Addr) (n2 : Nat) (c3 : Nat) (h : Heap) (Q : Heap → Prop) : Prop :=
  Spec PG B 114 #[(Value.slice a1 n2 c3)] h (fun v h' => v = Value.tuple #[] ∧ Q  h')
def C_slices_Reverse_s_draft_entry_string_draft_entry_string (B : RO) (a1 : Option Addr) (n2 : Nat) (c3 : Nat) (h : Heap) (Q : Heap → Prop) : Prop :=
  Spec PG B 115 #[(Value.slice a1 n2 c3)] h (fun v h' => v = Value.tuple #[] ∧ Q  h')
end Go.Proofs.Ytoajfmmomgpjcaa.H
