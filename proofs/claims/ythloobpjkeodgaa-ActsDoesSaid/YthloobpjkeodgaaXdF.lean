/- Calls and facts. No condition. -/
import Derived.Test.YthloobpjkeodgaaHs
import Derived.Test.YthloobpjkeodgaaProg
import Derived.KernelRfl
namespace Go.Proofs.Ythloobpjkeodgaa.H
open Go
set_option linter.unusedVariables false
set_option maxRecDepth 100000

noncomputable abbrev PG : Program := Go.Proofs.Try.prog
abbrev TY.int64 : TypeId := 2
abbrev TY.int : TypeId := 3
abbrev TY.bool : TypeId := 4
abbrev TY.uint8 : TypeId := 5
abbrev TY.abi_BoundsErrorCode : TypeId := 6
abbrev TY.runtime_boundsError : TypeId := 8
abbrev TY.string : TypeId := 9
abbrev TY.runtime_errorString : TypeId := 10
abbrev TY.runtime_plainError : TypeId := 11
abbrev TY.uintptr : TypeId := 12
abbrev TY.runtime_errorAddressString : TypeId := 14
abbrev TY.p_runtime_TypeAssertionError : TypeId := 15
abbrev TY.p_runtime_PanicNilError : TypeId := 16
abbrev TY.p_abi_Type : TypeId := 17
abbrev TY.maps_unhashableTypeError : TypeId := 19
abbrev TY.int32 : TypeId := 21
abbrev TY.s_countermandlaw16_Step : TypeId := 22
abbrev TY.p_acts_Acts : TypeId := 24
abbrev TY.s_acts_Out : TypeId := 25
abbrev TY.s_int : TypeId := 26
abbrev TY.s_acts_Open : TypeId := 27
abbrev TY.acts_Acts : TypeId := 29
abbrev TY.s_countermandref16_Act : TypeId := 30
abbrev TY.countermandref16_Act : TypeId := 32
abbrev TY.a_4_int : TypeId := 33
abbrev TY.countermandlaw16_Step : TypeId := 35
abbrev TY.acts_Mark : TypeId := 42
abbrev TY.s_string : TypeId := 55
abbrev TY.p_wal_Log : TypeId := 57
abbrev TY.api_Errno : TypeId := 58
abbrev TY.p_disk_Disk : TypeId := 61
abbrev TY.iter_Seq_string : TypeId := 66
abbrev TY.s_countermandlaw04_Call : TypeId := 69
abbrev TY.countermandlaw04_Call : TypeId := 73
abbrev TY.p_countermandlaw04_both : TypeId := 80
abbrev TY.p_countermandref04_Log : TypeId := 83
abbrev TY.countermandlaw04_both : TypeId := 85
abbrev TY.p_countermandref03_Disk : TypeId := 88
abbrev TY.countermandref04_Log : TypeId := 90
abbrev TY.s_countermandref03_Change : TypeId := 92
abbrev TY.countermandref03_Disk : TypeId := 94
abbrev TY.s_redo_Change : TypeId := 96
abbrev TY.s_countermandref18_Change : TypeId := 99
abbrev TY.p_draft_Draft_file_File : TypeId := 105
abbrev TY.file_File : TypeId := 111
abbrev TY.a_6_file_File : TypeId := 112
abbrev TY.p_tome_Tome : TypeId := 113
abbrev TY.countermandref09_File : TypeId := 114
abbrev TY.a_6_countermandref09_File : TypeId := 115
abbrev TY.countermandref18_Change : TypeId := 122
abbrev TY.s_countermandlaw17_Step : TypeId := 130
abbrev TY.p_mark_Stack : TypeId := 131
abbrev TY.s_mark_Mark : TypeId := 132
abbrev TY.mark_Stack : TypeId := 134
abbrev TY.p_draft_Draft_int : TypeId := 135
abbrev TY.p_sheet_Sheet : TypeId := 136
abbrev TY.p_cursor_Cursor : TypeId := 137
abbrev TY.api_Regs : TypeId := 138
abbrev TY.mark_State : TypeId := 140
abbrev TY.s_countermandref13_Put : TypeId := 142
abbrev TY.countermandref17_State : TypeId := 144
abbrev TY.s_countermandref17_Mark : TypeId := 145
abbrev TY.countermandlaw17_Step : TypeId := 146
abbrev TY.countermandref13_Put : TypeId := 148
abbrev TY.mark_Mark : TypeId := 151
abbrev TY.countermandref17_Mark : TypeId := 154
abbrev TY.acts_Open : TypeId := 160
abbrev TY.acts_Out : TypeId := 163
abbrev TY.wal_Log : TypeId := 171
abbrev TY.disk_area : TypeId := 173
abbrev TY.a_2_disk_area : TypeId := 174
abbrev TY.s_disk_change : TypeId := 175
abbrev TY.disk_Disk : TypeId := 177
abbrev TY.disk_change : TypeId := 181
abbrev TY.countermandref03_Change : TypeId := 189
abbrev TY.s_draft_entry_file_File : TypeId := 191
abbrev TY.draft_Draft_file_File : TypeId := 193
abbrev TY.p_stylus_Reader : TypeId := 195
abbrev TY.redo_Change : TypeId := 199
abbrev TY.uint64 : TypeId := 202
abbrev TY.iter_Seq2_int_file_File : TypeId := 205
abbrev TY.p_stylus_Stylus : TypeId := 207
abbrev TY.s_uint8 : TypeId := 208
abbrev TY.stylus_Stylus : TypeId := 210
abbrev TY.p_cell_Row_file_File : TypeId := 215
abbrev TY.tome_Tome : TypeId := 217
abbrev TY.s_draft_entry_int : TypeId := 218
abbrev TY.draft_Draft_int : TypeId := 220
abbrev TY.a_3_int : TypeId := 222
abbrev TY.cursor_Cursor : TypeId := 224
abbrev TY.draft_entry_int : TypeId := 228
abbrev TY.iter_Seq2_int_int : TypeId := 234
abbrev TY.iter_Seq2_int_acts_Open : TypeId := 238
abbrev TY.s_s_acts_Out : TypeId := 240
abbrev TY.uint : TypeId := 241
abbrev TY.uint32 : TypeId := 243
abbrev TY.draft_entry_file_File : TypeId := 246
abbrev TY.stylus_Reader : TypeId := 249
abbrev TY.cell_slot_file_File : TypeId := 257
abbrev TY.s_cell_slot_file_File : TypeId := 258
abbrev TY.cell_Row_file_File : TypeId := 260
abbrev TY.sheet_Sheet : TypeId := 262
abbrev TY.runtime_TypeAssertionError : TypeId := 280
abbrev TY.a_0_p_runtime_PanicNilError : TypeId := 281
abbrev TY.runtime_PanicNilError : TypeId := 283
abbrev TY.abi_TFlag : TypeId := 284
abbrev TY.abi_Kind : TypeId := 285
abbrev TY.p_uint8 : TypeId := 287
abbrev TY.abi_NameOff : TypeId := 288
abbrev TY.abi_TypeOff : TypeId := 289
abbrev TY.abi_Type : TypeId := 291
theorem TF.agg_160 : aggB PG 160 = some true := by kernel_rfl
theorem TF.agg_163 : aggB PG 163 = some true := by kernel_rfl
theorem TF.agg_25 : aggB PG 25 = some false := by kernel_rfl
theorem TF.agg_26 : aggB PG 26 = some false := by kernel_rfl
theorem TF.agg_27 : aggB PG 27 = some false := by kernel_rfl
theorem TF.agg_3 : aggB PG 3 = some false := by kernel_rfl
theorem TF.agg_32 : aggB PG 32 = some true := by kernel_rfl
theorem TF.agg_33 : aggB PG 33 = some true := by kernel_rfl
theorem TF.agg_35 : aggB PG 35 = some true := by kernel_rfl
theorem TF.agg_42 : aggB PG 42 = some true := by kernel_rfl
theorem TF.agg_5 : aggB PG 5 = some false := by kernel_rfl
theorem TF.arr_33 : arrB PG 33 = some (4, 3, 1, false) := by kernel_rfl
theorem TF.arr_42 : arrB PG 42 = some (4, 3, 1, false) := by kernel_rfl
theorem TF.bool_4 : boolT PG 4 = true := by kernel_rfl
theorem TF.eqg_160 : eqGB PG 160 = false := by kernel_rfl
theorem TF.eqg_42 : eqGB PG 42 = false := by kernel_rfl
theorem TF.flat_160 : flat6B PG 160 = some [.int .i64, .int .i64] := by kernel_rfl
theorem TF.flat_42 : flat6B PG 42 = some [.int .i64, .int .i64, .int .i64, .int .i64] := by kernel_rfl
theorem TF.fld_160_0 : fldB PG 160 0 = some 0 := by kernel_rfl
theorem TF.fld_160_1 : fldB PG 160 1 = some 1 := by kernel_rfl
theorem TF.fld_163_0 : fldB PG 163 0 = some 0 := by kernel_rfl
theorem TF.fld_163_1 : fldB PG 163 1 = some 1 := by kernel_rfl
theorem TF.fld_29_0 : fldB PG 29 0 = some 0 := by kernel_rfl
theorem TF.fld_29_1 : fldB PG 29 1 = some 1 := by kernel_rfl
theorem TF.fld_29_2 : fldB PG 29 2 = some 2 := by kernel_rfl
theorem TF.fld_29_3 : fldB PG 29 3 = some 3 := by kernel_rfl
theorem TF.fld_32_0 : fldB PG 32 0 = some 0 := by kernel_rfl
theorem TF.fld_32_1 : fldB PG 32 1 = some 1 := by kernel_rfl
theorem TF.fld_32_2 : fldB PG 32 2 = some 2 := by kernel_rfl
theorem TF.fld_35_0 : fldB PG 35 0 = some 0 := by kernel_rfl
theorem TF.fld_35_1 : fldB PG 35 1 = some 3 := by kernel_rfl
theorem TF.goes_130 : Goes PG 130 := ⟨Try.f130, Try.func130, by kernel_rfl, by kernel_rfl⟩
theorem TF.goes_131 : Goes PG 131 := ⟨Try.f131, Try.func131, by kernel_rfl, by kernel_rfl⟩
theorem TF.goes_15 : Goes PG 15 := ⟨Try.f15, Try.func15, by kernel_rfl, by kernel_rfl⟩
theorem TF.goes_158 : Goes PG 158 := ⟨Try.f158, Try.func158, by kernel_rfl, by kernel_rfl⟩
theorem TF.goes_16 : Goes PG 16 := ⟨Try.f16, Try.func16, by kernel_rfl, by kernel_rfl⟩
theorem TF.goes_17 : Goes PG 17 := ⟨Try.f17, Try.func17, by kernel_rfl, by kernel_rfl⟩
theorem TF.goes_18 : Goes PG 18 := ⟨Try.f18, Try.func18, by kernel_rfl, by kernel_rfl⟩
theorem TF.goes_19 : Goes PG 19 := ⟨Try.f19, Try.func19, by kernel_rfl, by kernel_rfl⟩
theorem TF.goes_20 : Goes PG 20 := ⟨Try.f20, Try.func20, by kernel_rfl, by kernel_rfl⟩
theorem TF.goes_21 : Goes PG 21 := ⟨Try.f21, Try.func21, by kernel_rfl, by kernel_rfl⟩
theorem TF.goes_22 : Goes PG 22 := ⟨Try.f22, Try.func22, by kernel_rfl, by kernel_rfl⟩
theorem TF.goes_23 : Goes PG 23 := ⟨Try.f23, Try.func23, by kernel_rfl, by kernel_rfl⟩
theorem TF.goes_24 : Goes PG 24 := ⟨Try.f24, Try.func24, by kernel_rfl, by kernel_rfl⟩
theorem TF.goes_25 : Goes PG 25 := ⟨Try.f25, Try.func25, by kernel_rfl, by kernel_rfl⟩
theorem TF.goes_26 : Goes PG 26 := ⟨Try.f26, Try.func26, by kernel_rfl, by kernel_rfl⟩
theorem TF.goes_27 : Goes PG 27 := ⟨Try.f27, Try.func27, by kernel_rfl, by kernel_rfl⟩
theorem TF.goes_28 : Goes PG 28 := ⟨Try.f28, Try.func28, by kernel_rfl, by kernel_rfl⟩
theorem TF.goes_29 : Goes PG 29 := ⟨Try.f29, Try.func29, by kernel_rfl, by kernel_rfl⟩
theorem TF.goes_3 : Goes PG 3 := ⟨Try.f3, Try.func3, by kernel_rfl, by kernel_rfl⟩
theorem TF.goes_30 : Goes PG 30 := ⟨Try.f30, Try.func30, by kernel_rfl, by kernel_rfl⟩
theorem TF.goes_31 : Goes PG 31 := ⟨Try.f31, Try.func31, by kernel_rfl, by kernel_rfl⟩
theorem TF.goes_32 : Goes PG 32 := ⟨Try.f32, Try.func32, by kernel_rfl, by kernel_rfl⟩
theorem TF.goes_33 : Goes PG 33 := ⟨Try.f33, Try.func33, by kernel_rfl, by kernel_rfl⟩
theorem TF.goes_83 : Goes PG 83 := ⟨Try.f83, Try.func83, by kernel_rfl, by kernel_rfl⟩
theorem TF.goes_84 : Goes PG 84 := ⟨Try.f84, Try.func84, by kernel_rfl, by kernel_rfl⟩
theorem TF.goes_85 : Goes PG 85 := ⟨Try.f85, Try.func85, by kernel_rfl, by kernel_rfl⟩
theorem TF.goes_86 : Goes PG 86 := ⟨Try.f86, Try.func86, by kernel_rfl, by kernel_rfl⟩
theorem TF.goes_87 : Goes PG 87 := ⟨Try.f87, Try.func87, by kernel_rfl, by kernel_rfl⟩
theorem TF.goes_88 : Goes PG 88 := ⟨Try.f88, Try.func88, by kernel_rfl, by kernel_rfl⟩
theorem TF.int_3 : intB PG 3 = some .i64 := by kernel_rfl
theorem TF.int_5 : intB PG 5 = some .u8 := by kernel_rfl
theorem TF.mixed : PG.follows .mixedOrders = true := by kernel_rfl
theorem TF.places_160 : strPlaces PG 160 = some [(0, 1), (1, 1)] := by kernel_rfl
theorem TF.places_163 : strPlaces PG 163 = some [(0, 1), (1, 1)] := by kernel_rfl
theorem TF.places_29 : strPlaces PG 29 = some [(0, 1), (1, 1), (2, 1), (3, 1)] := by kernel_rfl
theorem TF.places_32 : strPlaces PG 32 = some [(0, 1), (1, 1), (2, 1)] := by kernel_rfl
theorem TF.ptr_24 : ptrB PG 24 = true := by kernel_rfl
theorem TF.sl_22 : slT PG 22 = true := by kernel_rfl
theorem TF.sl_240 : slT PG 240 = true := by kernel_rfl
theorem TF.sl_25 : slT PG 25 = true := by kernel_rfl
theorem TF.sl_26 : slT PG 26 = true := by kernel_rfl
theorem TF.sl_27 : slT PG 27 = true := by kernel_rfl
theorem TF.sl_30 : slT PG 30 = true := by kernel_rfl
theorem TF.slc_22 : slcB PG 22 = some (35, 7, 56) := by kernel_rfl
theorem TF.slc_240 : slcB PG 240 = some (25, 1, 24) := by kernel_rfl
theorem TF.slc_25 : slcB PG 25 = some (163, 2, 16) := by kernel_rfl
theorem TF.slc_26 : slcB PG 26 = some (3, 1, 8) := by kernel_rfl
theorem TF.slc_27 : slcB PG 27 = some (160, 2, 16) := by kernel_rfl
theorem TF.slc_30 : slcB PG 30 = some (32, 3, 24) := by kernel_rfl
theorem TF.sz_160 : szB PG 160 = some 2 := by kernel_rfl
theorem TF.sz_163 : szB PG 163 = some 2 := by kernel_rfl
theorem TF.sz_25 : szB PG 25 = some 1 := by kernel_rfl
theorem TF.sz_26 : szB PG 26 = some 1 := by kernel_rfl
theorem TF.sz_27 : szB PG 27 = some 1 := by kernel_rfl
theorem TF.sz_3 : szB PG 3 = some 1 := by kernel_rfl
theorem TF.sz_32 : szB PG 32 = some 3 := by kernel_rfl
theorem TF.sz_33 : szB PG 33 = some 4 := by kernel_rfl
theorem TF.sz_35 : szB PG 35 = some 7 := by kernel_rfl
theorem TF.sz_42 : szB PG 42 = some 4 := by kernel_rfl
theorem TF.zero_160 : zeroB PG 160 = some [(Value.int .i64 (0)), (Value.int .i64 (0))] := by kernel_rfl
theorem TF.zero_163 : zeroB PG 163 = some [(Value.int .i64 (0)), (Value.int .u8 (0))] := by kernel_rfl
theorem TF.zero_25 : zeroB PG 25 = some [(Value.slice none 0 0)] := by kernel_rfl
theorem TF.zero_27 : zeroB PG 27 = some [(Value.slice none 0 0)] := by kernel_rfl
theorem TF.zero_29 : zeroB PG 29 = some [(Value.slice none 0 0), (Value.slice none 0 0), (Value.slice none 0 0), (Value.slice none 0 0)] := by kernel_rfl
theorem TF.zero_3 : zeroB PG 3 = some [(Value.int .i64 (0))] := by kernel_rfl
theorem TF.zero_32 : zeroB PG 32 = some [(Value.int .i64 (0)), (Value.int .i64 (0)), (Value.int .i64 (0))] := by kernel_rfl
theorem TF.zero_33 : zeroB PG 33 = some [(Value.int .i64 (0)), (Value.int .i64 (0)), (Value.int .i64 (0)), (Value.int .i64 (0))] := by kernel_rfl
theorem TF.zero_35 : zeroB PG 35 = some [(Value.int .i64 (0)), (Value.int .i64 (0)), (Value.int .i64 (0)), (Value.int .i64 (0)), (Value.int .i64 (0)), (Value.int .i64 (0)), (Value.int .i64 (0))] := by kernel_rfl
theorem TF.zero_42 : zeroB PG 42 = some [(Value.int .i64 (0)), (Value.int .i64 (0)), (Value.int .i64 (0)), (Value.int .i64 (0))] := by kernel_rfl
abbrev FN.countermandlaw16_ActsDoes : FuncId := 3
abbrev FN.countermandlaw16_alive : FuncId := 15
abbrev FN.countermandlaw16_does : FuncId := 16
abbrev FN.countermandlaw16_good : FuncId := 17
abbrev FN.countermandref16_First : FuncId := 18
abbrev FN.countermandlaw16_opens : FuncId := 19
abbrev FN.acts_Acts_Back : FuncId := 20
abbrev FN.countermandref16_Undo : FuncId := 21
abbrev FN.countermandlaw16_outs : FuncId := 22
abbrev FN.acts_Acts_Flush : FuncId := 23
abbrev FN.countermandref16_Of : FuncId := 24
abbrev FN.acts_Acts_Notes : FuncId := 25
abbrev FN.acts_Acts_Mark : FuncId := 26
abbrev FN.countermandref16_Count : FuncId := 27
abbrev FN.acts_Acts_Output : FuncId := 28
abbrev FN.acts_Acts_Undo : FuncId := 29
abbrev FN.acts_Acts_Send : FuncId := 30
abbrev FN.acts_Acts_Later : FuncId := 31
abbrev FN.acts_Acts_Note : FuncId := 32
abbrev FN.acts_Acts_Opened : FuncId := 33
abbrev FN.acts_first_acts_Out : FuncId := 83
abbrev FN.acts_first_int : FuncId := 84
abbrev FN.acts_first_acts_Open : FuncId := 85
abbrev FN.acts_undo : FuncId := 86
abbrev FN.slices_Clone_s_int_int : FuncId := 87
abbrev FN.slices_Concat_s_acts_Out_acts_Out : FuncId := 88
abbrev FN.slices_Backward_s_acts_Open_acts_Open : FuncId := 130
abbrev FN.slices_Grow_s_acts_Out_acts_Out : FuncId := 131
abbrev FN.slices_Backward_s_acts_Open_acts_Open_1 : FuncId := 158
theorem TG.countermandlaw16_ActsDoes : Goes PG FN.countermandlaw16_ActsDoes := TF.goes_3
theorem TG.countermandlaw16_alive : Goes PG FN.countermandlaw16_alive := TF.goes_15
theorem TG.countermandlaw16_does : Goes PG FN.countermandlaw16_does := TF.goes_16
theorem TG.countermandlaw16_good : Goes PG FN.countermandlaw16_good := TF.goes_17
theorem TG.countermandref16_First : Goes PG FN.countermandref16_First := TF.goes_18
theorem TG.countermandlaw16_opens : Goes PG FN.countermandlaw16_opens := TF.goes_19
theorem TG.acts_Acts_Back : Goes PG FN.acts_Acts_Back := TF.goes_20
theorem TG.countermandref16_Undo : Goes PG FN.countermandref16_Undo := TF.goes_21
theorem TG.countermandlaw16_outs : Goes PG FN.countermandlaw16_outs := TF.goes_22
theorem TG.acts_Acts_Flush : Goes PG FN.acts_Acts_Flush := TF.goes_23
theorem TG.countermandref16_Of : Goes PG FN.countermandref16_Of := TF.goes_24
theorem TG.acts_Acts_Notes : Goes PG FN.acts_Acts_Notes := TF.goes_25
theorem TG.acts_Acts_Mark : Goes PG FN.acts_Acts_Mark := TF.goes_26
theorem TG.countermandref16_Count : Goes PG FN.countermandref16_Count := TF.goes_27
theorem TG.acts_Acts_Output : Goes PG FN.acts_Acts_Output := TF.goes_28
theorem TG.acts_Acts_Undo : Goes PG FN.acts_Acts_Undo := TF.goes_29
theorem TG.acts_Acts_Send : Goes PG FN.acts_Acts_Send := TF.goes_30
theorem TG.acts_Acts_Later : Goes PG FN.acts_Acts_Later := TF.goes_31
theorem TG.acts_Acts_Note : Goes PG FN.acts_Acts_Note := TF.goes_32
theorem TG.acts_Acts_Opened : Goes PG FN.acts_Acts_Opened := TF.goes_33
theorem TG.acts_first_acts_Out : Goes PG FN.acts_first_acts_Out := TF.goes_83
theorem TG.acts_first_int : Goes PG FN.acts_first_int := TF.goes_84
theorem TG.acts_first_acts_Open : Goes PG FN.acts_first_acts_Open := TF.goes_85
theorem TG.acts_undo : Goes PG FN.acts_undo := TF.goes_86
theorem TG.slices_Clone_s_int_int : Goes PG FN.slices_Clone_s_int_int := TF.goes_87
theorem TG.slices_Concat_s_acts_Out_acts_Out : Goes PG FN.slices_Concat_s_acts_Out_acts_Out := TF.goes_88
theorem TG.slices_Backward_s_acts_Open_acts_Open : Goes PG FN.slices_Backward_s_acts_Open_acts_Open := TF.goes_130
theorem TG.slices_Grow_s_acts_Out_acts_Out : Goes PG FN.slices_Grow_s_acts_Out_acts_Out := TF.goes_131
theorem TG.slices_Backward_s_acts_Open_acts_Open_1 : Goes PG FN.slices_Backward_s_acts_Open_acts_Open_1 := TF.goes_158
def C_countermandlaw16_ActsDoes (B : RO) (a1 : Option Addr) (n2 : Nat) (c3 : Nat) (h : Heap) (Q : Bool → Heap → Prop) : Prop :=
  Spec PG B 3 #[(Value.slice a1 n2 c3)] h (fun v h' => ∃ b4 : Bool, v = (Value.bool b4) ∧ Q b4 h')
def C_countermandlaw16_alive (B : RO) (h : Heap) (Q : Bool → Heap → Prop) : Prop :=
  Spec PG B 15 #[] h (fun v h' => ∃ b1 : Bool, v = (Value.bool b1) ∧ Q b1 h')
def C_countermandlaw16_does (B : RO) (p1 : Option Addr) (i2 : Int) (i3 : Int) (i4 : Int) (h : Heap) (Q : Bool → Heap → Prop) : Prop :=
  Spec PG B 16 #[(Value.pointer p1), (Value.agg #[(Value.int .i64 (i2)), (Value.int .i64 (i3)), (Value.int .i64 (i4))])] h (fun v h' => ∃ b5 : Bool, v = (Value.bool b5) ∧ Q b5 h')
def C_countermandlaw16_good (B : RO) (i1 : Int) (i2 : Int) (i3 : Int) (h : Heap) (Q : Bool → Heap → Prop) : Prop :=
  Spec PG B 17 #[(Value.agg #[(Value.int .i64 (i1)), (Value.int .i64 (i2)), (Value.int .i64 (i3))])] h (fun v h' => ∃ b4 : Bool, v = (Value.bool b4) ∧ Q b4 h')
def C_countermandref16_First (B : RO) (a1 : Option Addr) (n2 : Nat) (c3 : Nat) (i4 : Int) (i5 : Int) (i6 : Int) (i7 : Int) (h : Heap) (Q : Option Addr → Nat → Nat → Option Addr → Nat → Nat → Heap → Prop) : Prop :=
  Spec PG B 18 #[(Value.slice a1 n2 c3), (Value.agg #[(Value.int .i64 (i4)), (Value.int .i64 (i5)), (Value.int .i64 (i6)), (Value.int .i64 (i7))])] h (fun v h' => ∃ a8 : Option Addr, ∃ n9 : Nat, ∃ c10 : Nat, ∃ a11 : Option Addr, ∃ n12 : Nat, ∃ c13 : Nat, v = Value.tuple #[(Value.slice a8 n9 c10), (Value.slice a11 n12 c13)] ∧ Q a8 n9 c10 a11 n12 c13 h')
def C_countermandlaw16_opens (B : RO) (a1 : Option Addr) (n2 : Nat) (c3 : Nat) (a4 : Option Addr) (n5 : Nat) (c6 : Nat) (h : Heap) (Q : Bool → Heap → Prop) : Prop :=
  Spec PG B 19 #[(Value.slice a1 n2 c3), (Value.slice a4 n5 c6)] h (fun v h' => ∃ b7 : Bool, v = (Value.bool b7) ∧ Q b7 h')
def C_acts_Acts_Back (B : RO) (p1 : Option Addr) (i2 : Int) (i3 : Int) (i4 : Int) (i5 : Int) (h : Heap) (Q : Option Addr → Nat → Nat → Heap → Prop) : Prop :=
  Spec PG B 20 #[(Value.pointer p1), (Value.agg #[(Value.int .i64 (i2)), (Value.int .i64 (i3)), (Value.int .i64 (i4)), (Value.int .i64 (i5))])] h (fun v h' => ∃ a6 : Option Addr, ∃ n7 : Nat, ∃ c8 : Nat, v = (Value.slice a6 n7 c8) ∧ Q a6 n7 c8 h')
def C_countermandref16_Undo (B : RO) (a1 : Option Addr) (n2 : Nat) (c3 : Nat) (h : Heap) (Q : Option Addr → Nat → Nat → Heap → Prop) : Prop :=
  Spec PG B 21 #[(Value.slice a1 n2 c3)] h (fun v h' => ∃ a4 : Option Addr, ∃ n5 : Nat, ∃ c6 : Nat, v = (Value.slice a4 n5 c6) ∧ Q a4 n5 c6 h')
def C_countermandlaw16_outs (B : RO) (a1 : Option Addr) (n2 : Nat) (c3 : Nat) (a4 : Option Addr) (n5 : Nat) (c6 : Nat) (h : Heap) (Q : Bool → Heap → Prop) : Prop :=
  Spec PG B 22 #[(Value.slice a1 n2 c3), (Value.slice a4 n5 c6)] h (fun v h' => ∃ b7 : Bool, v = (Value.bool b7) ∧ Q b7 h')
def C_acts_Acts_Flush (B : RO) (p1 : Option Addr) (h : Heap) (Q : Option Addr → Nat → Nat → Heap → Prop) : Prop :=
  Spec PG B 23 #[(Value.pointer p1)] h (fun v h' => ∃ a2 : Option Addr, ∃ n3 : Nat, ∃ c4 : Nat, v = (Value.slice a2 n3 c4) ∧ Q a2 n3 c4 h')
def C_countermandref16_Of (B : RO) (a1 : Option Addr) (n2 : Nat) (c3 : Nat) (i4 : Int) (h : Heap) (Q : Option Addr → Nat → Nat → Heap → Prop) : Prop :=
  Spec PG B 24 #[(Value.slice a1 n2 c3), (Value.int .i64 (i4))] h (fun v h' => ∃ a5 : Option Addr, ∃ n6 : Nat, ∃ c7 : Nat, v = (Value.slice a5 n6 c7) ∧ Q a5 n6 c7 h')
def C_acts_Acts_Notes (B : RO) (p1 : Option Addr) (h : Heap) (Q : Option Addr → Nat → Nat → Heap → Prop) : Prop :=
  Spec PG B 25 #[(Value.pointer p1)] h (fun v h' => ∃ a2 : Option Addr, ∃ n3 : Nat, ∃ c4 : Nat, v = (Value.slice a2 n3 c4) ∧ Q a2 n3 c4 h')
def C_acts_Acts_Mark (B : RO) (p1 : Option Addr) (h : Heap) (Q : Int → Int → Int → Int → Heap → Prop) : Prop :=
  Spec PG B 26 #[(Value.pointer p1)] h (fun v h' => ∃ i2 : Int, ∃ i3 : Int, ∃ i4 : Int, ∃ i5 : Int, v = (Value.agg #[(Value.int .i64 (i2)), (Value.int .i64 (i3)), (Value.int .i64 (i4)), (Value.int .i64 (i5))]) ∧ Q i2 i3 i4 i5 h')
def C_countermandref16_Count (B : RO) (a1 : Option Addr) (n2 : Nat) (c3 : Nat) (h : Heap) (Q : Int → Int → Int → Int → Heap → Prop) : Prop :=
  Spec PG B 27 #[(Value.slice a1 n2 c3)] h (fun v h' => ∃ i4 : Int, ∃ i5 : Int, ∃ i6 : Int, ∃ i7 : Int, v = (Value.agg #[(Value.int .i64 (i4)), (Value.int .i64 (i5)), (Value.int .i64 (i6)), (Value.int .i64 (i7))]) ∧ Q i4 i5 i6 i7 h')
def C_acts_Acts_Output (B : RO) (p1 : Option Addr) (h : Heap) (Q : Option Addr → Nat → Nat → Heap → Prop) : Prop :=
  Spec PG B 28 #[(Value.pointer p1)] h (fun v h' => ∃ a2 : Option Addr, ∃ n3 : Nat, ∃ c4 : Nat, v = (Value.slice a2 n3 c4) ∧ Q a2 n3 c4 h')
def C_acts_Acts_Undo (B : RO) (p1 : Option Addr) (h : Heap) (Q : Option Addr → Nat → Nat → Heap → Prop) : Prop :=
  Spec PG B 29 #[(Value.pointer p1)] h (fun v h' => ∃ a2 : Option Addr, ∃ n3 : Nat, ∃ c4 : Nat, v = (Value.slice a2 n3 c4) ∧ Q a2 n3 c4 h')
def C_acts_Acts_Send (B : RO) (p1 : Option Addr) (i2 : Int) (i3 : Int) (h : Heap) (Q : Bool → Heap → Prop) : Prop :=
  Spec PG B 30 #[(Value.pointer p1), (Value.int .i64 (i2)), (Value.int .u8 (i3))] h (fun v h' => ∃ b4 : Bool, v = (Value.bool b4) ∧ Q b4 h')
def C_acts_Acts_Later (B : RO) (p1 : Option Addr) (i2 : Int) (i3 : Int) (h : Heap) (Q : Bool → Heap → Prop) : Prop :=
  Spec PG B 31 #[(Value.pointer p1), (Value.int .i64 (i2)), (Value.int .u8 (i3))] h (fun v h' => ∃ b4 : Bool, v = (Value.bool b4) ∧ Q b4 h')
def C_acts_Acts_Note (B : RO) (p1 : Option Addr) (i2 : Int) (h : Heap) (Q : Bool → Heap → Prop) : Prop :=
  Spec PG B 32 #[(Value.pointer p1), (Value.int .i64 (i2))] h (fun v h' => ∃ b3 : Bool, v = (Value.bool b3) ∧ Q b3 h')
def C_acts_Acts_Opened (B : RO) (p1 : Option Addr) (i2 : Int) (i3 : Int) (h : Heap) (Q : Bool → Heap → Prop) : Prop :=
  Spec PG B 33 #[(Value.pointer p1), (Value.int .i64 (i2)), (Value.int .i64 (i3))] h (fun v h' => ∃ b4 : Bool, v = (Value.bool b4) ∧ Q b4 h')
def C_acts_first_acts_Out (B : RO) (a1 : Option Addr) (n2 : Nat) (c3 : Nat) (i4 : Int) (h : Heap) (Q : Option Addr → Nat → Nat → Heap → Prop) : Prop :=
  Spec PG B 83 #[(Value.slice a1 n2 c3), (Value.int .i64 (i4))] h (fun v h' => ∃ a5 : Option Addr, ∃ n6 : Nat, ∃ c7 : Nat, v = (Value.slice a5 n6 c7) ∧ Q a5 n6 c7 h')
def C_acts_first_int (B : RO) (a1 : Option Addr) (n2 : Nat) (c3 : Nat) (i4 : Int) (h : Heap) (Q : Option Addr → Nat → Nat → Heap → Prop) : Prop :=
  Spec PG B 84 #[(Value.slice a1 n2 c3), (Value.int .i64 (i4))] h (fun v h' => ∃ a5 : Option Addr, ∃ n6 : Nat, ∃ c7 : Nat, v = (Value.slice a5 n6 c7) ∧ Q a5 n6 c7 h')
def C_acts_first_acts_Open (B : RO) (a1 : Option Addr) (n2 : Nat) (c3 : Nat) (i4 : Int) (h : Heap) (Q : Option Addr → Nat → Nat → Heap → Prop) : Prop :=
  Spec PG B 85 #[(Value.slice a1 n2 c3), (Value.int .i64 (i4))] h (fun v h' => ∃ a5 : Option Addr, ∃ n6 : Nat, ∃ c7 : Nat, v = (Value.slice a5 n6 c7) ∧ Q a5 n6 c7 h')
def C_acts_undo (B : RO) (a1 : Option Addr) (n2 : Nat) (c3 : Nat) (h : Heap) (Q : Option Addr → Nat → Nat → Heap → Prop) : Prop :=
  Spec PG B 86 #[(Value.slice a1 n2 c3)] h (fun v h' => ∃ a4 : Option Addr, ∃ n5 : Nat, ∃ c6 : Nat, v = (Value.slice a4 n5 c6) ∧ Q a4 n5 c6 h')
def C_slices_Clone_s_int_int (B : RO) (a1 : Option Addr) (n2 : Nat) (c3 : Nat) (h : Heap) (Q : Option Addr → Nat → Nat → Heap → Prop) : Prop :=
  Spec PG B 87 #[(Value.slice a1 n2 c3)] h (fun v h' => ∃ a4 : Option Addr, ∃ n5 : Nat, ∃ c6 : Nat, v = (Value.slice a4 n5 c6) ∧ Q a4 n5 c6 h')
def C_slices_Concat_s_acts_Out_acts_Out (B : RO) (a1 : Option Addr) (n2 : Nat) (c3 : Nat) (h : Heap) (Q : Option Addr → Nat → Nat → Heap → Prop) : Prop :=
  Spec PG B 88 #[(Value.slice a1 n2 c3)] h (fun v h' => ∃ a4 : Option Addr, ∃ n5 : Nat, ∃ c6 : Nat, v = (Value.slice a4 n5 c6) ∧ Q a4 n5 c6 h')
def C_slices_Backward_s_acts_Open_acts_Open (B : RO) (a1 : Option Addr) (n2 : Nat) (c3 : Nat) (h : Heap) (Q : Value → Heap → Prop) : Prop :=
  Spec PG B 130 #[(Value.slice a1 n2 c3)] h (fun v h' => ∃ v4 : Value, v = v4 ∧ Q v4 h')
def C_slices_Grow_s_acts_Out_acts_Out (B : RO) (a1 : Option Addr) (n2 : Nat) (c3 : Nat) (i4 : Int) (h : Heap) (Q : Option Addr → Nat → Nat → Heap → Prop) : Prop :=
  Spec PG B 131 #[(Value.slice a1 n2 c3), (Value.int .i64 (i4))] h (fun v h' => ∃ a5 : Option Addr, ∃ n6 : Nat, ∃ c7 : Nat, v = (Value.slice a5 n6 c7) ∧ Q a5 n6 c7 h')
def C_slices_Backward_s_acts_Open_acts_Open_1 (B : RO) (v1 : Value) (A2 : Addr) (h : Heap) (Q : Heap → Prop) : Prop :=
  Spec PG B 158 #[v1, (Value.pointer (some A2))] h (fun v h' => v = Value.tuple #[] ∧ Q  h')
end Go.Proofs.Ythloobpjkeodgaa.H
