/- Calls and facts. No condition. -/
import Derived.Test.YtoajfmmomgpjcaaHs
import Derived.Test.YtoajfmmomgpjcaaProg
import Derived.KernelRfl
namespace Go.Proofs.Ytoajfmmomgpjcaa.H
open Go
set_option linter.unusedVariables false
set_option maxRecDepth 100000

noncomputable abbrev PG : Program := Go.Proofs.Try.prog
abbrev TY.int64 : TypeId := 2
abbrev TY.int : TypeId := 3
abbrev TY.bool : TypeId := 4
abbrev TY.uint8 : TypeId := 5
abbrev TY.abi_BoundsErrorCode : TypeId := 6
abbrev TY.runtime_boundsError : TypeId := 8
abbrev TY.string : TypeId := 9
abbrev TY.runtime_errorString : TypeId := 10
abbrev TY.runtime_plainError : TypeId := 11
abbrev TY.uintptr : TypeId := 12
abbrev TY.runtime_errorAddressString : TypeId := 14
abbrev TY.p_runtime_TypeAssertionError : TypeId := 15
abbrev TY.p_runtime_PanicNilError : TypeId := 16
abbrev TY.p_abi_Type : TypeId := 17
abbrev TY.maps_unhashableTypeError : TypeId := 19
abbrev TY.int32 : TypeId := 21
abbrev TY.s_countermandlaw01_Ask : TypeId := 22
abbrev TY.p_stylus_Reader : TypeId := 24
abbrev TY.countermandlaw01_Ask : TypeId := 27
abbrev TY.uint64 : TypeId := 28
abbrev TY.s_string : TypeId := 36
abbrev TY.p_stylus_Stylus : TypeId := 37
abbrev TY.s_uint8 : TypeId := 38
abbrev TY.stylus_Stylus : TypeId := 40
abbrev TY.uint : TypeId := 43
abbrev TY.s_countermandlaw01_Item : TypeId := 45
abbrev TY.countermandlaw01_Item : TypeId := 50
abbrev TY.s_countermandlaw10_Set : TypeId := 51
abbrev TY.file_File : TypeId := 54
abbrev TY.countermandlaw10_Set : TypeId := 56
abbrev TY.p_tome_Tome : TypeId := 57
abbrev TY.p_countermandref10_Tome : TypeId := 62
abbrev TY.countermandref09_File : TypeId := 63
abbrev TY.a_6_countermandref09_File : TypeId := 64
abbrev TY.a_6_int : TypeId := 65
abbrev TY.countermandref10_Tome : TypeId := 67
abbrev TY.iter_Seq2_int_file_File : TypeId := 72
abbrev TY.s_countermandref16_Act : TypeId := 81
abbrev TY.p_acts_Acts : TypeId := 82
abbrev TY.s_acts_Out : TypeId := 83
abbrev TY.s_int : TypeId := 84
abbrev TY.s_acts_Open : TypeId := 85
abbrev TY.acts_Acts : TypeId := 87
abbrev TY.countermandref16_Act : TypeId := 89
abbrev TY.a_4_int : TypeId := 91
abbrev TY.acts_Mark : TypeId := 92
abbrev TY.acts_Out : TypeId := 98
abbrev TY.acts_Open : TypeId := 100
abbrev TY.s_countermandlaw16_Step : TypeId := 102
abbrev TY.countermandlaw16_Step : TypeId := 104
abbrev TY.s_countermandref13_Put : TypeId := 118
abbrev TY.p_draft_Draft_int : TypeId := 119
abbrev TY.s_draft_entry_int : TypeId := 120
abbrev TY.draft_Draft_int : TypeId := 122
abbrev TY.iter_Seq2_int_int : TypeId := 127
abbrev TY.countermandref13_Put : TypeId := 132
abbrev TY.stylus_Reader : TypeId := 137
abbrev TY.p_cell_Row_file_File : TypeId := 142
abbrev TY.tome_Tome : TypeId := 145
abbrev TY.s_countermandref09_File : TypeId := 148
abbrev TY.p_draft_Draft_string : TypeId := 155
abbrev TY.s_draft_entry_string : TypeId := 156
abbrev TY.draft_Draft_string : TypeId := 158
abbrev TY.draft_entry_int : TypeId := 163
abbrev TY.s_cell_slot_file_File : TypeId := 166
abbrev TY.cell_Row_file_File : TypeId := 168
abbrev TY.cell_slot_file_File : TypeId := 170
abbrev TY.iter_Seq2_int_acts_Open : TypeId := 172
abbrev TY.s_s_acts_Out : TypeId := 174
abbrev TY.draft_entry_string : TypeId := 176
abbrev TY.runtime_TypeAssertionError : TypeId := 190
abbrev TY.a_0_p_runtime_PanicNilError : TypeId := 191
abbrev TY.runtime_PanicNilError : TypeId := 193
abbrev TY.uint32 : TypeId := 194
abbrev TY.abi_TFlag : TypeId := 195
abbrev TY.abi_Kind : TypeId := 196
abbrev TY.p_uint8 : TypeId := 198
abbrev TY.abi_NameOff : TypeId := 199
abbrev TY.abi_TypeOff : TypeId := 200
abbrev TY.abi_Type : TypeId := 202
abbrev TY.iter_Seq2_int_string : TypeId := 207
theorem TF.agg_142 : aggB PG 142 = some false := by kernel_rfl
theorem TF.agg_147 : aggB PG 147 = some false := by kernel_rfl
theorem TF.agg_166 : aggB PG 166 = some false := by kernel_rfl
theorem TF.agg_170 : aggB PG 170 = some true := by kernel_rfl
theorem TF.agg_3 : aggB PG 3 = some false := by kernel_rfl
theorem TF.agg_37 : aggB PG 37 = some false := by kernel_rfl
theorem TF.agg_38 : aggB PG 38 = some false := by kernel_rfl
theorem TF.agg_4 : aggB PG 4 = some false := by kernel_rfl
theorem TF.agg_54 : aggB PG 54 = some true := by kernel_rfl
theorem TF.agg_56 : aggB PG 56 = some true := by kernel_rfl
theorem TF.agg_57 : aggB PG 57 = some false := by kernel_rfl
theorem TF.agg_62 : aggB PG 62 = some false := by kernel_rfl
theorem TF.agg_63 : aggB PG 63 = some true := by kernel_rfl
theorem TF.agg_64 : aggB PG 64 = some true := by kernel_rfl
theorem TF.agg_9 : aggB PG 9 = some false := by kernel_rfl
theorem TF.arr_64 : arrB PG 64 = some (6, 63, 2, true) := by kernel_rfl
theorem TF.arr_65 : arrB PG 65 = some (6, 3, 1, false) := by kernel_rfl
theorem TF.bool_4 : boolT PG 4 = true := by kernel_rfl
theorem TF.eqg_54 : eqGB PG 54 = false := by kernel_rfl
theorem TF.eqg_63 : eqGB PG 63 = false := by kernel_rfl
theorem TF.eqg_64 : eqGB PG 64 = false := by kernel_rfl
theorem TF.flat_54 : flat6B PG 54 = some [.bool, .str] := by kernel_rfl
theorem TF.flat_63 : flat6B PG 63 = some [.bool, .str] := by kernel_rfl
theorem TF.flat_64 : flat6B PG 64 = some [.bool, .str, .bool, .str, .bool, .str, .bool, .str, .bool, .str, .bool, .str] := by kernel_rfl
theorem TF.fld_137_0 : fldB PG 137 0 = some 0 := by kernel_rfl
theorem TF.fld_137_1 : fldB PG 137 1 = some 1 := by kernel_rfl
theorem TF.fld_145_0 : fldB PG 145 0 = some 0 := by kernel_rfl
theorem TF.fld_168_0 : fldB PG 168 0 = some 0 := by kernel_rfl
theorem TF.fld_170_0 : fldB PG 170 0 = some 0 := by kernel_rfl
theorem TF.fld_170_1 : fldB PG 170 1 = some 2 := by kernel_rfl
theorem TF.fld_40_0 : fldB PG 40 0 = some 0 := by kernel_rfl
theorem TF.fld_54_0 : fldB PG 54 0 = some 0 := by kernel_rfl
theorem TF.fld_54_1 : fldB PG 54 1 = some 1 := by kernel_rfl
theorem TF.fld_56_0 : fldB PG 56 0 = some 0 := by kernel_rfl
theorem TF.fld_56_1 : fldB PG 56 1 = some 1 := by kernel_rfl
theorem TF.fld_56_2 : fldB PG 56 2 = some 3 := by kernel_rfl
theorem TF.fld_63_0 : fldB PG 63 0 = some 0 := by kernel_rfl
theorem TF.fld_63_1 : fldB PG 63 1 = some 1 := by kernel_rfl
theorem TF.fld_67_0 : fldB PG 67 0 = some 0 := by kernel_rfl
theorem TF.fld_67_1 : fldB PG 67 1 = some 12 := by kernel_rfl
theorem TF.goes_16 : Goes PG 16 := ⟨Try.f16, Try.func16, by kernel_rfl, by kernel_rfl⟩
theorem TF.goes_17 : Goes PG 17 := ⟨Try.f17, Try.func17, by kernel_rfl, by kernel_rfl⟩
theorem TF.goes_18 : Goes PG 18 := ⟨Try.f18, Try.func18, by kernel_rfl, by kernel_rfl⟩
theorem TF.goes_21 : Goes PG 21 := ⟨Try.f21, Try.func21, by kernel_rfl, by kernel_rfl⟩
theorem TF.goes_22 : Goes PG 22 := ⟨Try.f22, Try.func22, by kernel_rfl, by kernel_rfl⟩
theorem TF.goes_23 : Goes PG 23 := ⟨Try.f23, Try.func23, by kernel_rfl, by kernel_rfl⟩
theorem TF.goes_24 : Goes PG 24 := ⟨Try.f24, Try.func24, by kernel_rfl, by kernel_rfl⟩
theorem TF.goes_26 : Goes PG 26 := ⟨Try.f26, Try.func26, by kernel_rfl, by kernel_rfl⟩
theorem TF.goes_27 : Goes PG 27 := ⟨Try.f27, Try.func27, by kernel_rfl, by kernel_rfl⟩
theorem TF.goes_28 : Goes PG 28 := ⟨Try.f28, Try.func28, by kernel_rfl, by kernel_rfl⟩
theorem TF.goes_31 : Goes PG 31 := ⟨Try.f31, Try.func31, by kernel_rfl, by kernel_rfl⟩
theorem TF.goes_32 : Goes PG 32 := ⟨Try.f32, Try.func32, by kernel_rfl, by kernel_rfl⟩
theorem TF.goes_33 : Goes PG 33 := ⟨Try.f33, Try.func33, by kernel_rfl, by kernel_rfl⟩
theorem TF.goes_34 : Goes PG 34 := ⟨Try.f34, Try.func34, by kernel_rfl, by kernel_rfl⟩
theorem TF.goes_35 : Goes PG 35 := ⟨Try.f35, Try.func35, by kernel_rfl, by kernel_rfl⟩
theorem TF.goes_36 : Goes PG 36 := ⟨Try.f36, Try.func36, by kernel_rfl, by kernel_rfl⟩
theorem TF.goes_37 : Goes PG 37 := ⟨Try.f37, Try.func37, by kernel_rfl, by kernel_rfl⟩
theorem TF.goes_38 : Goes PG 38 := ⟨Try.f38, Try.func38, by kernel_rfl, by kernel_rfl⟩
theorem TF.goes_39 : Goes PG 39 := ⟨Try.f39, Try.func39, by kernel_rfl, by kernel_rfl⟩
theorem TF.goes_40 : Goes PG 40 := ⟨Try.f40, Try.func40, by kernel_rfl, by kernel_rfl⟩
theorem TF.goes_41 : Goes PG 41 := ⟨Try.f41, Try.func41, by kernel_rfl, by kernel_rfl⟩
theorem TF.goes_42 : Goes PG 42 := ⟨Try.f42, Try.func42, by kernel_rfl, by kernel_rfl⟩
theorem TF.goes_6 : Goes PG 6 := ⟨Try.f6, Try.func6, by kernel_rfl, by kernel_rfl⟩
theorem TF.goes_7 : Goes PG 7 := ⟨Try.f7, Try.func7, by kernel_rfl, by kernel_rfl⟩
theorem TF.goes_70 : Goes PG 70 := ⟨Try.f70, Try.func70, by kernel_rfl, by kernel_rfl⟩
theorem TF.goes_72 : Goes PG 72 := ⟨Try.f72, Try.func72, by kernel_rfl, by kernel_rfl⟩
theorem TF.goes_73 : Goes PG 73 := ⟨Try.f73, Try.func73, by kernel_rfl, by kernel_rfl⟩
theorem TF.goes_74 : Goes PG 74 := ⟨Try.f74, Try.func74, by kernel_rfl, by kernel_rfl⟩
theorem TF.goes_75 : Goes PG 75 := ⟨Try.f75, Try.func75, by kernel_rfl, by kernel_rfl⟩
theorem TF.goes_77 : Goes PG 77 := ⟨Try.f77, Try.func77, by kernel_rfl, by kernel_rfl⟩
theorem TF.goes_78 : Goes PG 78 := ⟨Try.f78, Try.func78, by kernel_rfl, by kernel_rfl⟩
theorem TF.goes_79 : Goes PG 79 := ⟨Try.f79, Try.func79, by kernel_rfl, by kernel_rfl⟩
theorem TF.goes_8 : Goes PG 8 := ⟨Try.f8, Try.func8, by kernel_rfl, by kernel_rfl⟩
theorem TF.goes_80 : Goes PG 80 := ⟨Try.f80, Try.func80, by kernel_rfl, by kernel_rfl⟩
theorem TF.goes_81 : Goes PG 81 := ⟨Try.f81, Try.func81, by kernel_rfl, by kernel_rfl⟩
theorem TF.goes_82 : Goes PG 82 := ⟨Try.f82, Try.func82, by kernel_rfl, by kernel_rfl⟩
theorem TF.goes_83 : Goes PG 83 := ⟨Try.f83, Try.func83, by kernel_rfl, by kernel_rfl⟩
theorem TF.goes_9 : Goes PG 9 := ⟨Try.f9, Try.func9, by kernel_rfl, by kernel_rfl⟩
theorem TF.goes_97 : Goes PG 97 := ⟨Try.f97, Try.func97, by kernel_rfl, by kernel_rfl⟩
theorem TF.goes_98 : Goes PG 98 := ⟨Try.f98, Try.func98, by kernel_rfl, by kernel_rfl⟩
theorem TF.int_28 : intB PG 28 = some .u64 := by kernel_rfl
theorem TF.int_3 : intB PG 3 = some .i64 := by kernel_rfl
theorem TF.int_5 : intB PG 5 = some .u8 := by kernel_rfl
theorem TF.isStr_9 : isStr PG 9 = true := by kernel_rfl
theorem TF.mixed : PG.follows .mixedOrders = true := by kernel_rfl
theorem TF.places_137 : strPlaces PG 137 = some [(0, 1), (1, 1)] := by kernel_rfl
theorem TF.places_145 : strPlaces PG 145 = some [(0, 1)] := by kernel_rfl
theorem TF.places_168 : strPlaces PG 168 = some [(0, 1)] := by kernel_rfl
theorem TF.places_170 : strPlaces PG 170 = some [(0, 2), (2, 1)] := by kernel_rfl
theorem TF.places_40 : strPlaces PG 40 = some [(0, 1)] := by kernel_rfl
theorem TF.places_54 : strPlaces PG 54 = some [(0, 1), (1, 1)] := by kernel_rfl
theorem TF.places_63 : strPlaces PG 63 = some [(0, 1), (1, 1)] := by kernel_rfl
theorem TF.places_67 : strPlaces PG 67 = some [(0, 12), (12, 6)] := by kernel_rfl
theorem TF.ptr_142 : ptrB PG 142 = true := by kernel_rfl
theorem TF.ptr_24 : ptrB PG 24 = true := by kernel_rfl
theorem TF.ptr_57 : ptrB PG 57 = true := by kernel_rfl
theorem TF.sl_148 : slT PG 148 = true := by kernel_rfl
theorem TF.sl_166 : slT PG 166 = true := by kernel_rfl
theorem TF.sl_36 : slT PG 36 = true := by kernel_rfl
theorem TF.sl_51 : slT PG 51 = true := by kernel_rfl
theorem TF.sl_84 : slT PG 84 = true := by kernel_rfl
theorem TF.slc_148 : slcB PG 148 = some (63, 2, 24) := by kernel_rfl
theorem TF.slc_166 : slcB PG 166 = some (170, 3, 32) := by kernel_rfl
theorem TF.slc_36 : slcB PG 36 = some (9, 1, 16) := by kernel_rfl
theorem TF.slc_38 : slcB PG 38 = some (5, 1, 1) := by kernel_rfl
theorem TF.slc_51 : slcB PG 51 = some (56, 4, 40) := by kernel_rfl
theorem TF.slc_84 : slcB PG 84 = some (3, 1, 8) := by kernel_rfl
theorem TF.sz_166 : szB PG 166 = some 1 := by kernel_rfl
theorem TF.sz_170 : szB PG 170 = some 3 := by kernel_rfl
theorem TF.sz_3 : szB PG 3 = some 1 := by kernel_rfl
theorem TF.sz_37 : szB PG 37 = some 1 := by kernel_rfl
theorem TF.sz_38 : szB PG 38 = some 1 := by kernel_rfl
theorem TF.sz_4 : szB PG 4 = some 1 := by kernel_rfl
theorem TF.sz_54 : szB PG 54 = some 2 := by kernel_rfl
theorem TF.sz_56 : szB PG 56 = some 4 := by kernel_rfl
theorem TF.sz_62 : szB PG 62 = some 1 := by kernel_rfl
theorem TF.sz_63 : szB PG 63 = some 2 := by kernel_rfl
theorem TF.sz_64 : szB PG 64 = some 12 := by kernel_rfl
theorem TF.sz_9 : szB PG 9 = some 1 := by kernel_rfl
theorem TF.zero_137 : zeroB PG 137 = some [(Value.string ByteArray.empty), (Value.bool false)] := by kernel_rfl
theorem TF.zero_145 : zeroB PG 145 = some [(Value.pointer none)] := by kernel_rfl
theorem TF.zero_168 : zeroB PG 168 = some [(Value.slice none 0 0)] := by kernel_rfl
theorem TF.zero_170 : zeroB PG 170 = some [(Value.bool false), (Value.string ByteArray.empty), (Value.int .i64 (0))] := by kernel_rfl
theorem TF.zero_3 : zeroB PG 3 = some [(Value.int .i64 (0))] := by kernel_rfl
theorem TF.zero_37 : zeroB PG 37 = some [(Value.pointer none)] := by kernel_rfl
theorem TF.zero_4 : zeroB PG 4 = some [(Value.bool false)] := by kernel_rfl
theorem TF.zero_40 : zeroB PG 40 = some [(Value.slice none 0 0)] := by kernel_rfl
theorem TF.zero_5 : zeroB PG 5 = some [(Value.int .u8 (0))] := by kernel_rfl
theorem TF.zero_54 : zeroB PG 54 = some [(Value.bool false), (Value.string ByteArray.empty)] := by kernel_rfl
theorem TF.zero_56 : zeroB PG 56 = some [(Value.int .i64 (0)), (Value.bool false), (Value.string ByteArray.empty), (Value.int .i64 (0))] := by kernel_rfl
theorem TF.zero_62 : zeroB PG 62 = some [(Value.pointer none)] := by kernel_rfl
theorem TF.zero_63 : zeroB PG 63 = some [(Value.bool false), (Value.string ByteArray.empty)] := by kernel_rfl
theorem TF.zero_64 : zeroB PG 64 = some [(Value.bool false), (Value.string ByteArray.empty), (Value.bool false), (Value.string ByteArray.empty), (Value.bool false), (Value.string ByteArray.empty), (Value.bool false), (Value.string ByteArray.empty), (Value.bool false), (Value.string ByteArray.empty), (Value.bool false), (Value.string ByteArray.empty)] := by kernel_rfl
theorem TF.zero_67 : zeroB PG 67 = some [(Value.bool false), (Value.string ByteArray.empty), (Value.bool false), (Value.string ByteArray.empty), (Value.bool false), (Value.string ByteArray.empty), (Value.bool false), (Value.string ByteArray.empty), (Value.bool false), (Value.string ByteArray.empty), (Value.bool false), (Value.string ByteArray.empty), (Value.int .i64 (0)), (Value.int .i64 (0)), (Value.int .i64 (0)), (Value.int .i64 (0)), (Value.int .i64 (0)), (Value.int .i64 (0))] := by kernel_rfl
theorem TF.zero_9 : zeroB PG 9 = some [(Value.string ByteArray.empty)] := by kernel_rfl
abbrev FN.countermandlaw10_TomeApart : FuncId := 6
abbrev FN.countermandlaw10_TomeSets : FuncId := 7
abbrev FN.countermandlaw10_TomeReturns : FuncId := 8
abbrev FN.countermandlaw10_TomeReads : FuncId := 9
abbrev FN.stylus_Of : FuncId := 16
abbrev FN.countermandref01_Taken : FuncId := 17
abbrev FN.stylus_Reader_Nat : FuncId := 18
abbrev FN.stylus_Reader_Raw : FuncId := 21
abbrev FN.stylus_Reader_Text : FuncId := 22
abbrev FN.stylus_Reader_Bad : FuncId := 23
abbrev FN.stylus_Reader_Left : FuncId := 24
abbrev FN.stylus_Reader_Spoil : FuncId := 26
abbrev FN.stylus_Stylus_Text : FuncId := 27
abbrev FN.stylus_Stylus_Bytes : FuncId := 28
abbrev FN.countermandlaw10_alive : FuncId := 31
abbrev FN.countermandlaw10_great : FuncId := 32
abbrev FN.tome_New : FuncId := 33
abbrev FN.tome_Tome_Set : FuncId := 34
abbrev FN.tome_Same : FuncId := 35
abbrev FN.tome_Tome_Bytes : FuncId := 36
abbrev FN.countermandref10_Tome_Set : FuncId := 37
abbrev FN.tome_Tome_Get : FuncId := 38
abbrev FN.tome_Tome_All : FuncId := 39
abbrev FN.countermandref10_Bytes : FuncId := 40
abbrev FN.tome_Read : FuncId := 41
abbrev FN.countermandref10_Read : FuncId := 42
abbrev FN.stylus_Stylus_Nat : FuncId := 70
abbrev FN.countermandref01_Wide : FuncId := 72
abbrev FN.stylus_Reader_word : FuncId := 73
abbrev FN.stylus_Stylus_Raw : FuncId := 74
abbrev FN.countermandref01_Nat : FuncId := 75
abbrev FN.countermandref01_Text : FuncId := 77
abbrev FN.cell_New_file_File : FuncId := 78
abbrev FN.file_Good : FuncId := 79
abbrev FN.cell_Row_file_File_Set : FuncId := 80
abbrev FN.cell_Row_file_File_Get : FuncId := 81
abbrev FN.tome_Tome_All_1 : FuncId := 82
abbrev FN.cell_Row_file_File_All : FuncId := 83
abbrev FN.cell_Row_file_File_is : FuncId := 97
abbrev FN.cell_Row_file_File_All_1 : FuncId := 98
theorem TG.countermandlaw10_TomeApart : Goes PG FN.countermandlaw10_TomeApart := TF.goes_6
theorem TG.countermandlaw10_TomeSets : Goes PG FN.countermandlaw10_TomeSets := TF.goes_7
theorem TG.countermandlaw10_TomeReturns : Goes PG FN.countermandlaw10_TomeReturns := TF.goes_8
theorem TG.countermandlaw10_TomeReads : Goes PG FN.countermandlaw10_TomeReads := TF.goes_9
theorem TG.stylus_Of : Goes PG FN.stylus_Of := TF.goes_16
theorem TG.countermandref01_Taken : Goes PG FN.countermandref01_Taken := TF.goes_17
theorem TG.stylus_Reader_Nat : Goes PG FN.stylus_Reader_Nat := TF.goes_18
theorem TG.stylus_Reader_Raw : Goes PG FN.stylus_Reader_Raw := TF.goes_21
theorem TG.stylus_Reader_Text : Goes PG FN.stylus_Reader_Text := TF.goes_22
theorem TG.stylus_Reader_Bad : Goes PG FN.stylus_Reader_Bad := TF.goes_23
theorem TG.stylus_Reader_Left : Goes PG FN.stylus_Reader_Left := TF.goes_24
theorem TG.stylus_Reader_Spoil : Goes PG FN.stylus_Reader_Spoil := TF.goes_26
theorem TG.stylus_Stylus_Text : Goes PG FN.stylus_Stylus_Text := TF.goes_27
theorem TG.stylus_Stylus_Bytes : Goes PG FN.stylus_Stylus_Bytes := TF.goes_28
theorem TG.countermandlaw10_alive : Goes PG FN.countermandlaw10_alive := TF.goes_31
theorem TG.countermandlaw10_great : Goes PG FN.countermandlaw10_great := TF.goes_32
theorem TG.tome_New : Goes PG FN.tome_New := TF.goes_33
theorem TG.tome_Tome_Set : Goes PG FN.tome_Tome_Set := TF.goes_34
theorem TG.tome_Same : Goes PG FN.tome_Same := TF.goes_35
theorem TG.tome_Tome_Bytes : Goes PG FN.tome_Tome_Bytes := TF.goes_36
theorem TG.countermandref10_Tome_Set : Goes PG FN.countermandref10_Tome_Set := TF.goes_37
theorem TG.tome_Tome_Get : Goes PG FN.tome_Tome_Get := TF.goes_38
theorem TG.tome_Tome_All : Goes PG FN.tome_Tome_All := TF.goes_39
theorem TG.countermandref10_Bytes : Goes PG FN.countermandref10_Bytes := TF.goes_40
theorem TG.tome_Read : Goes PG FN.tome_Read := TF.goes_41
theorem TG.countermandref10_Read : Goes PG FN.countermandref10_Read := TF.goes_42
theorem TG.stylus_Stylus_Nat : Goes PG FN.stylus_Stylus_Nat := TF.goes_70
theorem TG.countermandref01_Wide : Goes PG FN.countermandref01_Wide := TF.goes_72
theorem TG.stylus_Reader_word : Goes PG FN.stylus_Reader_word := TF.goes_73
theorem TG.stylus_Stylus_Raw : Goes PG FN.stylus_Stylus_Raw := TF.goes_74
theorem TG.countermandref01_Nat : Goes PG FN.countermandref01_Nat := TF.goes_75
theorem TG.countermandref01_Text : Goes PG FN.countermandref01_Text := TF.goes_77
theorem TG.cell_New_file_File : Goes PG FN.cell_New_file_File := TF.goes_78
theorem TG.file_Good : Goes PG FN.file_Good := TF.goes_79
theorem TG.cell_Row_file_File_Set : Goes PG FN.cell_Row_file_File_Set := TF.goes_80
theorem TG.cell_Row_file_File_Get : Goes PG FN.cell_Row_file_File_Get := TF.goes_81
theorem TG.tome_Tome_All_1 : Goes PG FN.tome_Tome_All_1 := TF.goes_82
theorem TG.cell_Row_file_File_All : Goes PG FN.cell_Row_file_File_All := TF.goes_83
theorem TG.cell_Row_file_File_is : Goes PG FN.cell_Row_file_File_is := TF.goes_97
theorem TG.cell_Row_file_File_All_1 : Goes PG FN.cell_Row_file_File_All_1 := TF.goes_98
def C_countermandlaw10_TomeApart (B : RO) (a1 : Option Addr) (n2 : Nat) (c3 : Nat) (i4 : Int) (h : Heap) (Q : Bool → Heap → Prop) : Prop :=
  Spec PG B 6 #[(Value.slice a1 n2 c3), (Value.int .i64 (i4))] h (fun v h' => ∃ b5 : Bool, v = (Value.bool b5) ∧ Q b5 h')
def C_countermandlaw10_TomeSets (B : RO) (a1 : Option Addr) (n2 : Nat) (c3 : Nat) (i4 : Int) (h : Heap) (Q : Bool → Heap → Prop) : Prop :=
  Spec PG B 7 #[(Value.slice a1 n2 c3), (Value.int .i64 (i4))] h (fun v h' => ∃ b5 : Bool, v = (Value.bool b5) ∧ Q b5 h')
def C_countermandlaw10_TomeReturns (B : RO) (a1 : Option Addr) (n2 : Nat) (c3 : Nat) (a4 : Option Addr) (n5 : Nat) (c6 : Nat) (h : Heap) (Q : Bool → Heap → Prop) : Prop :=
  Spec PG B 8 #[(Value.slice a1 n2 c3), (Value.slice a4 n5 c6)] h (fun v h' => ∃ b7 : Bool, v = (Value.bool b7) ∧ Q b7 h')
def C_countermandlaw10_TomeReads (B : RO) (s1 : ByteArray) (h : Heap) (Q : Bool → Heap → Prop) : Prop :=
  Spec PG B 9 #[(Value.string s1)] h (fun v h' => ∃ b2 : Bool, v = (Value.bool b2) ∧ Q b2 h')
def C_stylus_Of (B : RO) (s1 : ByteArray) (h : Heap) (Q : Option Addr → Heap → Prop) : Prop :=
  Spec PG B 16 #[(Value.string s1)] h (fun v h' => ∃ p2 : Option Addr, v = (Value.pointer p2) ∧ Q p2 h')
def C_countermandref01_Taken (B : RO) (s1 : ByteArray) (h : Heap) (Q : Int → Int → Heap → Prop) : Prop :=
  Spec PG B 17 #[(Value.string s1)] h (fun v h' => ∃ i2 : Int, ∃ i3 : Int, v = Value.tuple #[(Value.int .u64 (i2)), (Value.int .i64 (i3))] ∧ Q i2 i3 h')
def C_stylus_Reader_Nat (B : RO) (p1 : Option Addr) (i2 : Int) (h : Heap) (Q : Int → Heap → Prop) : Prop :=
  Spec PG B 18 #[(Value.pointer p1), (Value.int .i64 (i2))] h (fun v h' => ∃ i3 : Int, v = (Value.int .i64 (i3)) ∧ Q i3 h')
def C_stylus_Reader_Raw (B : RO) (p1 : Option Addr) (i2 : Int) (h : Heap) (Q : ByteArray → Heap → Prop) : Prop :=
  Spec PG B 21 #[(Value.pointer p1), (Value.int .i64 (i2))] h (fun v h' => ∃ s3 : ByteArray, v = (Value.string s3) ∧ Q s3 h')
def C_stylus_Reader_Text (B : RO) (p1 : Option Addr) (i2 : Int) (h : Heap) (Q : ByteArray → Heap → Prop) : Prop :=
  Spec PG B 22 #[(Value.pointer p1), (Value.int .i64 (i2))] h (fun v h' => ∃ s3 : ByteArray, v = (Value.string s3) ∧ Q s3 h')
def C_stylus_Reader_Bad (B : RO) (p1 : Option Addr) (h : Heap) (Q : Bool → Heap → Prop) : Prop :=
  Spec PG B 23 #[(Value.pointer p1)] h (fun v h' => ∃ b2 : Bool, v = (Value.bool b2) ∧ Q b2 h')
def C_stylus_Reader_Left (B : RO) (p1 : Option Addr) (h : Heap) (Q : Int → Heap → Prop) : Prop :=
  Spec PG B 24 #[(Value.pointer p1)] h (fun v h' => ∃ i2 : Int, v = (Value.int .i64 (i2)) ∧ Q i2 h')
def C_stylus_Reader_Spoil (B : RO) (p1 : Option Addr) (h : Heap) (Q : Heap → Prop) : Prop :=
  Spec PG B 26 #[(Value.pointer p1)] h (fun v h' => v = Value.tuple #[] ∧ Q  h')
def C_stylus_Stylus_Text (B : RO) (p1 : Option Addr) (a2 : Option Addr) (n3 : Nat) (c4 : Nat) (h : Heap) (Q : Heap → Prop) : Prop :=
  Spec PG B 27 #[(Value.pointer p1), (Value.slice a2 n3 c4)] h (fun v h' => v = Value.tuple #[] ∧ Q  h')
def C_stylus_Stylus_Bytes (B : RO) (p1 : Option Addr) (h : Heap) (Q : ByteArray → Heap → Prop) : Prop :=
  Spec PG B 28 #[(Value.pointer p1)] h (fun v h' => ∃ s2 : ByteArray, v = (Value.string s2) ∧ Q s2 h')
def C_countermandlaw10_alive (B : RO) (h : Heap) (Q : Bool → Heap → Prop) : Prop :=
  Spec PG B 31 #[] h (fun v h' => ∃ b1 : Bool, v = (Value.bool b1) ∧ Q b1 h')
def C_countermandlaw10_great (B : RO) (a1 : Option Addr) (n2 : Nat) (c3 : Nat) (h : Heap) (Q : Bool → Heap → Prop) : Prop :=
  Spec PG B 32 #[(Value.slice a1 n2 c3)] h (fun v h' => ∃ b4 : Bool, v = (Value.bool b4) ∧ Q b4 h')
def C_tome_New (B : RO) (h : Heap) (Q : Option Addr → Heap → Prop) : Prop :=
  Spec PG B 33 #[] h (fun v h' => ∃ p1 : Option Addr, v = (Value.pointer p1) ∧ Q p1 h')
def C_tome_Tome_Set (B : RO) (p1 : Option Addr) (i2 : Int) (b3 : Bool) (s4 : ByteArray) (i5 : Int) (h : Heap) (Q : Bool → Heap → Prop) : Prop :=
  Spec PG B 34 #[(Value.pointer p1), (Value.int .i64 (i2)), (Value.agg #[(Value.bool b3), (Value.string s4)]), (Value.int .i64 (i5))] h (fun v h' => ∃ b6 : Bool, v = (Value.bool b6) ∧ Q b6 h')
def C_tome_Same (B : RO) (p1 : Option Addr) (p2 : Option Addr) (h : Heap) (Q : Bool → Heap → Prop) : Prop :=
  Spec PG B 35 #[(Value.pointer p1), (Value.pointer p2)] h (fun v h' => ∃ b3 : Bool, v = (Value.bool b3) ∧ Q b3 h')
def C_tome_Tome_Bytes (B : RO) (p1 : Option Addr) (h : Heap) (Q : ByteArray → Heap → Prop) : Prop :=
  Spec PG B 36 #[(Value.pointer p1)] h (fun v h' => ∃ s2 : ByteArray, v = (Value.string s2) ∧ Q s2 h')
def C_countermandref10_Tome_Set (B : RO) (p1 : Option Addr) (i2 : Int) (b3 : Bool) (s4 : ByteArray) (i5 : Int) (h : Heap) (Q : Bool → Heap → Prop) : Prop :=
  Spec PG B 37 #[(Value.pointer p1), (Value.int .i64 (i2)), (Value.agg #[(Value.bool b3), (Value.string s4)]), (Value.int .i64 (i5))] h (fun v h' => ∃ b6 : Bool, v = (Value.bool b6) ∧ Q b6 h')
def C_tome_Tome_Get (B : RO) (p1 : Option Addr) (i2 : Int) (h : Heap) (Q : Bool → ByteArray → Int → Heap → Prop) : Prop :=
  Spec PG B 38 #[(Value.pointer p1), (Value.int .i64 (i2))] h (fun v h' => ∃ b3 : Bool, ∃ s4 : ByteArray, ∃ i5 : Int, v = Value.tuple #[(Value.agg #[(Value.bool b3), (Value.string s4)]), (Value.int .i64 (i5))] ∧ Q b3 s4 i5 h')
def C_tome_Tome_All (B : RO) (p1 : Option Addr) (h : Heap) (Q : Value → Heap → Prop) : Prop :=
  Spec PG B 39 #[(Value.pointer p1)] h (fun v h' => ∃ v2 : Value, v = v2 ∧ Q v2 h')
def C_countermandref10_Bytes (B : RO) (l1 : List Value) (h : Heap) (Q : ByteArray → Heap → Prop) : Prop :=
  Spec PG B 40 #[(Value.agg (List.toArray l1))] h (fun v h' => ∃ s2 : ByteArray, v = (Value.string s2) ∧ Q s2 h')
def C_tome_Read (B : RO) (s1 : ByteArray) (h : Heap) (Q : Option Addr → Bool → Heap → Prop) : Prop :=
  Spec PG B 41 #[(Value.string s1)] h (fun v h' => ∃ p2 : Option Addr, ∃ b3 : Bool, v = Value.tuple #[(Value.pointer p2), (Value.bool b3)] ∧ Q p2 b3 h')
def C_countermandref10_Read (B : RO) (s1 : ByteArray) (h : Heap) (Q : List Value → Bool → Heap → Prop) : Prop :=
  Spec PG B 42 #[(Value.string s1)] h (fun v h' => ∃ l2 : List Value, ∃ b3 : Bool, v = Value.tuple #[(Value.agg (List.toArray l2)), (Value.bool b3)] ∧ Q l2 b3 h')
def C_stylus_Stylus_Nat (B : RO) (p1 : Option Addr) (a2 : Option Addr) (n3 : Nat) (c4 : Nat) (h : Heap) (Q : Heap → Prop) : Prop :=
  Spec PG B 70 #[(Value.pointer p1), (Value.slice a2 n3 c4)] h (fun v h' => v = Value.tuple #[] ∧ Q  h')
def C_countermandref01_Wide (B : RO) (i1 : Int) (h : Heap) (Q : ByteArray → Heap → Prop) : Prop :=
  Spec PG B 72 #[(Value.int .u64 (i1))] h (fun v h' => ∃ s2 : ByteArray, v = (Value.string s2) ∧ Q s2 h')
def C_stylus_Reader_word (B : RO) (p1 : Option Addr) (h : Heap) (Q : Int → Heap → Prop) : Prop :=
  Spec PG B 73 #[(Value.pointer p1)] h (fun v h' => ∃ i2 : Int, v = (Value.int .u64 (i2)) ∧ Q i2 h')
def C_stylus_Stylus_Raw (B : RO) (p1 : Option Addr) (s2 : ByteArray) (h : Heap) (Q : Heap → Prop) : Prop :=
  Spec PG B 74 #[(Value.pointer p1), (Value.string s2)] h (fun v h' => v = Value.tuple #[] ∧ Q  h')
def C_countermandref01_Nat (B : RO) (i1 : Int) (h : Heap) (Q : ByteArray → Heap → Prop) : Prop :=
  Spec PG B 75 #[(Value.int .i64 (i1))] h (fun v h' => ∃ s2 : ByteArray, v = (Value.string s2) ∧ Q s2 h')
def C_countermandref01_Text (B : RO) (s1 : ByteArray) (h : Heap) (Q : ByteArray → Heap → Prop) : Prop :=
  Spec PG B 77 #[(Value.string s1)] h (fun v h' => ∃ s2 : ByteArray, v = (Value.string s2) ∧ Q s2 h')
def C_cell_New_file_File (B : RO) (i1 : Int) (b2 : Bool) (s3 : ByteArray) (h : Heap) (Q : Option Addr → Heap → Prop) : Prop :=
  Spec PG B 78 #[(Value.int .i64 (i1)), (Value.agg #[(Value.bool b2), (Value.string s3)])] h (fun v h' => ∃ p4 : Option Addr, v = (Value.pointer p4) ∧ Q p4 h')
def C_file_Good (B : RO) (b1 : Bool) (s2 : ByteArray) (h : Heap) (Q : Bool → Heap → Prop) : Prop :=
  Spec PG B 79 #[(Value.agg #[(Value.bool b1), (Value.string s2)])] h (fun v h' => ∃ b3 : Bool, v = (Value.bool b3) ∧ Q b3 h')
def C_cell_Row_file_File_Set (B : RO) (p1 : Option Addr) (i2 : Int) (b3 : Bool) (s4 : ByteArray) (i5 : Int) (h : Heap) (Q : Bool → Heap → Prop) : Prop :=
  Spec PG B 80 #[(Value.pointer p1), (Value.int .i64 (i2)), (Value.agg #[(Value.bool b3), (Value.string s4)]), (Value.int .i64 (i5))] h (fun v h' => ∃ b6 : Bool, v = (Value.bool b6) ∧ Q b6 h')
def C_cell_Row_file_File_Get (B : RO) (p1 : Option Addr) (i2 : Int) (h : Heap) (Q : Bool → ByteArray → Int → Heap → Prop) : Prop :=
  Spec PG B 81 #[(Value.pointer p1), (Value.int .i64 (i2))] h (fun v h' => ∃ b3 : Bool, ∃ s4 : ByteArray, ∃ i5 : Int, v = Value.tuple #[(Value.agg #[(Value.bool b3), (Value.string s4)]), (Value.int .i64 (i5))] ∧ Q b3 s4 i5 h')
def C_tome_Tome_All_1 (B : RO) (v1 : Value) (A2 : Addr) (h : Heap) (Q : Heap → Prop) : Prop :=
  Spec PG B 82 #[v1, (Value.pointer (some A2))] h (fun v h' => v = Value.tuple #[] ∧ Q  h')
def C_cell_Row_file_File_All (B : RO) (p1 : Option Addr) (h : Heap) (Q : Value → Heap → Prop) : Prop :=
  Spec PG B 83 #[(Value.pointer p1)] h (fun v h' => ∃ v2 : Value, v = v2 ∧ Q v2 h')
def C_cell_Row_file_File_is (B : RO) (p1 : Option Addr) (i2 : Int) (h : Heap) (Q : Bool → Heap → Prop) : Prop :=
  Spec PG B 97 #[(Value.pointer p1), (Value.int .i64 (i2))] h (fun v h' => ∃ b3 : Bool, v = (Value.bool b3) ∧ Q b3 h')
def C_cell_Row_file_File_All_1 (B : RO) (v1 : Value) (A2 : Addr) (h : Heap) (Q : Heap → Prop) : Prop :=
  Spec PG B 98 #[v1, (Value.pointer (some A2))] h (fun v h' => v = Value.tuple #[] ∧ Q  h')
end Go.Proofs.Ytoajfmmomgpjcaa.H
