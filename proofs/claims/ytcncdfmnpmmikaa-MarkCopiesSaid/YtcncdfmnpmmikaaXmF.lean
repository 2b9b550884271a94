/- Calls and facts. No condition. -/
import Derived.Test.YtcncdfmnpmmikaaHs
import Derived.Test.YtcncdfmnpmmikaaProg
import Derived.KernelRfl
namespace Go.Proofs.Ytcncdfmnpmmikaa.H
open Go
set_option linter.unusedVariables false
set_option maxRecDepth 100000

noncomputable abbrev PG : Program := Go.Proofs.Try.prog
abbrev TY.int64 : TypeId := 2
abbrev TY.int : TypeId := 3
abbrev TY.bool : TypeId := 4
abbrev TY.uint8 : TypeId := 5
abbrev TY.abi_BoundsErrorCode : TypeId := 6
abbrev TY.runtime_boundsError : TypeId := 8
abbrev TY.string : TypeId := 9
abbrev TY.runtime_errorString : TypeId := 10
abbrev TY.runtime_plainError : TypeId := 11
abbrev TY.uintptr : TypeId := 12
abbrev TY.runtime_errorAddressString : TypeId := 14
abbrev TY.p_runtime_TypeAssertionError : TypeId := 15
abbrev TY.p_runtime_PanicNilError : TypeId := 16
abbrev TY.p_abi_Type : TypeId := 17
abbrev TY.maps_unhashableTypeError : TypeId := 19
abbrev TY.int32 : TypeId := 21
abbrev TY.a_4_int : TypeId := 22
abbrev TY.api_Regs : TypeId := 23
abbrev TY.p_tome_Tome : TypeId := 25
abbrev TY.p_draft_Draft_int : TypeId := 27
abbrev TY.p_sheet_Sheet : TypeId := 28
abbrev TY.p_cursor_Cursor : TypeId := 29
abbrev TY.mark_State : TypeId := 31
abbrev TY.file_File : TypeId := 41
abbrev TY.s_string : TypeId := 45
abbrev TY.p_disk_Disk : TypeId := 47
abbrev TY.p_vault_Vault : TypeId := 49
abbrev TY.vault_Found : TypeId := 51
abbrev TY.api_Errno : TypeId := 52
abbrev TY.uint : TypeId := 57
abbrev TY.a_6_file_File : TypeId := 71
abbrev TY.p_countermandref14_Sheet : TypeId := 72
abbrev TY.countermandref09_File : TypeId := 76
abbrev TY.a_6_countermandref09_File : TypeId := 77
abbrev TY.s_countermandlaw14_Call : TypeId := 79
abbrev TY.countermandlaw14_Call : TypeId := 81
abbrev TY.a_6_bool : TypeId := 84
abbrev TY.countermandref14_Sheet : TypeId := 86
abbrev TY.iter_Seq2_int_file_File : TypeId := 94
abbrev TY.p_draft_Draft_file_File : TypeId := 95
abbrev TY.p_mark_Stack : TypeId := 100
abbrev TY.s_mark_Mark : TypeId := 101
abbrev TY.mark_Stack : TypeId := 103
abbrev TY.acts_Mark : TypeId := 105
abbrev TY.mark_Mark : TypeId := 107
abbrev TY.p_cell_Row_file_File : TypeId := 110
abbrev TY.tome_Tome : TypeId := 113
abbrev TY.s_draft_entry_int : TypeId := 114
abbrev TY.draft_Draft_int : TypeId := 116
abbrev TY.a_3_int : TypeId := 117
abbrev TY.cursor_Cursor : TypeId := 119
abbrev TY.draft_entry_int : TypeId := 121
abbrev TY.sheet_Sheet : TypeId := 128
abbrev TY.disk_area : TypeId := 131
abbrev TY.a_2_disk_area : TypeId := 132
abbrev TY.s_disk_change : TypeId := 133
abbrev TY.disk_Disk : TypeId := 135
abbrev TY.p_wal_Log : TypeId := 136
abbrev TY.vault_Vault : TypeId := 138
abbrev TY.p_stylus_Stylus : TypeId := 143
abbrev TY.s_uint8 : TypeId := 144
abbrev TY.stylus_Stylus : TypeId := 146
abbrev TY.disk_change : TypeId := 151
abbrev TY.s_draft_entry_file_File : TypeId := 158
abbrev TY.draft_Draft_file_File : TypeId := 160
abbrev TY.draft_entry_file_File : TypeId := 162
abbrev TY.s_cell_slot_file_File : TypeId := 166
abbrev TY.cell_Row_file_File : TypeId := 168
abbrev TY.cell_slot_file_File : TypeId := 170
abbrev TY.wal_Log : TypeId := 178
abbrev TY.iter_Seq_string : TypeId := 180
abbrev TY.s_int : TypeId := 184
abbrev TY.uint32 : TypeId := 185
abbrev TY.uint64 : TypeId := 188
abbrev TY.p_stylus_Reader : TypeId := 202
abbrev TY.p_strings_Builder : TypeId := 210
abbrev TY.strings_Builder : TypeId := 212
abbrev TY.error : TypeId := 215
abbrev TY.stylus_Reader : TypeId := 222
abbrev TY.p_uint8 : TypeId := 228
abbrev TY.runtime_TypeAssertionError : TypeId := 234
abbrev TY.a_0_p_runtime_PanicNilError : TypeId := 235
abbrev TY.runtime_PanicNilError : TypeId := 237
abbrev TY.abi_TFlag : TypeId := 238
abbrev TY.abi_Kind : TypeId := 239
abbrev TY.abi_NameOff : TypeId := 241
abbrev TY.abi_TypeOff : TypeId := 242
abbrev TY.abi_Type : TypeId := 244
abbrev TY.iter_Seq2_int_int : TypeId := 247
theorem TF.agg_101 : aggB PG 101 = some false := by kernel_rfl
theorem TF.agg_107 : aggB PG 107 = some true := by kernel_rfl
theorem TF.agg_110 : aggB PG 110 = some false := by kernel_rfl
theorem TF.agg_114 : aggB PG 114 = some false := by kernel_rfl
theorem TF.agg_119 : aggB PG 119 = some true := by kernel_rfl
theorem TF.agg_121 : aggB PG 121 = some true := by kernel_rfl
theorem TF.agg_158 : aggB PG 158 = some false := by kernel_rfl
theorem TF.agg_162 : aggB PG 162 = some true := by kernel_rfl
theorem TF.agg_166 : aggB PG 166 = some false := by kernel_rfl
theorem TF.agg_23 : aggB PG 23 = some true := by kernel_rfl
theorem TF.agg_27 : aggB PG 27 = some false := by kernel_rfl
theorem TF.agg_28 : aggB PG 28 = some false := by kernel_rfl
theorem TF.agg_29 : aggB PG 29 = some false := by kernel_rfl
theorem TF.agg_3 : aggB PG 3 = some false := by kernel_rfl
theorem TF.agg_31 : aggB PG 31 = some true := by kernel_rfl
theorem TF.agg_41 : aggB PG 41 = some true := by kernel_rfl
theorem TF.agg_9 : aggB PG 9 = some false := by kernel_rfl
theorem TF.agg_95 : aggB PG 95 = some false := by kernel_rfl
theorem TF.arr_117 : arrB PG 117 = some (3, 3, 1, false) := by kernel_rfl
theorem TF.arr_23 : arrB PG 23 = some (4, 3, 1, false) := by kernel_rfl
theorem TF.eqg_23 : eqGB PG 23 = false := by kernel_rfl
theorem TF.eqg_41 : eqGB PG 41 = false := by kernel_rfl
theorem TF.flat_23 : flat6B PG 23 = some [.int .i64, .int .i64, .int .i64, .int .i64] := by kernel_rfl
theorem TF.flat_41 : flat6B PG 41 = some [.bool, .str] := by kernel_rfl
theorem TF.fld_103_0 : fldB PG 103 0 = some 0 := by kernel_rfl
theorem TF.fld_107_0 : fldB PG 107 0 = some 0 := by kernel_rfl
theorem TF.fld_107_2 : fldB PG 107 2 = some 11 := by kernel_rfl
theorem TF.fld_113_0 : fldB PG 113 0 = some 0 := by kernel_rfl
theorem TF.fld_116_0 : fldB PG 116 0 = some 0 := by kernel_rfl
theorem TF.fld_119_0 : fldB PG 119 0 = some 0 := by kernel_rfl
theorem TF.fld_121_0 : fldB PG 121 0 = some 0 := by kernel_rfl
theorem TF.fld_121_1 : fldB PG 121 1 = some 1 := by kernel_rfl
theorem TF.fld_128_0 : fldB PG 128 0 = some 0 := by kernel_rfl
theorem TF.fld_160_0 : fldB PG 160 0 = some 0 := by kernel_rfl
theorem TF.fld_162_0 : fldB PG 162 0 = some 0 := by kernel_rfl
theorem TF.fld_162_1 : fldB PG 162 1 = some 1 := by kernel_rfl
theorem TF.fld_168_0 : fldB PG 168 0 = some 0 := by kernel_rfl
theorem TF.fld_170_0 : fldB PG 170 0 = some 0 := by kernel_rfl
theorem TF.fld_170_1 : fldB PG 170 1 = some 2 := by kernel_rfl
theorem TF.fld_31_0 : fldB PG 31 0 = some 0 := by kernel_rfl
theorem TF.fld_31_1 : fldB PG 31 1 = some 1 := by kernel_rfl
theorem TF.fld_31_2 : fldB PG 31 2 = some 2 := by kernel_rfl
theorem TF.fld_31_3 : fldB PG 31 3 = some 3 := by kernel_rfl
theorem TF.fld_41_1 : fldB PG 41 1 = some 1 := by kernel_rfl
theorem TF.goes_100 : Goes PG 100 := ⟨Try.f100, Try.func100, by kernel_rfl, by kernel_rfl⟩
theorem TF.goes_102 : Goes PG 102 := ⟨Try.f102, Try.func102, by kernel_rfl, by kernel_rfl⟩
theorem TF.goes_103 : Goes PG 103 := ⟨Try.f103, Try.func103, by kernel_rfl, by kernel_rfl⟩
theorem TF.goes_104 : Goes PG 104 := ⟨Try.f104, Try.func104, by kernel_rfl, by kernel_rfl⟩
theorem TF.goes_105 : Goes PG 105 := ⟨Try.f105, Try.func105, by kernel_rfl, by kernel_rfl⟩
theorem TF.goes_119 : Goes PG 119 := ⟨Try.f119, Try.func119, by kernel_rfl, by kernel_rfl⟩
theorem TF.goes_120 : Goes PG 120 := ⟨Try.f120, Try.func120, by kernel_rfl, by kernel_rfl⟩
theorem TF.goes_124 : Goes PG 124 := ⟨Try.f124, Try.func124, by kernel_rfl, by kernel_rfl⟩
theorem TF.goes_125 : Goes PG 125 := ⟨Try.f125, Try.func125, by kernel_rfl, by kernel_rfl⟩
theorem TF.goes_126 : Goes PG 126 := ⟨Try.f126, Try.func126, by kernel_rfl, by kernel_rfl⟩
theorem TF.goes_127 : Goes PG 127 := ⟨Try.f127, Try.func127, by kernel_rfl, by kernel_rfl⟩
theorem TF.goes_14 : Goes PG 14 := ⟨Try.f14, Try.func14, by kernel_rfl, by kernel_rfl⟩
theorem TF.goes_146 : Goes PG 146 := ⟨Try.f146, Try.func146, by kernel_rfl, by kernel_rfl⟩
theorem TF.goes_148 : Goes PG 148 := ⟨Try.f148, Try.func148, by kernel_rfl, by kernel_rfl⟩
theorem TF.goes_15 : Goes PG 15 := ⟨Try.f15, Try.func15, by kernel_rfl, by kernel_rfl⟩
theorem TF.goes_158 : Goes PG 158 := ⟨Try.f158, Try.func158, by kernel_rfl, by kernel_rfl⟩
theorem TF.goes_16 : Goes PG 16 := ⟨Try.f16, Try.func16, by kernel_rfl, by kernel_rfl⟩
theorem TF.goes_161 : Goes PG 161 := ⟨Try.f161, Try.func161, by kernel_rfl, by kernel_rfl⟩
theorem TF.goes_17 : Goes PG 17 := ⟨Try.f17, Try.func17, by kernel_rfl, by kernel_rfl⟩
theorem TF.goes_18 : Goes PG 18 := ⟨Try.f18, Try.func18, by kernel_rfl, by kernel_rfl⟩
theorem TF.goes_19 : Goes PG 19 := ⟨Try.f19, Try.func19, by kernel_rfl, by kernel_rfl⟩
theorem TF.goes_20 : Goes PG 20 := ⟨Try.f20, Try.func20, by kernel_rfl, by kernel_rfl⟩
theorem TF.goes_21 : Goes PG 21 := ⟨Try.f21, Try.func21, by kernel_rfl, by kernel_rfl⟩
theorem TF.goes_22 : Goes PG 22 := ⟨Try.f22, Try.func22, by kernel_rfl, by kernel_rfl⟩
theorem TF.goes_23 : Goes PG 23 := ⟨Try.f23, Try.func23, by kernel_rfl, by kernel_rfl⟩
theorem TF.goes_3 : Goes PG 3 := ⟨Try.f3, Try.func3, by kernel_rfl, by kernel_rfl⟩
theorem TF.goes_47 : Goes PG 47 := ⟨Try.f47, Try.func47, by kernel_rfl, by kernel_rfl⟩
theorem TF.goes_49 : Goes PG 49 := ⟨Try.f49, Try.func49, by kernel_rfl, by kernel_rfl⟩
theorem TF.goes_57 : Goes PG 57 := ⟨Try.f57, Try.func57, by kernel_rfl, by kernel_rfl⟩
theorem TF.goes_58 : Goes PG 58 := ⟨Try.f58, Try.func58, by kernel_rfl, by kernel_rfl⟩
theorem TF.goes_59 : Goes PG 59 := ⟨Try.f59, Try.func59, by kernel_rfl, by kernel_rfl⟩
theorem TF.goes_60 : Goes PG 60 := ⟨Try.f60, Try.func60, by kernel_rfl, by kernel_rfl⟩
theorem TF.goes_61 : Goes PG 61 := ⟨Try.f61, Try.func61, by kernel_rfl, by kernel_rfl⟩
theorem TF.goes_62 : Goes PG 62 := ⟨Try.f62, Try.func62, by kernel_rfl, by kernel_rfl⟩
theorem TF.goes_63 : Goes PG 63 := ⟨Try.f63, Try.func63, by kernel_rfl, by kernel_rfl⟩
theorem TF.goes_64 : Goes PG 64 := ⟨Try.f64, Try.func64, by kernel_rfl, by kernel_rfl⟩
theorem TF.goes_65 : Goes PG 65 := ⟨Try.f65, Try.func65, by kernel_rfl, by kernel_rfl⟩
theorem TF.goes_66 : Goes PG 66 := ⟨Try.f66, Try.func66, by kernel_rfl, by kernel_rfl⟩
theorem TF.goes_67 : Goes PG 67 := ⟨Try.f67, Try.func67, by kernel_rfl, by kernel_rfl⟩
theorem TF.goes_68 : Goes PG 68 := ⟨Try.f68, Try.func68, by kernel_rfl, by kernel_rfl⟩
theorem TF.goes_69 : Goes PG 69 := ⟨Try.f69, Try.func69, by kernel_rfl, by kernel_rfl⟩
theorem TF.goes_91 : Goes PG 91 := ⟨Try.f91, Try.func91, by kernel_rfl, by kernel_rfl⟩
theorem TF.goes_92 : Goes PG 92 := ⟨Try.f92, Try.func92, by kernel_rfl, by kernel_rfl⟩
theorem TF.goes_98 : Goes PG 98 := ⟨Try.f98, Try.func98, by kernel_rfl, by kernel_rfl⟩
theorem TF.goes_99 : Goes PG 99 := ⟨Try.f99, Try.func99, by kernel_rfl, by kernel_rfl⟩
theorem TF.goesx_101 : GoesX PG 101 (Extern.SlicesOverlaps.overlaps #[114, 114] #[4]) := ⟨Try.f101, Try.func101, by kernel_rfl, by kernel_rfl, by kernel_rfl, by kernel_rfl⟩
theorem TF.goesx_147 : GoesX PG 147 (Extern.SlicesOverlaps.overlaps #[158, 158] #[4]) := ⟨Try.f147, Try.func147, by kernel_rfl, by kernel_rfl, by kernel_rfl, by kernel_rfl⟩
theorem TF.int_3 : intB PG 3 = some .i64 := by kernel_rfl
theorem TF.int_57 : intB PG 57 = some .u64 := by kernel_rfl
theorem TF.mixed : PG.follows .mixedOrders = true := by kernel_rfl
theorem TF.places_103 : strPlaces PG 103 = some [(0, 1)] := by kernel_rfl
theorem TF.places_107 : strPlaces PG 107 = some [(0, 7), (7, 4), (11, 1)] := by kernel_rfl
theorem TF.places_113 : strPlaces PG 113 = some [(0, 1)] := by kernel_rfl
theorem TF.places_116 : strPlaces PG 116 = some [(0, 1)] := by kernel_rfl
theorem TF.places_119 : strPlaces PG 119 = some [(0, 3)] := by kernel_rfl
theorem TF.places_121 : strPlaces PG 121 = some [(0, 1), (1, 1)] := by kernel_rfl
theorem TF.places_128 : strPlaces PG 128 = some [(0, 1)] := by kernel_rfl
theorem TF.places_160 : strPlaces PG 160 = some [(0, 1)] := by kernel_rfl
theorem TF.places_162 : strPlaces PG 162 = some [(0, 1), (1, 2)] := by kernel_rfl
theorem TF.places_168 : strPlaces PG 168 = some [(0, 1)] := by kernel_rfl
theorem TF.places_170 : strPlaces PG 170 = some [(0, 2), (2, 1)] := by kernel_rfl
theorem TF.places_31 : strPlaces PG 31 = some [(0, 1), (1, 1), (2, 1), (3, 4)] := by kernel_rfl
theorem TF.places_41 : strPlaces PG 41 = some [(0, 1), (1, 1)] := by kernel_rfl
theorem TF.ptr_100 : ptrB PG 100 = true := by kernel_rfl
theorem TF.ptr_110 : ptrB PG 110 = true := by kernel_rfl
theorem TF.ptr_25 : ptrB PG 25 = true := by kernel_rfl
theorem TF.ptr_27 : ptrB PG 27 = true := by kernel_rfl
theorem TF.ptr_28 : ptrB PG 28 = true := by kernel_rfl
theorem TF.ptr_29 : ptrB PG 29 = true := by kernel_rfl
theorem TF.ptr_95 : ptrB PG 95 = true := by kernel_rfl
theorem TF.sl_101 : slT PG 101 = true := by kernel_rfl
theorem TF.sl_114 : slT PG 114 = true := by kernel_rfl
theorem TF.sl_158 : slT PG 158 = true := by kernel_rfl
theorem TF.sl_166 : slT PG 166 = true := by kernel_rfl
theorem TF.slc_101 : slcB PG 101 = some (107, 12, 96) := by kernel_rfl
theorem TF.slc_114 : slcB PG 114 = some (121, 2, 16) := by kernel_rfl
theorem TF.slc_158 : slcB PG 158 = some (162, 3, 32) := by kernel_rfl
theorem TF.slc_166 : slcB PG 166 = some (170, 3, 32) := by kernel_rfl
theorem TF.sz_101 : szB PG 101 = some 1 := by kernel_rfl
theorem TF.sz_107 : szB PG 107 = some 12 := by kernel_rfl
theorem TF.sz_114 : szB PG 114 = some 1 := by kernel_rfl
theorem TF.sz_119 : szB PG 119 = some 3 := by kernel_rfl
theorem TF.sz_121 : szB PG 121 = some 2 := by kernel_rfl
theorem TF.sz_158 : szB PG 158 = some 1 := by kernel_rfl
theorem TF.sz_162 : szB PG 162 = some 3 := by kernel_rfl
theorem TF.sz_166 : szB PG 166 = some 1 := by kernel_rfl
theorem TF.sz_23 : szB PG 23 = some 4 := by kernel_rfl
theorem TF.sz_3 : szB PG 3 = some 1 := by kernel_rfl
theorem TF.sz_31 : szB PG 31 = some 7 := by kernel_rfl
theorem TF.sz_41 : szB PG 41 = some 2 := by kernel_rfl
theorem TF.zero_103 : zeroB PG 103 = some [(Value.slice none 0 0)] := by kernel_rfl
theorem TF.zero_107 : zeroB PG 107 = some [(Value.pointer none), (Value.pointer none), (Value.pointer none), (Value.int .i64 (0)), (Value.int .i64 (0)), (Value.int .i64 (0)), (Value.int .i64 (0)), (Value.int .i64 (0)), (Value.int .i64 (0)), (Value.int .i64 (0)), (Value.int .i64 (0)), (Value.int .i64 (0))] := by kernel_rfl
theorem TF.zero_113 : zeroB PG 113 = some [(Value.pointer none)] := by kernel_rfl
theorem TF.zero_116 : zeroB PG 116 = some [(Value.slice none 0 0)] := by kernel_rfl
theorem TF.zero_119 : zeroB PG 119 = some [(Value.int .i64 (0)), (Value.int .i64 (0)), (Value.int .i64 (0))] := by kernel_rfl
theorem TF.zero_121 : zeroB PG 121 = some [(Value.int .i64 (0)), (Value.int .i64 (0))] := by kernel_rfl
theorem TF.zero_128 : zeroB PG 128 = some [(Value.pointer none)] := by kernel_rfl
theorem TF.zero_160 : zeroB PG 160 = some [(Value.slice none 0 0)] := by kernel_rfl
theorem TF.zero_162 : zeroB PG 162 = some [(Value.int .i64 (0)), (Value.bool false), (Value.string ByteArray.empty)] := by kernel_rfl
theorem TF.zero_168 : zeroB PG 168 = some [(Value.slice none 0 0)] := by kernel_rfl
theorem TF.zero_170 : zeroB PG 170 = some [(Value.bool false), (Value.string ByteArray.empty), (Value.int .i64 (0))] := by kernel_rfl
theorem TF.zero_23 : zeroB PG 23 = some [(Value.int .i64 (0)), (Value.int .i64 (0)), (Value.int .i64 (0)), (Value.int .i64 (0))] := by kernel_rfl
theorem TF.zero_31 : zeroB PG 31 = some [(Value.pointer none), (Value.pointer none), (Value.pointer none), (Value.int .i64 (0)), (Value.int .i64 (0)), (Value.int .i64 (0)), (Value.int .i64 (0))] := by kernel_rfl
theorem TF.zero_41 : zeroB PG 41 = some [(Value.bool false), (Value.string ByteArray.empty)] := by kernel_rfl
abbrev FN.countermandlaw17_MarkCopies : FuncId := 3
abbrev FN.countermandlaw17_alive : FuncId := 14
abbrev FN.tome_New : FuncId := 15
abbrev FN.mark_Fresh : FuncId := 16
abbrev FN.draft_Draft_int_Put : FuncId := 17
abbrev FN.cursor_Cursor_Step : FuncId := 18
abbrev FN.mark_State_Copy : FuncId := 19
abbrev FN.draft_Draft_int_Get : FuncId := 20
abbrev FN.cursor_Cursor_Read : FuncId := 21
abbrev FN.sheet_Sheet_Create : FuncId := 22
abbrev FN.sheet_Sheet_Get : FuncId := 23
abbrev FN.sheet_Sheet_Copy : FuncId := 47
abbrev FN.tome_Tome_Get : FuncId := 49
abbrev FN.mark_Stack_Push : FuncId := 57
abbrev FN.mark_Stack_Len : FuncId := 58
abbrev FN.mark_Stack_Pop : FuncId := 59
abbrev FN.cell_New_file_File : FuncId := 60
abbrev FN.sheet_New : FuncId := 61
abbrev FN.draft_Draft_int_find : FuncId := 62
abbrev FN.slices_Insert_s_draft_entry_int_draft_entry_int : FuncId := 63
abbrev FN.cursor_is : FuncId := 64
abbrev FN.draft_Draft_int_Copy : FuncId := 65
abbrev FN.cursor_Cursor_Copy : FuncId := 66
abbrev FN.sheet_Sheet_put : FuncId := 67
abbrev FN.file_Make : FuncId := 68
abbrev FN.draft_Draft_file_File_Get : FuncId := 69
abbrev FN.draft_Draft_file_File_Copy : FuncId := 91
abbrev FN.cell_Row_file_File_Get : FuncId := 92
abbrev FN.slices_Delete_s_mark_Mark_mark_Mark : FuncId := 98
abbrev FN.slices_BinarySearchFunc_s_draft_entry_int_draft_entry_int_int : FuncId := 99
abbrev FN.draft_by_int : FuncId := 100
abbrev FN.slices_rotateRight_draft_entry_int : FuncId := 102
abbrev FN.slices_Clone_s_draft_entry_int_draft_entry_int : FuncId := 103
abbrev FN.draft_Draft_file_File_Put : FuncId := 104
abbrev FN.draft_Draft_file_File_find : FuncId := 105
abbrev FN.slices_Clone_s_draft_entry_file_File_draft_entry_file_File : FuncId := 119
abbrev FN.cell_Row_file_File_is : FuncId := 120
abbrev FN.slices_rotateLeft_draft_entry_int : FuncId := 124
abbrev FN.slices_Insert_s_draft_entry_file_File_draft_entry_file_File : FuncId := 125
abbrev FN.slices_BinarySearchFunc_s_draft_entry_file_File_draft_entry_file_File_int : FuncId := 126
abbrev FN.draft_by_file_File : FuncId := 127
abbrev FN.slices_Reverse_s_draft_entry_int_draft_entry_int : FuncId := 146
abbrev FN.slices_rotateRight_draft_entry_file_File : FuncId := 148
abbrev FN.slices_rotateLeft_draft_entry_file_File : FuncId := 158
abbrev FN.slices_Reverse_s_draft_entry_file_File_draft_entry_file_File : FuncId := 161
theorem TG.countermandlaw17_MarkCopies : Goes PG FN.countermandlaw17_MarkCopies := TF.goes_3
theorem TG.countermandlaw17_alive : Goes PG FN.countermandlaw17_alive := TF.goes_14
theorem TG.tome_New : Goes PG FN.tome_New := TF.goes_15
theorem TG.mark_Fresh : Goes PG FN.mark_Fresh := TF.goes_16
theorem TG.draft_Draft_int_Put : Goes PG FN.draft_Draft_int_Put := TF.goes_17
theorem TG.cursor_Cursor_Step : Goes PG FN.cursor_Cursor_Step := TF.goes_18
theorem TG.mark_State_Copy : Goes PG FN.mark_State_Copy := TF.goes_19
theorem TG.draft_Draft_int_Get : Goes PG FN.draft_Draft_int_Get := TF.goes_20
theorem TG.cursor_Cursor_Read : Goes PG FN.cursor_Cursor_Read := TF.goes_21
theorem TG.sheet_Sheet_Create : Goes PG FN.sheet_Sheet_Create := TF.goes_22
theorem TG.sheet_Sheet_Get : Goes PG FN.sheet_Sheet_Get := TF.goes_23
theorem TG.sheet_Sheet_Copy : Goes PG FN.sheet_Sheet_Copy := TF.goes_47
theorem TG.tome_Tome_Get : Goes PG FN.tome_Tome_Get := TF.goes_49
theorem TG.mark_Stack_Push : Goes PG FN.mark_Stack_Push := TF.goes_57
theorem TG.mark_Stack_Len : Goes PG FN.mark_Stack_Len := TF.goes_58
theorem TG.mark_Stack_Pop : Goes PG FN.mark_Stack_Pop := TF.goes_59
theorem TG.cell_New_file_File : Goes PG FN.cell_New_file_File := TF.goes_60
theorem TG.sheet_New : Goes PG FN.sheet_New := TF.goes_61
theorem TG.draft_Draft_int_find : Goes PG FN.draft_Draft_int_find := TF.goes_62
theorem TG.slices_Insert_s_draft_entry_int_draft_entry_int : Goes PG FN.slices_Insert_s_draft_entry_int_draft_entry_int := TF.goes_63
theorem TG.cursor_is : Goes PG FN.cursor_is := TF.goes_64
theorem TG.draft_Draft_int_Copy : Goes PG FN.draft_Draft_int_Copy := TF.goes_65
theorem TG.cursor_Cursor_Copy : Goes PG FN.cursor_Cursor_Copy := TF.goes_66
theorem TG.sheet_Sheet_put : Goes PG FN.sheet_Sheet_put := TF.goes_67
theorem TG.file_Make : Goes PG FN.file_Make := TF.goes_68
theorem TG.draft_Draft_file_File_Get : Goes PG FN.draft_Draft_file_File_Get := TF.goes_69
theorem TG.draft_Draft_file_File_Copy : Goes PG FN.draft_Draft_file_File_Copy := TF.goes_91
theorem TG.cell_Row_file_File_Get : Goes PG FN.cell_Row_file_File_Get := TF.goes_92
theorem TG.slices_Delete_s_mark_Mark_mark_Mark : Goes PG FN.slices_Delete_s_mark_Mark_mark_Mark := TF.goes_98
theorem TG.slices_BinarySearchFunc_s_draft_entry_int_draft_entry_int_int : Goes PG FN.slices_BinarySearchFunc_s_draft_entry_int_draft_entry_int_int := TF.goes_99
theorem TG.draft_by_int : Goes PG FN.draft_by_int := TF.goes_100
theorem TG.slices_rotateRight_draft_entry_int : Goes PG FN.slices_rotateRight_draft_entry_int := TF.goes_102
theorem TG.slices_Clone_s_draft_entry_int_draft_entry_int : Goes PG FN.slices_Clone_s_draft_entry_int_draft_entry_int := TF.goes_103
theorem TG.draft_Draft_file_File_Put : Goes PG FN.draft_Draft_file_File_Put := TF.goes_104
theorem TG.draft_Draft_file_File_find : Goes PG FN.draft_Draft_file_File_find := TF.goes_105
theorem TG.slices_Clone_s_draft_entry_file_File_draft_entry_file_File : Goes PG FN.slices_Clone_s_draft_entry_file_File_draft_entry_file_File := TF.goes_119
theorem TG.cell_Row_file_File_is : Goes PG FN.cell_Row_file_File_is := TF.goes_120
theorem TG.slices_rotateLeft_draft_entry_int : Goes PG FN.slices_rotateLeft_draft_entry_int := TF.goes_124
theorem TG.slices_Insert_s_draft_entry_file_File_draft_entry_file_File : Goes PG FN.slices_Insert_s_draft_entry_file_File_draft_entry_file_File := TF.goes_125
theorem TG.slices_BinarySearchFunc_s_draft_entry_file_File_draft_entry_file_File_int : Goes PG FN.slices_BinarySearchFunc_s_draft_entry_file_File_draft_entry_file_File_int := TF.goes_126
theorem TG.draft_by_file_File : Goes PG FN.draft_by_file_File := TF.goes_127
theorem TG.slices_Reverse_s_draft_entry_int_draft_entry_int : Goes PG FN.slices_Reverse_s_draft_entry_int_draft_entry_int := TF.goes_146
theorem TG.slices_rotateRight_draft_entry_file_File : Goes PG FN.slices_rotateRight_draft_entry_file_File := TF.goes_148
theorem TG.slices_rotateLeft_draft_entry_file_File : Goes PG FN.slices_rotateLeft_draft_entry_file_File := TF.goes_158
theorem TG.slices_Reverse_s_draft_entry_file_File_draft_entry_file_File : Goes PG FN.slices_Reverse_s_draft_entry_file_File_draft_entry_file_File := TF.goes_161
def C_countermandlaw17_MarkCopies (B : RO) (i1 : Int) (i2 : Int) (i3 : Int) (i4 : Int) (i5 : Int) (i6 : Int) (i7 : Int) (i8 : Int) (h : Heap) (Q : Bool → Heap → Prop) : Prop :=
  Spec PG B 3 #[(Value.agg #[(Value.int .i64 (i1)), (Value.int .i64 (i2)), (Value.int .i64 (i3)), (Value.int .i64 (i4))]), (Value.int .i64 (i5)), (Value.int .i64 (i6)), (Value.int .i64 (i7)), (Value.int .i64 (i8))] h (fun v h' => ∃ b9 : Bool, v = (Value.bool b9) ∧ Q b9 h')
def C_countermandlaw17_alive (B : RO) (h : Heap) (Q : Bool → Heap → Prop) : Prop :=
  Spec PG B 14 #[] h (fun v h' => ∃ b1 : Bool, v = (Value.bool b1) ∧ Q b1 h')
def C_tome_New (B : RO) (h : Heap) (Q : Option Addr → Heap → Prop) : Prop :=
  Spec PG B 15 #[] h (fun v h' => ∃ p1 : Option Addr, v = (Value.pointer p1) ∧ Q p1 h')
def C_mark_Fresh (B : RO) (i1 : Int) (i2 : Int) (i3 : Int) (i4 : Int) (h : Heap) (Q : Option Addr → Option Addr → Option Addr → Int → Int → Int → Int → Heap → Prop) : Prop :=
  Spec PG B 16 #[(Value.agg #[(Value.int .i64 (i1)), (Value.int .i64 (i2)), (Value.int .i64 (i3)), (Value.int .i64 (i4))])] h (fun v h' => ∃ p5 : Option Addr, ∃ p6 : Option Addr, ∃ p7 : Option Addr, ∃ i8 : Int, ∃ i9 : Int, ∃ i10 : Int, ∃ i11 : Int, v = (Value.agg #[(Value.pointer p5), (Value.pointer p6), (Value.pointer p7), (Value.int .i64 (i8)), (Value.int .i64 (i9)), (Value.int .i64 (i10)), (Value.int .i64 (i11))]) ∧ Q p5 p6 p7 i8 i9 i10 i11 h')
def C_draft_Draft_int_Put (B : RO) (p1 : Option Addr) (i2 : Int) (i3 : Int) (h : Heap) (Q : Bool → Heap → Prop) : Prop :=
  Spec PG B 17 #[(Value.pointer p1), (Value.int .i64 (i2)), (Value.int .i64 (i3))] h (fun v h' => ∃ b4 : Bool, v = (Value.bool b4) ∧ Q b4 h')
def C_cursor_Cursor_Step (B : RO) (p1 : Option Addr) (i2 : Int) (h : Heap) (Q : Bool → Heap → Prop) : Prop :=
  Spec PG B 18 #[(Value.pointer p1), (Value.int .i64 (i2))] h (fun v h' => ∃ b3 : Bool, v = (Value.bool b3) ∧ Q b3 h')
def C_mark_State_Copy (B : RO) (p1 : Option Addr) (p2 : Option Addr) (p3 : Option Addr) (i4 : Int) (i5 : Int) (i6 : Int) (i7 : Int) (h : Heap) (Q : Option Addr → Option Addr → Option Addr → Int → Int → Int → Int → Heap → Prop) : Prop :=
  Spec PG B 19 #[(Value.agg #[(Value.pointer p1), (Value.pointer p2), (Value.pointer p3), (Value.int .i64 (i4)), (Value.int .i64 (i5)), (Value.int .i64 (i6)), (Value.int .i64 (i7))])] h (fun v h' => ∃ p8 : Option Addr, ∃ p9 : Option Addr, ∃ p10 : Option Addr, ∃ i11 : Int, ∃ i12 : Int, ∃ i13 : Int, ∃ i14 : Int, v = (Value.agg #[(Value.pointer p8), (Value.pointer p9), (Value.pointer p10), (Value.int .i64 (i11)), (Value.int .i64 (i12)), (Value.int .i64 (i13)), (Value.int .i64 (i14))]) ∧ Q p8 p9 p10 i11 i12 i13 i14 h')
def C_draft_Draft_int_Get (B : RO) (p1 : Option Addr) (i2 : Int) (h : Heap) (Q : Int → Bool → Heap → Prop) : Prop :=
  Spec PG B 20 #[(Value.pointer p1), (Value.int .i64 (i2))] h (fun v h' => ∃ i3 : Int, ∃ b4 : Bool, v = Value.tuple #[(Value.int .i64 (i3)), (Value.bool b4)] ∧ Q i3 b4 h')
def C_cursor_Cursor_Read (B : RO) (p1 : Option Addr) (i2 : Int) (h : Heap) (Q : Int → Heap → Prop) : Prop :=
  Spec PG B 21 #[(Value.pointer p1), (Value.int .i64 (i2))] h (fun v h' => ∃ i3 : Int, v = (Value.int .i64 (i3)) ∧ Q i3 h')
def C_sheet_Sheet_Create (B : RO) (p1 : Option Addr) (p2 : Option Addr) (i3 : Int) (h : Heap) (Q : Bool → Heap → Prop) : Prop :=
  Spec PG B 22 #[(Value.pointer p1), (Value.pointer p2), (Value.int .i64 (i3))] h (fun v h' => ∃ b4 : Bool, v = (Value.bool b4) ∧ Q b4 h')
def C_sheet_Sheet_Get (B : RO) (p1 : Option Addr) (p2 : Option Addr) (i3 : Int) (h : Heap) (Q : Bool → ByteArray → Bool → Heap → Prop) : Prop :=
  Spec PG B 23 #[(Value.pointer p1), (Value.pointer p2), (Value.int .i64 (i3))] h (fun v h' => ∃ b4 : Bool, ∃ s5 : ByteArray, ∃ b6 : Bool, v = Value.tuple #[(Value.agg #[(Value.bool b4), (Value.string s5)]), (Value.bool b6)] ∧ Q b4 s5 b6 h')
def C_sheet_Sheet_Copy (B : RO) (p1 : Option Addr) (h : Heap) (Q : Option Addr → Heap → Prop) : Prop :=
  Spec PG B 47 #[(Value.pointer p1)] h (fun v h' => ∃ p2 : Option Addr, v = (Value.pointer p2) ∧ Q p2 h')
def C_tome_Tome_Get (B : RO) (p1 : Option Addr) (i2 : Int) (h : Heap) (Q : Bool → ByteArray → Int → Heap → Prop) : Prop :=
  Spec PG B 49 #[(Value.pointer p1), (Value.int .i64 (i2))] h (fun v h' => ∃ b3 : Bool, ∃ s4 : ByteArray, ∃ i5 : Int, v = Value.tuple #[(Value.agg #[(Value.bool b3), (Value.string s4)]), (Value.int .i64 (i5))] ∧ Q b3 s4 i5 h')
def C_mark_Stack_Push (B : RO) (p1 : Option Addr) (p2 : Option Addr) (p3 : Option Addr) (p4 : Option Addr) (i5 : Int) (i6 : Int) (i7 : Int) (i8 : Int) (i9 : Int) (i10 : Int) (i11 : Int) (i12 : Int) (i13 : Int) (h : Heap) (Q : Bool → Heap → Prop) : Prop :=
  Spec PG B 57 #[(Value.pointer p1), (Value.agg #[(Value.pointer p2), (Value.pointer p3), (Value.pointer p4), (Value.int .i64 (i5)), (Value.int .i64 (i6)), (Value.int .i64 (i7)), (Value.int .i64 (i8)), (Value.int .i64 (i9)), (Value.int .i64 (i10)), (Value.int .i64 (i11)), (Value.int .i64 (i12)), (Value.int .i64 (i13))])] h (fun v h' => ∃ b14 : Bool, v = (Value.bool b14) ∧ Q b14 h')
def C_mark_Stack_Len (B : RO) (p1 : Option Addr) (h : Heap) (Q : Int → Heap → Prop) : Prop :=
  Spec PG B 58 #[(Value.pointer p1)] h (fun v h' => ∃ i2 : Int, v = (Value.int .i64 (i2)) ∧ Q i2 h')
def C_mark_Stack_Pop (B : RO) (p1 : Option Addr) (h : Heap) (Q : Option Addr → Option Addr → Option Addr → Int → Int → Int → Int → Int → Int → Int → Int → Int → Bool → Heap → Prop) : Prop :=
  Spec PG B 59 #[(Value.pointer p1)] h (fun v h' => ∃ p2 : Option Addr, ∃ p3 : Option Addr, ∃ p4 : Option Addr, ∃ i5 : Int, ∃ i6 : Int, ∃ i7 : Int, ∃ i8 : Int, ∃ i9 : Int, ∃ i10 : Int, ∃ i11 : Int, ∃ i12 : Int, ∃ i13 : Int, ∃ b14 : Bool, v = Value.tuple #[(Value.agg #[(Value.pointer p2), (Value.pointer p3), (Value.pointer p4), (Value.int .i64 (i5)), (Value.int .i64 (i6)), (Value.int .i64 (i7)), (Value.int .i64 (i8)), (Value.int .i64 (i9)), (Value.int .i64 (i10)), (Value.int .i64 (i11)), (Value.int .i64 (i12)), (Value.int .i64 (i13))]), (Value.bool b14)] ∧ Q p2 p3 p4 i5 i6 i7 i8 i9 i10 i11 i12 i13 b14 h')
def C_cell_New_file_File (B : RO) (i1 : Int) (b2 : Bool) (s3 : ByteArray) (h : Heap) (Q : Option Addr → Heap → Prop) : Prop :=
  Spec PG B 60 #[(Value.int .i64 (i1)), (Value.agg #[(Value.bool b2), (Value.string s3)])] h (fun v h' => ∃ p4 : Option Addr, v = (Value.pointer p4) ∧ Q p4 h')
def C_sheet_New (B : RO) (h : Heap) (Q : Option Addr → Heap → Prop) : Prop :=
  Spec PG B 61 #[] h (fun v h' => ∃ p1 : Option Addr, v = (Value.pointer p1) ∧ Q p1 h')
def C_draft_Draft_int_find (B : RO) (p1 : Option Addr) (i2 : Int) (h : Heap) (Q : Int → Bool → Heap → Prop) : Prop :=
  Spec PG B 62 #[(Value.pointer p1), (Value.int .i64 (i2))] h (fun v h' => ∃ i3 : Int, ∃ b4 : Bool, v = Value.tuple #[(Value.int .i64 (i3)), (Value.bool b4)] ∧ Q i3 b4 h')
def C_slices_Insert_s_draft_entry_int_draft_entry_int (B : RO) (a1 : Option Addr) (n2 : Nat) (c3 : Nat) (i4 : Int) (a5 : Option Addr) (n6 : Nat) (c7 : Nat) (h : Heap) (Q : Option Addr → Nat → Nat → Heap → Prop) : Prop :=
  Spec PG B 63 #[(Value.slice a1 n2 c3), (Value.int .i64 (i4)), (Value.slice a5 n6 c7)] h (fun v h' => ∃ a8 : Option Addr, ∃ n9 : Nat, ∃ c10 : Nat, v = (Value.slice a8 n9 c10) ∧ Q a8 n9 c10 h')
def C_cursor_is (B : RO) (i1 : Int) (h : Heap) (Q : Bool → Heap → Prop) : Prop :=
  Spec PG B 64 #[(Value.int .i64 (i1))] h (fun v h' => ∃ b2 : Bool, v = (Value.bool b2) ∧ Q b2 h')
def C_draft_Draft_int_Copy (B : RO) (p1 : Option Addr) (h : Heap) (Q : Option Addr → Heap → Prop) : Prop :=
  Spec PG B 65 #[(Value.pointer p1)] h (fun v h' => ∃ p2 : Option Addr, v = (Value.pointer p2) ∧ Q p2 h')
def C_cursor_Cursor_Copy (B : RO) (p1 : Option Addr) (h : Heap) (Q : Option Addr → Heap → Prop) : Prop :=
  Spec PG B 66 #[(Value.pointer p1)] h (fun v h' => ∃ p2 : Option Addr, v = (Value.pointer p2) ∧ Q p2 h')
def C_sheet_Sheet_put (B : RO) (p1 : Option Addr) (p2 : Option Addr) (i3 : Int) (b4 : Bool) (s5 : ByteArray) (h : Heap) (Q : Bool → Heap → Prop) : Prop :=
  Spec PG B 67 #[(Value.pointer p1), (Value.pointer p2), (Value.int .i64 (i3)), (Value.agg #[(Value.bool b4), (Value.string s5)])] h (fun v h' => ∃ b6 : Bool, v = (Value.bool b6) ∧ Q b6 h')
def C_file_Make (B : RO) (b1 : Bool) (s2 : ByteArray) (h : Heap) (Q : Bool → ByteArray → Heap → Prop) : Prop :=
  Spec PG B 68 #[(Value.agg #[(Value.bool b1), (Value.string s2)])] h (fun v h' => ∃ b3 : Bool, ∃ s4 : ByteArray, v = (Value.agg #[(Value.bool b3), (Value.string s4)]) ∧ Q b3 s4 h')
def C_draft_Draft_file_File_Get (B : RO) (p1 : Option Addr) (i2 : Int) (h : Heap) (Q : Bool → ByteArray → Bool → Heap → Prop) : Prop :=
  Spec PG B 69 #[(Value.pointer p1), (Value.int .i64 (i2))] h (fun v h' => ∃ b3 : Bool, ∃ s4 : ByteArray, ∃ b5 : Bool, v = Value.tuple #[(Value.agg #[(Value.bool b3), (Value.string s4)]), (Value.bool b5)] ∧ Q b3 s4 b5 h')
def C_draft_Draft_file_File_Copy (B : RO) (p1 : Option Addr) (h : Heap) (Q : Option Addr → Heap → Prop) : Prop :=
  Spec PG B 91 #[(Value.pointer p1)] h (fun v h' => ∃ p2 : Option Addr, v = (Value.pointer p2) ∧ Q p2 h')
def C_cell_Row_file_File_Get (B : RO) (p1 : Option Addr) (i2 : Int) (h : Heap) (Q : Bool → ByteArray → Int → Heap → Prop) : Prop :=
  Spec PG B 92 #[(Value.pointer p1), (Value.int .i64 (i2))] h (fun v h' => ∃ b3 : Bool, ∃ s4 : ByteArray, ∃ i5 : Int, v = Value.tuple #[(Value.agg #[(Value.bool b3), (Value.string s4)]), (Value.int .i64 (i5))] ∧ Q b3 s4 i5 h')
def C_slices_Delete_s_mark_Mark_mark_Mark (B : RO) (a1 : Option Addr) (n2 : Nat) (c3 : Nat) (i4 : Int) (i5 : Int) (h : Heap) (Q : Option Addr → Nat → Nat → Heap → Prop) : Prop :=
  Spec PG B 98 #[(Value.slice a1 n2 c3), (Value.int .i64 (i4)), (Value.int .i64 (i5))] h (fun v h' => ∃ a6 : Option Addr, ∃ n7 : Nat, ∃ c8 : Nat, v = (Value.slice a6 n7 c8) ∧ Q a6 n7 c8 h')
def C_slices_BinarySearchFunc_s_draft_entry_int_draft_entry_int_int (B : RO) (a1 : Option Addr) (n2 : Nat) (c3 : Nat) (i4 : Int) (v5 : Value) (h : Heap) (Q : Int → Bool → Heap → Prop) : Prop :=
  Spec PG B 99 #[(Value.slice a1 n2 c3), (Value.int .i64 (i4)), v5] h (fun v h' => ∃ i6 : Int, ∃ b7 : Bool, v = Value.tuple #[(Value.int .i64 (i6)), (Value.bool b7)] ∧ Q i6 b7 h')
def C_draft_by_int (B : RO) (i1 : Int) (i2 : Int) (i3 : Int) (h : Heap) (Q : Int → Heap → Prop) : Prop :=
  Spec PG B 100 #[(Value.agg #[(Value.int .i64 (i1)), (Value.int .i64 (i2))]), (Value.int .i64 (i3))] h (fun v h' => ∃ i4 : Int, v = (Value.int .i64 (i4)) ∧ Q i4 h')
def C_slices_rotateRight_draft_entry_int (B : RO) (a1 : Option Addr) (n2 : Nat) (c3 : Nat) (i4 : Int) (h : Heap) (Q : Heap → Prop) : Prop :=
  Spec PG B 102 #[(Value.slice a1 n2 c3), (Value.int .i64 (i4))] h (fun v h' => v = Value.tuple #[] ∧ Q  h')
def C_slices_Clone_s_draft_entry_int_draft_entry_int (B : RO) (a1 : Option Addr) (n2 : Nat) (c3 : Nat) (h : Heap) (Q : Option Addr → Nat → Nat → Heap → Prop) : Prop :=
  Spec PG B 103 #[(Value.slice a1 n2 c3)] h (fun v h' => ∃ a4 : Option Addr, ∃ n5 : Nat, ∃ c6 : Nat, v = (Value.slice a4 n5 c6) ∧ Q a4 n5 c6 h')
def C_draft_Draft_file_File_Put (B : RO) (p1 : Option Addr) (i2 : Int) (b3 : Bool) (s4 : ByteArray) (h : Heap) (Q : Bool → Heap → Prop) : Prop :=
  Spec PG B 104 #[(Value.pointer p1), (Value.int .i64 (i2)), (Value.agg #[(Value.bool b3), (Value.string s4)])] h (fun v h' => ∃ b5 : Bool, v = (Value.bool b5) ∧ Q b5 h')
def C_draft_Draft_file_File_find (B : RO) (p1 : Option Addr) (i2 : Int) (h : Heap) (Q : Int → Bool → Heap → Prop) : Prop :=
  Spec PG B 105 #[(Value.pointer p1), (Value.int .i64 (i2))] h (fun v h' => ∃ i3 : Int, ∃ b4 : Bool, v = Value.tuple #[(Value.int .i64 (i3)), (Value.bool b4)] ∧ Q i3 b4 h')
def C_slices_Clone_s_draft_entry_file_File_draft_entry_file_File (B : RO) (a1 : Option Addr) (n2 : Nat) (c3 : Nat) (h : Heap) (Q : Option Addr → Nat → Nat → Heap → Prop) : Prop :=
  Spec PG B 119 #[(Value.slice a1 n2 c3)] h (fun v h' => ∃ a4 : Option Addr, ∃ n5 : Nat, ∃ c6 : Nat, v = (Value.slice a4 n5 c6) ∧ Q a4 n5 c6 h')
def C_cell_Row_file_File_is (B : RO) (p1 : Option Addr) (i2 : Int) (h : Heap) (Q : Bool → Heap → Prop) : Prop :=
  Spec PG B 120 #[(Value.pointer p1), (Value.int .i64 (i2))] h (fun v h' => ∃ b3 : Bool, v = (Value.bool b3) ∧ Q b3 h')
def C_slices_rotateLeft_draft_entry_int (B : RO) (a1 : Option Addr) (n2 : Nat) (c3 : Nat) (i4 : Int) (h : Heap) (Q : Heap → Prop) : Prop :=
  Spec PG B 124 #[(Value.slice a1 n2 c3), (Value.int .i64 (i4))] h (fun v h' => v = Value.tuple #[] ∧ Q  h')
def C_slices_Insert_s_draft_entry_file_File_draft_entry_file_File (B : RO) (a1 : Option Addr) (n2 : Nat) (c3 : Nat) (i4 : Int) (a5 : Option Addr) (n6 : Nat) (c7 : Nat) (h : Heap) (Q : Option Addr → Nat → Nat → Heap → Prop) : Prop :=
  Spec PG B 125 #[(Value.slice a1 n2 c3), (Value.int .i64 (i4)), (Value.slice a5 n6 c7)] h (fun v h' => ∃ a8 : Option Addr, ∃ n9 : Nat, ∃ c10 : Nat, v = (Value.slice a8 n9 c10) ∧ Q a8 n9 c10 h')
def C_slices_BinarySearchFunc_s_draft_entry_file_File_draft_entry_file_File_int (B : RO) (a1 : Option Addr) (n2 : Nat) (c3 : Nat) (i4 : Int) (v5 : Value) (h : Heap) (Q : Int → Bool → Heap → Prop) : Prop :=
  Spec PG B 126 #[(Value.slice a1 n2 c3), (Value.int .i64 (i4)), v5] h (fun v h' => ∃ i6 : Int, ∃ b7 : Bool, v = Value.tuple #[(Value.int .i64 (i6)), (Value.bool b7)] ∧ Q i6 b7 h')
def C_draft_by_file_File (B : RO) (i1 : Int) (b2 : Bool) (s3 : ByteArray) (i4 : Int) (h : Heap) (Q : Int → Heap → Prop) : Prop :=
  Spec PG B 127 #[(Value.agg #[(Value.int .i64 (i1)), (Value.bool b2), (Value.string s3)]), (Value.int .i64 (i4))] h (fun v h' => ∃ i5 : Int, v = (Value.int .i64 (i5)) ∧ Q i5 h')
def C_slices_Reverse_s_draft_entry_int_draft_entry_int (B : RO) (a1 : Option Addr) (n2 : Nat) (c3 : Nat) (h : Heap) (Q : Heap → Prop) : Prop :=
  Spec PG B 146 #[(Value.slice a1 n2 c3)] h (fun v h' => v = Value.tuple #[] ∧ Q  h')
def C_slices_rotateRight_draft_entry_file_File (B : RO) (a1 : Option Addr) (n2 : Nat) (c3 : Nat) (i4 : Int) (h : Heap) (Q : Heap → Prop) : Prop :=
  Spec PG B 148 #[(Value.slice a1 n2 c3), (Value.int .i64 (i4))] h (fun v h' => v = Value.tuple #[] ∧ Q  h')
def C_slices_rotateLeft_draft_entry_file_File (B : RO) (a1 : Option Addr) (n2 : Nat) (c3 : Nat) (i4 : Int) (h : Heap) (Q : Heap → Prop) : Prop :=
  Spec PG B 158 #[(Value.slice a1 n2 c3), (Value.int .i64 (i4))] h (fun v h' => v = Value.tuple #[] ∧ Q  h')
def C_slices_Reverse_s_draft_entry_file_File_draft_entry_file_File (B : RO) (a1 : Option Addr) (n2 : Nat) (c3 : Nat) (h : Heap) (Q : Heap → Prop) : Prop :=
  Spec PG B 161 #[(Value.slice a1 n2 c3)] h (fun v h' => v = Value.tuple #[] ∧ Q  h')
end Go.Proofs.Ytcncdfmnpmmikaa.H
