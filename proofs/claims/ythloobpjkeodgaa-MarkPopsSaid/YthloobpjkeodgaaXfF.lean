/- Calls and facts. No condition. -/
import Derived.Test.YthloobpjkeodgaaHs
import Derived.Test.YthloobpjkeodgaaProg
import Derived.KernelRfl
namespace Go.Proofs.Ythloobpjkeodgaa.H
open Go
set_option linter.unusedVariables false
set_option maxRecDepth 100000

noncomputable abbrev PG : Program := Go.Proofs.Try.prog
abbrev TY.int64 : TypeId := 2
abbrev TY.int : TypeId := 3
abbrev TY.bool : TypeId := 4
abbrev TY.uint8 : TypeId := 5
abbrev TY.abi_BoundsErrorCode : TypeId := 6
abbrev TY.runtime_boundsError : TypeId := 8
abbrev TY.string : TypeId := 9
abbrev TY.runtime_errorString : TypeId := 10
abbrev TY.runtime_plainError : TypeId := 11
abbrev TY.uintptr : TypeId := 12
abbrev TY.runtime_errorAddressString : TypeId := 14
abbrev TY.p_runtime_TypeAssertionError : TypeId := 15
abbrev TY.p_runtime_PanicNilError : TypeId := 16
abbrev TY.p_abi_Type : TypeId := 17
abbrev TY.maps_unhashableTypeError : TypeId := 19
abbrev TY.int32 : TypeId := 21
abbrev TY.s_countermandlaw16_Step : TypeId := 22
abbrev TY.p_acts_Acts : TypeId := 24
abbrev TY.s_acts_Out : TypeId := 25
abbrev TY.s_int : TypeId := 26
abbrev TY.s_acts_Open : TypeId := 27
abbrev TY.acts_Acts : TypeId := 29
abbrev TY.s_countermandref16_Act : TypeId := 30
abbrev TY.countermandref16_Act : TypeId := 32
abbrev TY.a_4_int : TypeId := 33
abbrev TY.countermandlaw16_Step : TypeId := 35
abbrev TY.acts_Mark : TypeId := 42
abbrev TY.s_string : TypeId := 55
abbrev TY.p_wal_Log : TypeId := 57
abbrev TY.api_Errno : TypeId := 58
abbrev TY.p_disk_Disk : TypeId := 61
abbrev TY.iter_Seq_string : TypeId := 66
abbrev TY.s_countermandlaw04_Call : TypeId := 69
abbrev TY.countermandlaw04_Call : TypeId := 73
abbrev TY.p_countermandlaw04_both : TypeId := 80
abbrev TY.p_countermandref04_Log : TypeId := 83
abbrev TY.countermandlaw04_both : TypeId := 85
abbrev TY.p_countermandref03_Disk : TypeId := 88
abbrev TY.countermandref04_Log : TypeId := 90
abbrev TY.s_countermandref03_Change : TypeId := 92
abbrev TY.countermandref03_Disk : TypeId := 94
abbrev TY.s_redo_Change : TypeId := 96
abbrev TY.s_countermandref18_Change : TypeId := 99
abbrev TY.p_draft_Draft_file_File : TypeId := 105
abbrev TY.file_File : TypeId := 111
abbrev TY.a_6_file_File : TypeId := 112
abbrev TY.p_tome_Tome : TypeId := 113
abbrev TY.countermandref09_File : TypeId := 114
abbrev TY.a_6_countermandref09_File : TypeId := 115
abbrev TY.countermandref18_Change : TypeId := 122
abbrev TY.s_countermandlaw17_Step : TypeId := 130
abbrev TY.p_mark_Stack : TypeId := 131
abbrev TY.s_mark_Mark : TypeId := 132
abbrev TY.mark_Stack : TypeId := 134
abbrev TY.p_draft_Draft_int : TypeId := 135
abbrev TY.p_sheet_Sheet : TypeId := 136
abbrev TY.p_cursor_Cursor : TypeId := 137
abbrev TY.api_Regs : TypeId := 138
abbrev TY.mark_State : TypeId := 140
abbrev TY.s_countermandref13_Put : TypeId := 142
abbrev TY.countermandref17_State : TypeId := 144
abbrev TY.s_countermandref17_Mark : TypeId := 145
abbrev TY.countermandlaw17_Step : TypeId := 146
abbrev TY.countermandref13_Put : TypeId := 148
abbrev TY.mark_Mark : TypeId := 151
abbrev TY.countermandref17_Mark : TypeId := 154
abbrev TY.acts_Open : TypeId := 160
abbrev TY.acts_Out : TypeId := 163
abbrev TY.wal_Log : TypeId := 171
abbrev TY.disk_area : TypeId := 173
abbrev TY.a_2_disk_area : TypeId := 174
abbrev TY.s_disk_change : TypeId := 175
abbrev TY.disk_Disk : TypeId := 177
abbrev TY.disk_change : TypeId := 181
abbrev TY.countermandref03_Change : TypeId := 189
abbrev TY.s_draft_entry_file_File : TypeId := 191
abbrev TY.draft_Draft_file_File : TypeId := 193
abbrev TY.p_stylus_Reader : TypeId := 195
abbrev TY.redo_Change : TypeId := 199
abbrev TY.uint64 : TypeId := 202
abbrev TY.iter_Seq2_int_file_File : TypeId := 205
abbrev TY.p_stylus_Stylus : TypeId := 207
abbrev TY.s_uint8 : TypeId := 208
abbrev TY.stylus_Stylus : TypeId := 210
abbrev TY.p_cell_Row_file_File : TypeId := 215
abbrev TY.tome_Tome : TypeId := 217
abbrev TY.s_draft_entry_int : TypeId := 218
abbrev TY.draft_Draft_int : TypeId := 220
abbrev TY.a_3_int : TypeId := 222
abbrev TY.cursor_Cursor : TypeId := 224
abbrev TY.draft_entry_int : TypeId := 228
abbrev TY.iter_Seq2_int_int : TypeId := 234
abbrev TY.iter_Seq2_int_acts_Open : TypeId := 238
abbrev TY.s_s_acts_Out : TypeId := 240
abbrev TY.uint : TypeId := 241
abbrev TY.uint32 : TypeId := 243
abbrev TY.draft_entry_file_File : TypeId := 246
abbrev TY.stylus_Reader : TypeId := 249
abbrev TY.cell_slot_file_File : TypeId := 257
abbrev TY.s_cell_slot_file_File : TypeId := 258
abbrev TY.cell_Row_file_File : TypeId := 260
abbrev TY.sheet_Sheet : TypeId := 262
abbrev TY.runtime_TypeAssertionError : TypeId := 280
abbrev TY.a_0_p_runtime_PanicNilError : TypeId := 281
abbrev TY.runtime_PanicNilError : TypeId := 283
abbrev TY.abi_TFlag : TypeId := 284
abbrev TY.abi_Kind : TypeId := 285
abbrev TY.p_uint8 : TypeId := 287
abbrev TY.abi_NameOff : TypeId := 288
abbrev TY.abi_TypeOff : TypeId := 289
abbrev TY.abi_Type : TypeId := 291
theorem TF.agg_105 : aggB PG 105 = some false := by kernel_rfl
theorem TF.agg_132 : aggB PG 132 = some false := by kernel_rfl
theorem TF.agg_135 : aggB PG 135 = some false := by kernel_rfl
theorem TF.agg_136 : aggB PG 136 = some false := by kernel_rfl
theorem TF.agg_137 : aggB PG 137 = some false := by kernel_rfl
theorem TF.agg_138 : aggB PG 138 = some true := by kernel_rfl
theorem TF.agg_140 : aggB PG 140 = some true := by kernel_rfl
theorem TF.agg_142 : aggB PG 142 = some false := by kernel_rfl
theorem TF.agg_144 : aggB PG 144 = some true := by kernel_rfl
theorem TF.agg_146 : aggB PG 146 = some true := by kernel_rfl
theorem TF.agg_148 : aggB PG 148 = some true := by kernel_rfl
theorem TF.agg_151 : aggB PG 151 = some true := by kernel_rfl
theorem TF.agg_154 : aggB PG 154 = some true := by kernel_rfl
theorem TF.agg_191 : aggB PG 191 = some false := by kernel_rfl
theorem TF.agg_218 : aggB PG 218 = some false := by kernel_rfl
theorem TF.agg_224 : aggB PG 224 = some true := by kernel_rfl
theorem TF.agg_228 : aggB PG 228 = some true := by kernel_rfl
theorem TF.agg_26 : aggB PG 26 = some false := by kernel_rfl
theorem TF.agg_3 : aggB PG 3 = some false := by kernel_rfl
theorem TF.agg_4 : aggB PG 4 = some false := by kernel_rfl
theorem TF.arr_138 : arrB PG 138 = some (4, 3, 1, false) := by kernel_rfl
theorem TF.arr_222 : arrB PG 222 = some (3, 3, 1, false) := by kernel_rfl
theorem TF.arr_42 : arrB PG 42 = some (4, 3, 1, false) := by kernel_rfl
theorem TF.bool_4 : boolT PG 4 = true := by kernel_rfl
theorem TF.fld_134_0 : fldB PG 134 0 = some 0 := by kernel_rfl
theorem TF.fld_140_0 : fldB PG 140 0 = some 0 := by kernel_rfl
theorem TF.fld_140_1 : fldB PG 140 1 = some 1 := by kernel_rfl
theorem TF.fld_140_2 : fldB PG 140 2 = some 2 := by kernel_rfl
theorem TF.fld_140_3 : fldB PG 140 3 = some 3 := by kernel_rfl
theorem TF.fld_144_0 : fldB PG 144 0 = some 0 := by kernel_rfl
theorem TF.fld_144_1 : fldB PG 144 1 = some 1 := by kernel_rfl
theorem TF.fld_144_2 : fldB PG 144 2 = some 2 := by kernel_rfl
theorem TF.fld_146_0 : fldB PG 146 0 = some 0 := by kernel_rfl
theorem TF.fld_146_1 : fldB PG 146 1 = some 1 := by kernel_rfl
theorem TF.fld_146_2 : fldB PG 146 2 = some 2 := by kernel_rfl
theorem TF.fld_148_0 : fldB PG 148 0 = some 0 := by kernel_rfl
theorem TF.fld_148_1 : fldB PG 148 1 = some 1 := by kernel_rfl
theorem TF.fld_151_0 : fldB PG 151 0 = some 0 := by kernel_rfl
theorem TF.fld_151_1 : fldB PG 151 1 = some 7 := by kernel_rfl
theorem TF.fld_151_2 : fldB PG 151 2 = some 11 := by kernel_rfl
theorem TF.fld_154_0 : fldB PG 154 0 = some 0 := by kernel_rfl
theorem TF.fld_154_1 : fldB PG 154 1 = some 3 := by kernel_rfl
theorem TF.fld_193_0 : fldB PG 193 0 = some 0 := by kernel_rfl
theorem TF.fld_220_0 : fldB PG 220 0 = some 0 := by kernel_rfl
theorem TF.fld_224_0 : fldB PG 224 0 = some 0 := by kernel_rfl
theorem TF.fld_228_0 : fldB PG 228 0 = some 0 := by kernel_rfl
theorem TF.fld_228_1 : fldB PG 228 1 = some 1 := by kernel_rfl
theorem TF.fld_262_0 : fldB PG 262 0 = some 0 := by kernel_rfl
theorem TF.goes_120 : Goes PG 120 := ⟨Try.f120, Try.func120, by kernel_rfl, by kernel_rfl⟩
theorem TF.goes_121 : Goes PG 121 := ⟨Try.f121, Try.func121, by kernel_rfl, by kernel_rfl⟩
theorem TF.goes_122 : Goes PG 122 := ⟨Try.f122, Try.func122, by kernel_rfl, by kernel_rfl⟩
theorem TF.goes_123 : Goes PG 123 := ⟨Try.f123, Try.func123, by kernel_rfl, by kernel_rfl⟩
theorem TF.goes_124 : Goes PG 124 := ⟨Try.f124, Try.func124, by kernel_rfl, by kernel_rfl⟩
theorem TF.goes_125 : Goes PG 125 := ⟨Try.f125, Try.func125, by kernel_rfl, by kernel_rfl⟩
theorem TF.goes_126 : Goes PG 126 := ⟨Try.f126, Try.func126, by kernel_rfl, by kernel_rfl⟩
theorem TF.goes_127 : Goes PG 127 := ⟨Try.f127, Try.func127, by kernel_rfl, by kernel_rfl⟩
theorem TF.goes_128 : Goes PG 128 := ⟨Try.f128, Try.func128, by kernel_rfl, by kernel_rfl⟩
theorem TF.goes_129 : Goes PG 129 := ⟨Try.f129, Try.func129, by kernel_rfl, by kernel_rfl⟩
theorem TF.goes_14 : Goes PG 14 := ⟨Try.f14, Try.func14, by kernel_rfl, by kernel_rfl⟩
theorem TF.goes_150 : Goes PG 150 := ⟨Try.f150, Try.func150, by kernel_rfl, by kernel_rfl⟩
theorem TF.goes_151 : Goes PG 151 := ⟨Try.f151, Try.func151, by kernel_rfl, by kernel_rfl⟩
theorem TF.goes_153 : Goes PG 153 := ⟨Try.f153, Try.func153, by kernel_rfl, by kernel_rfl⟩
theorem TF.goes_154 : Goes PG 154 := ⟨Try.f154, Try.func154, by kernel_rfl, by kernel_rfl⟩
theorem TF.goes_155 : Goes PG 155 := ⟨Try.f155, Try.func155, by kernel_rfl, by kernel_rfl⟩
theorem TF.goes_156 : Goes PG 156 := ⟨Try.f156, Try.func156, by kernel_rfl, by kernel_rfl⟩
theorem TF.goes_157 : Goes PG 157 := ⟨Try.f157, Try.func157, by kernel_rfl, by kernel_rfl⟩
theorem TF.goes_164 : Goes PG 164 := ⟨Try.f164, Try.func164, by kernel_rfl, by kernel_rfl⟩
theorem TF.goes_165 : Goes PG 165 := ⟨Try.f165, Try.func165, by kernel_rfl, by kernel_rfl⟩
theorem TF.goes_166 : Goes PG 166 := ⟨Try.f166, Try.func166, by kernel_rfl, by kernel_rfl⟩
theorem TF.goes_168 : Goes PG 168 := ⟨Try.f168, Try.func168, by kernel_rfl, by kernel_rfl⟩
theorem TF.goes_169 : Goes PG 169 := ⟨Try.f169, Try.func169, by kernel_rfl, by kernel_rfl⟩
theorem TF.goes_73 : Goes PG 73 := ⟨Try.f73, Try.func73, by kernel_rfl, by kernel_rfl⟩
theorem TF.goes_74 : Goes PG 74 := ⟨Try.f74, Try.func74, by kernel_rfl, by kernel_rfl⟩
theorem TF.goes_75 : Goes PG 75 := ⟨Try.f75, Try.func75, by kernel_rfl, by kernel_rfl⟩
theorem TF.goes_76 : Goes PG 76 := ⟨Try.f76, Try.func76, by kernel_rfl, by kernel_rfl⟩
theorem TF.goes_77 : Goes PG 77 := ⟨Try.f77, Try.func77, by kernel_rfl, by kernel_rfl⟩
theorem TF.goes_78 : Goes PG 78 := ⟨Try.f78, Try.func78, by kernel_rfl, by kernel_rfl⟩
theorem TF.goes_79 : Goes PG 79 := ⟨Try.f79, Try.func79, by kernel_rfl, by kernel_rfl⟩
theorem TF.goes_80 : Goes PG 80 := ⟨Try.f80, Try.func80, by kernel_rfl, by kernel_rfl⟩
theorem TF.goes_81 : Goes PG 81 := ⟨Try.f81, Try.func81, by kernel_rfl, by kernel_rfl⟩
theorem TF.goes_82 : Goes PG 82 := ⟨Try.f82, Try.func82, by kernel_rfl, by kernel_rfl⟩
theorem TF.goesx_152 : GoesX PG 152 (Extern.SlicesOverlaps.overlaps #[218, 218] #[4]) := ⟨Try.f152, Try.func152, by kernel_rfl, by kernel_rfl, by kernel_rfl, by kernel_rfl⟩
theorem TF.int_241 : intB PG 241 = some .u64 := by kernel_rfl
theorem TF.int_3 : intB PG 3 = some .i64 := by kernel_rfl
theorem TF.mixed : PG.follows .mixedOrders = true := by kernel_rfl
theorem TF.places_134 : strPlaces PG 134 = some [(0, 1)] := by kernel_rfl
theorem TF.places_140 : strPlaces PG 140 = some [(0, 1), (1, 1), (2, 1), (3, 4)] := by kernel_rfl
theorem TF.places_144 : strPlaces PG 144 = some [(0, 1), (1, 1), (2, 1)] := by kernel_rfl
theorem TF.places_148 : strPlaces PG 148 = some [(0, 1), (1, 1)] := by kernel_rfl
theorem TF.places_151 : strPlaces PG 151 = some [(0, 7), (7, 4), (11, 1)] := by kernel_rfl
theorem TF.places_154 : strPlaces PG 154 = some [(0, 3), (3, 1)] := by kernel_rfl
theorem TF.places_193 : strPlaces PG 193 = some [(0, 1)] := by kernel_rfl
theorem TF.places_220 : strPlaces PG 220 = some [(0, 1)] := by kernel_rfl
theorem TF.places_224 : strPlaces PG 224 = some [(0, 3)] := by kernel_rfl
theorem TF.places_228 : strPlaces PG 228 = some [(0, 1), (1, 1)] := by kernel_rfl
theorem TF.places_262 : strPlaces PG 262 = some [(0, 1)] := by kernel_rfl
theorem TF.ptr_105 : ptrB PG 105 = true := by kernel_rfl
theorem TF.ptr_131 : ptrB PG 131 = true := by kernel_rfl
theorem TF.ptr_135 : ptrB PG 135 = true := by kernel_rfl
theorem TF.ptr_136 : ptrB PG 136 = true := by kernel_rfl
theorem TF.ptr_137 : ptrB PG 137 = true := by kernel_rfl
theorem TF.sl_130 : slT PG 130 = true := by kernel_rfl
theorem TF.sl_132 : slT PG 132 = true := by kernel_rfl
theorem TF.sl_142 : slT PG 142 = true := by kernel_rfl
theorem TF.sl_145 : slT PG 145 = true := by kernel_rfl
theorem TF.sl_191 : slT PG 191 = true := by kernel_rfl
theorem TF.sl_218 : slT PG 218 = true := by kernel_rfl
theorem TF.sl_26 : slT PG 26 = true := by kernel_rfl
theorem TF.slc_130 : slcB PG 130 = some (146, 3, 24) := by kernel_rfl
theorem TF.slc_132 : slcB PG 132 = some (151, 12, 96) := by kernel_rfl
theorem TF.slc_142 : slcB PG 142 = some (148, 2, 16) := by kernel_rfl
theorem TF.slc_145 : slcB PG 145 = some (154, 4, 48) := by kernel_rfl
theorem TF.slc_191 : slcB PG 191 = some (246, 3, 32) := by kernel_rfl
theorem TF.slc_218 : slcB PG 218 = some (228, 2, 16) := by kernel_rfl
theorem TF.slc_26 : slcB PG 26 = some (3, 1, 8) := by kernel_rfl
theorem TF.sz_132 : szB PG 132 = some 1 := by kernel_rfl
theorem TF.sz_138 : szB PG 138 = some 4 := by kernel_rfl
theorem TF.sz_140 : szB PG 140 = some 7 := by kernel_rfl
theorem TF.sz_142 : szB PG 142 = some 1 := by kernel_rfl
theorem TF.sz_144 : szB PG 144 = some 3 := by kernel_rfl
theorem TF.sz_146 : szB PG 146 = some 3 := by kernel_rfl
theorem TF.sz_148 : szB PG 148 = some 2 := by kernel_rfl
theorem TF.sz_151 : szB PG 151 = some 12 := by kernel_rfl
theorem TF.sz_154 : szB PG 154 = some 4 := by kernel_rfl
theorem TF.sz_218 : szB PG 218 = some 1 := by kernel_rfl
theorem TF.sz_224 : szB PG 224 = some 3 := by kernel_rfl
theorem TF.sz_228 : szB PG 228 = some 2 := by kernel_rfl
theorem TF.sz_26 : szB PG 26 = some 1 := by kernel_rfl
theorem TF.sz_3 : szB PG 3 = some 1 := by kernel_rfl
theorem TF.sz_4 : szB PG 4 = some 1 := by kernel_rfl
theorem TF.zero_134 : zeroB PG 134 = some [(Value.slice none 0 0)] := by kernel_rfl
theorem TF.zero_138 : zeroB PG 138 = some [(Value.int .i64 (0)), (Value.int .i64 (0)), (Value.int .i64 (0)), (Value.int .i64 (0))] := by kernel_rfl
theorem TF.zero_140 : zeroB PG 140 = some [(Value.pointer none), (Value.pointer none), (Value.pointer none), (Value.int .i64 (0)), (Value.int .i64 (0)), (Value.int .i64 (0)), (Value.int .i64 (0))] := by kernel_rfl
theorem TF.zero_144 : zeroB PG 144 = some [(Value.slice none 0 0), (Value.int .i64 (0)), (Value.int .i64 (0))] := by kernel_rfl
theorem TF.zero_146 : zeroB PG 146 = some [(Value.int .i64 (0)), (Value.int .i64 (0)), (Value.int .i64 (0))] := by kernel_rfl
theorem TF.zero_148 : zeroB PG 148 = some [(Value.int .i64 (0)), (Value.int .i64 (0))] := by kernel_rfl
theorem TF.zero_151 : zeroB PG 151 = some [(Value.pointer none), (Value.pointer none), (Value.pointer none), (Value.int .i64 (0)), (Value.int .i64 (0)), (Value.int .i64 (0)), (Value.int .i64 (0)), (Value.int .i64 (0)), (Value.int .i64 (0)), (Value.int .i64 (0)), (Value.int .i64 (0)), (Value.int .i64 (0))] := by kernel_rfl
theorem TF.zero_154 : zeroB PG 154 = some [(Value.slice none 0 0), (Value.int .i64 (0)), (Value.int .i64 (0)), (Value.int .i64 (0))] := by kernel_rfl
theorem TF.zero_193 : zeroB PG 193 = some [(Value.slice none 0 0)] := by kernel_rfl
theorem TF.zero_220 : zeroB PG 220 = some [(Value.slice none 0 0)] := by kernel_rfl
theorem TF.zero_224 : zeroB PG 224 = some [(Value.int .i64 (0)), (Value.int .i64 (0)), (Value.int .i64 (0))] := by kernel_rfl
theorem TF.zero_228 : zeroB PG 228 = some [(Value.int .i64 (0)), (Value.int .i64 (0))] := by kernel_rfl
theorem TF.zero_26 : zeroB PG 26 = some [(Value.slice none 0 0)] := by kernel_rfl
theorem TF.zero_262 : zeroB PG 262 = some [(Value.pointer none)] := by kernel_rfl
theorem TF.zero_3 : zeroB PG 3 = some [(Value.int .i64 (0))] := by kernel_rfl
theorem TF.zero_4 : zeroB PG 4 = some [(Value.bool false)] := by kernel_rfl
theorem TF.zero_42 : zeroB PG 42 = some [(Value.int .i64 (0)), (Value.int .i64 (0)), (Value.int .i64 (0)), (Value.int .i64 (0))] := by kernel_rfl
abbrev FN.countermandlaw17_MarkPops : FuncId := 14
abbrev FN.countermandlaw17_alive : FuncId := 73
abbrev FN.mark_Fresh : FuncId := 74
abbrev FN.draft_Draft_int_Put : FuncId := 75
abbrev FN.cursor_Cursor_Step : FuncId := 76
abbrev FN.mark_Stack_Push : FuncId := 77
abbrev FN.countermandref17_Copy : FuncId := 78
abbrev FN.mark_Stack_Pop : FuncId := 79
abbrev FN.countermandlaw17_same : FuncId := 80
abbrev FN.mark_Stack_Clear : FuncId := 81
abbrev FN.mark_Stack_Len : FuncId := 82
abbrev FN.sheet_New : FuncId := 120
abbrev FN.draft_Draft_int_find : FuncId := 121
abbrev FN.slices_Insert_s_draft_entry_int_draft_entry_int : FuncId := 122
abbrev FN.cursor_is : FuncId := 123
abbrev FN.mark_State_Copy : FuncId := 124
abbrev FN.slices_Delete_s_mark_Mark_mark_Mark : FuncId := 125
abbrev FN.countermandref13_Numbers : FuncId := 126
abbrev FN.draft_Draft_int_All : FuncId := 127
abbrev FN.countermandref13_Get : FuncId := 128
abbrev FN.cursor_Cursor_Read : FuncId := 129
abbrev FN.slices_BinarySearchFunc_s_draft_entry_int_draft_entry_int_int : FuncId := 150
abbrev FN.draft_by_int : FuncId := 151
abbrev FN.slices_rotateRight_draft_entry_int : FuncId := 153
abbrev FN.draft_Draft_int_Copy : FuncId := 154
abbrev FN.sheet_Sheet_Copy : FuncId := 155
abbrev FN.cursor_Cursor_Copy : FuncId := 156
abbrev FN.draft_Draft_int_All_1 : FuncId := 157
abbrev FN.slices_rotateLeft_draft_entry_int : FuncId := 164
abbrev FN.slices_Clone_s_draft_entry_int_draft_entry_int : FuncId := 165
abbrev FN.draft_Draft_file_File_Copy : FuncId := 166
abbrev FN.slices_Reverse_s_draft_entry_int_draft_entry_int : FuncId := 168
abbrev FN.slices_Clone_s_draft_entry_file_File_draft_entry_file_File : FuncId := 169
theorem TG.countermandlaw17_MarkPops : Goes PG FN.countermandlaw17_MarkPops := TF.goes_14
theorem TG.countermandlaw17_alive : Goes PG FN.countermandlaw17_alive := TF.goes_73
theorem TG.mark_Fresh : Goes PG FN.mark_Fresh := TF.goes_74
theorem TG.draft_Draft_int_Put : Goes PG FN.draft_Draft_int_Put := TF.goes_75
theorem TG.cursor_Cursor_Step : Goes PG FN.cursor_Cursor_Step := TF.goes_76
theorem TG.mark_Stack_Push : Goes PG FN.mark_Stack_Push := TF.goes_77
theorem TG.countermandref17_Copy : Goes PG FN.countermandref17_Copy := TF.goes_78
theorem TG.mark_Stack_Pop : Goes PG FN.mark_Stack_Pop := TF.goes_79
theorem TG.countermandlaw17_same : Goes PG FN.countermandlaw17_same := TF.goes_80
theorem TG.mark_Stack_Clear : Goes PG FN.mark_Stack_Clear := TF.goes_81
theorem TG.mark_Stack_Len : Goes PG FN.mark_Stack_Len := TF.goes_82
theorem TG.sheet_New : Goes PG FN.sheet_New := TF.goes_120
theorem TG.draft_Draft_int_find : Goes PG FN.draft_Draft_int_find := TF.goes_121
theorem TG.slices_Insert_s_draft_entry_int_draft_entry_int : Goes PG FN.slices_Insert_s_draft_entry_int_draft_entry_int := TF.goes_122
theorem TG.cursor_is : Goes PG FN.cursor_is := TF.goes_123
theorem TG.mark_State_Copy : Goes PG FN.mark_State_Copy := TF.goes_124
theorem TG.slices_Delete_s_mark_Mark_mark_Mark : Goes PG FN.slices_Delete_s_mark_Mark_mark_Mark := TF.goes_125
theorem TG.countermandref13_Numbers : Goes PG FN.countermandref13_Numbers := TF.goes_126
theorem TG.draft_Draft_int_All : Goes PG FN.draft_Draft_int_All := TF.goes_127
theorem TG.countermandref13_Get : Goes PG FN.countermandref13_Get := TF.goes_128
theorem TG.cursor_Cursor_Read : Goes PG FN.cursor_Cursor_Read := TF.goes_129
theorem TG.slices_BinarySearchFunc_s_draft_entry_int_draft_entry_int_int : Goes PG FN.slices_BinarySearchFunc_s_draft_entry_int_draft_entry_int_int := TF.goes_150
theorem TG.draft_by_int : Goes PG FN.draft_by_int := TF.goes_151
theorem TG.slices_rotateRight_draft_entry_int : Goes PG FN.slices_rotateRight_draft_entry_int := TF.goes_153
theorem TG.draft_Draft_int_Copy : Goes PG FN.draft_Draft_int_Copy := TF.goes_154
theorem TG.sheet_Sheet_Copy : Goes PG FN.sheet_Sheet_Copy := TF.goes_155
theorem TG.cursor_Cursor_Copy : Goes PG FN.cursor_Cursor_Copy := TF.goes_156
theorem TG.draft_Draft_int_All_1 : Goes PG FN.draft_Draft_int_All_1 := TF.goes_157
theorem TG.slices_rotateLeft_draft_entry_int : Goes PG FN.slices_rotateLeft_draft_entry_int := TF.goes_164
theorem TG.slices_Clone_s_draft_entry_int_draft_entry_int : Goes PG FN.slices_Clone_s_draft_entry_int_draft_entry_int := TF.goes_165
theorem TG.draft_Draft_file_File_Copy : Goes PG FN.draft_Draft_file_File_Copy := TF.goes_166
theorem TG.slices_Reverse_s_draft_entry_int_draft_entry_int : Goes PG FN.slices_Reverse_s_draft_entry_int_draft_entry_int := TF.goes_168
theorem TG.slices_Clone_s_draft_entry_file_File_draft_entry_file_File : Goes PG FN.slices_Clone_s_draft_entry_file_File_draft_entry_file_File := TF.goes_169
def C_countermandlaw17_MarkPops (B : RO) (a1 : Option Addr) (n2 : Nat) (c3 : Nat) (h : Heap) (Q : Bool → Heap → Prop) : Prop :=
  Spec PG B 14 #[(Value.slice a1 n2 c3)] h (fun v h' => ∃ b4 : Bool, v = (Value.bool b4) ∧ Q b4 h')
def C_countermandlaw17_alive (B : RO) (h : Heap) (Q : Bool → Heap → Prop) : Prop :=
  Spec PG B 73 #[] h (fun v h' => ∃ b1 : Bool, v = (Value.bool b1) ∧ Q b1 h')
def C_mark_Fresh (B : RO) (i1 : Int) (i2 : Int) (i3 : Int) (i4 : Int) (h : Heap) (Q : Option Addr → Option Addr → Option Addr → Int → Int → Int → Int → Heap → Prop) : Prop :=
  Spec PG B 74 #[(Value.agg #[(Value.int .i64 (i1)), (Value.int .i64 (i2)), (Value.int .i64 (i3)), (Value.int .i64 (i4))])] h (fun v h' => ∃ p5 : Option Addr, ∃ p6 : Option Addr, ∃ p7 : Option Addr, ∃ i8 : Int, ∃ i9 : Int, ∃ i10 : Int, ∃ i11 : Int, v = (Value.agg #[(Value.pointer p5), (Value.pointer p6), (Value.pointer p7), (Value.int .i64 (i8)), (Value.int .i64 (i9)), (Value.int .i64 (i10)), (Value.int .i64 (i11))]) ∧ Q p5 p6 p7 i8 i9 i10 i11 h')
def C_draft_Draft_int_Put (B : RO) (p1 : Option Addr) (i2 : Int) (i3 : Int) (h : Heap) (Q : Bool → Heap → Prop) : Prop :=
  Spec PG B 75 #[(Value.pointer p1), (Value.int .i64 (i2)), (Value.int .i64 (i3))] h (fun v h' => ∃ b4 : Bool, v = (Value.bool b4) ∧ Q b4 h')
def C_cursor_Cursor_Step (B : RO) (p1 : Option Addr) (i2 : Int) (h : Heap) (Q : Bool → Heap → Prop) : Prop :=
  Spec PG B 76 #[(Value.pointer p1), (Value.int .i64 (i2))] h (fun v h' => ∃ b3 : Bool, v = (Value.bool b3) ∧ Q b3 h')
def C_mark_Stack_Push (B : RO) (p1 : Option Addr) (p2 : Option Addr) (p3 : Option Addr) (p4 : Option Addr) (i5 : Int) (i6 : Int) (i7 : Int) (i8 : Int) (i9 : Int) (i10 : Int) (i11 : Int) (i12 : Int) (i13 : Int) (h : Heap) (Q : Bool → Heap → Prop) : Prop :=
  Spec PG B 77 #[(Value.pointer p1), (Value.agg #[(Value.pointer p2), (Value.pointer p3), (Value.pointer p4), (Value.int .i64 (i5)), (Value.int .i64 (i6)), (Value.int .i64 (i7)), (Value.int .i64 (i8)), (Value.int .i64 (i9)), (Value.int .i64 (i10)), (Value.int .i64 (i11)), (Value.int .i64 (i12)), (Value.int .i64 (i13))])] h (fun v h' => ∃ b14 : Bool, v = (Value.bool b14) ∧ Q b14 h')
def C_countermandref17_Copy (B : RO) (a1 : Option Addr) (n2 : Nat) (c3 : Nat) (i4 : Int) (i5 : Int) (h : Heap) (Q : Option Addr → Nat → Nat → Int → Int → Heap → Prop) : Prop :=
  Spec PG B 78 #[(Value.agg #[(Value.slice a1 n2 c3), (Value.int .i64 (i4)), (Value.int .i64 (i5))])] h (fun v h' => ∃ a6 : Option Addr, ∃ n7 : Nat, ∃ c8 : Nat, ∃ i9 : Int, ∃ i10 : Int, v = (Value.agg #[(Value.slice a6 n7 c8), (Value.int .i64 (i9)), (Value.int .i64 (i10))]) ∧ Q a6 n7 c8 i9 i10 h')
def C_mark_Stack_Pop (B : RO) (p1 : Option Addr) (h : Heap) (Q : Option Addr → Option Addr → Option Addr → Int → Int → Int → Int → Int → Int → Int → Int → Int → Bool → Heap → Prop) : Prop :=
  Spec PG B 79 #[(Value.pointer p1)] h (fun v h' => ∃ p2 : Option Addr, ∃ p3 : Option Addr, ∃ p4 : Option Addr, ∃ i5 : Int, ∃ i6 : Int, ∃ i7 : Int, ∃ i8 : Int, ∃ i9 : Int, ∃ i10 : Int, ∃ i11 : Int, ∃ i12 : Int, ∃ i13 : Int, ∃ b14 : Bool, v = Value.tuple #[(Value.agg #[(Value.pointer p2), (Value.pointer p3), (Value.pointer p4), (Value.int .i64 (i5)), (Value.int .i64 (i6)), (Value.int .i64 (i7)), (Value.int .i64 (i8)), (Value.int .i64 (i9)), (Value.int .i64 (i10)), (Value.int .i64 (i11)), (Value.int .i64 (i12)), (Value.int .i64 (i13))]), (Value.bool b14)] ∧ Q p2 p3 p4 i5 i6 i7 i8 i9 i10 i11 i12 i13 b14 h')
def C_countermandlaw17_same (B : RO) (p1 : Option Addr) (p2 : Option Addr) (p3 : Option Addr) (i4 : Int) (i5 : Int) (i6 : Int) (i7 : Int) (a8 : Option Addr) (n9 : Nat) (c10 : Nat) (i11 : Int) (i12 : Int) (h : Heap) (Q : Bool → Heap → Prop) : Prop :=
  Spec PG B 80 #[(Value.agg #[(Value.pointer p1), (Value.pointer p2), (Value.pointer p3), (Value.int .i64 (i4)), (Value.int .i64 (i5)), (Value.int .i64 (i6)), (Value.int .i64 (i7))]), (Value.agg #[(Value.slice a8 n9 c10), (Value.int .i64 (i11)), (Value.int .i64 (i12))])] h (fun v h' => ∃ b13 : Bool, v = (Value.bool b13) ∧ Q b13 h')
def C_mark_Stack_Clear (B : RO) (p1 : Option Addr) (h : Heap) (Q : Heap → Prop) : Prop :=
  Spec PG B 81 #[(Value.pointer p1)] h (fun v h' => v = Value.tuple #[] ∧ Q  h')
def C_mark_Stack_Len (B : RO) (p1 : Option Addr) (h : Heap) (Q : Int → Heap → Prop) : Prop :=
  Spec PG B 82 #[(Value.pointer p1)] h (fun v h' => ∃ i2 : Int, v = (Value.int .i64 (i2)) ∧ Q i2 h')
def C_sheet_New (B : RO) (h : Heap) (Q : Option Addr → Heap → Prop) : Prop :=
  Spec PG B 120 #[] h (fun v h' => ∃ p1 : Option Addr, v = (Value.pointer p1) ∧ Q p1 h')
def C_draft_Draft_int_find (B : RO) (p1 : Option Addr) (i2 : Int) (h : Heap) (Q : Int → Bool → Heap → Prop) : Prop :=
  Spec PG B 121 #[(Value.pointer p1), (Value.int .i64 (i2))] h (fun v h' => ∃ i3 : Int, ∃ b4 : Bool, v = Value.tuple #[(Value.int .i64 (i3)), (Value.bool b4)] ∧ Q i3 b4 h')
def C_slices_Insert_s_draft_entry_int_draft_entry_int (B : RO) (a1 : Option Addr) (n2 : Nat) (c3 : Nat) (i4 : Int) (a5 : Option Addr) (n6 : Nat) (c7 : Nat) (h : Heap) (Q : Option Addr → Nat → Nat → Heap → Prop) : Prop :=
  Spec PG B 122 #[(Value.slice a1 n2 c3), (Value.int .i64 (i4)), (Value.slice a5 n6 c7)] h (fun v h' => ∃ a8 : Option Addr, ∃ n9 : Nat, ∃ c10 : Nat, v = (Value.slice a8 n9 c10) ∧ Q a8 n9 c10 h')
def C_cursor_is (B : RO) (i1 : Int) (h : Heap) (Q : Bool → Heap → Prop) : Prop :=
  Spec PG B 123 #[(Value.int .i64 (i1))] h (fun v h' => ∃ b2 : Bool, v = (Value.bool b2) ∧ Q b2 h')
def C_mark_State_Copy (B : RO) (p1 : Option Addr) (p2 : Option Addr) (p3 : Option Addr) (i4 : Int) (i5 : Int) (i6 : Int) (i7 : Int) (h : Heap) (Q : Option Addr → Option Addr → Option Addr → Int → Int → Int → Int → Heap → Prop) : Prop :=
  Spec PG B 124 #[(Value.agg #[(Value.pointer p1), (Value.pointer p2), (Value.pointer p3), (Value.int .i64 (i4)), (Value.int .i64 (i5)), (Value.int .i64 (i6)), (Value.int .i64 (i7))])] h (fun v h' => ∃ p8 : Option Addr, ∃ p9 : Option Addr, ∃ p10 : Option Addr, ∃ i11 : Int, ∃ i12 : Int, ∃ i13 : Int, ∃ i14 : Int, v = (Value.agg #[(Value.pointer p8), (Value.pointer p9), (Value.pointer p10), (Value.int .i64 (i11)), (Value.int .i64 (i12)), (Value.int .i64 (i13)), (Value.int .i64 (i14))]) ∧ Q p8 p9 p10 i11 i12 i13 i14 h')
def C_slices_Delete_s_mark_Mark_mark_Mark (B : RO) (a1 : Option Addr) (n2 : Nat) (c3 : Nat) (i4 : Int) (i5 : Int) (h : Heap) (Q : Option Addr → Nat → Nat → Heap → Prop) : Prop :=
  Spec PG B 125 #[(Value.slice a1 n2 c3), (Value.int .i64 (i4)), (Value.int .i64 (i5))] h (fun v h' => ∃ a6 : Option Addr, ∃ n7 : Nat, ∃ c8 : Nat, v = (Value.slice a6 n7 c8) ∧ Q a6 n7 c8 h')
def C_countermandref13_Numbers (B : RO) (a1 : Option Addr) (n2 : Nat) (c3 : Nat) (h : Heap) (Q : Option Addr → Nat → Nat → Heap → Prop) : Prop :=
  Spec PG B 126 #[(Value.slice a1 n2 c3)] h (fun v h' => ∃ a4 : Option Addr, ∃ n5 : Nat, ∃ c6 : Nat, v = (Value.slice a4 n5 c6) ∧ Q a4 n5 c6 h')
def C_draft_Draft_int_All (B : RO) (p1 : Option Addr) (h : Heap) (Q : Value → Heap → Prop) : Prop :=
  Spec PG B 127 #[(Value.pointer p1)] h (fun v h' => ∃ v2 : Value, v = v2 ∧ Q v2 h')
def C_countermandref13_Get (B : RO) (a1 : Option Addr) (n2 : Nat) (c3 : Nat) (i4 : Int) (h : Heap) (Q : Int → Bool → Heap → Prop) : Prop :=
  Spec PG B 128 #[(Value.slice a1 n2 c3), (Value.int .i64 (i4))] h (fun v h' => ∃ i5 : Int, ∃ b6 : Bool, v = Value.tuple #[(Value.int .i64 (i5)), (Value.bool b6)] ∧ Q i5 b6 h')
def C_cursor_Cursor_Read (B : RO) (p1 : Option Addr) (i2 : Int) (h : Heap) (Q : Int → Heap → Prop) : Prop :=
  Spec PG B 129 #[(Value.pointer p1), (Value.int .i64 (i2))] h (fun v h' => ∃ i3 : Int, v = (Value.int .i64 (i3)) ∧ Q i3 h')
def C_slices_BinarySearchFunc_s_draft_entry_int_draft_entry_int_int (B : RO) (a1 : Option Addr) (n2 : Nat) (c3 : Nat) (i4 : Int) (v5 : Value) (h : Heap) (Q : Int → Bool → Heap → Prop) : Prop :=
  Spec PG B 150 #[(Value.slice a1 n2 c3), (Value.int .i64 (i4)), v5] h (fun v h' => ∃ i6 : Int, ∃ b7 : Bool, v = Value.tuple #[(Value.int .i64 (i6)), (Value.bool b7)] ∧ Q i6 b7 h')
def C_draft_by_int (B : RO) (i1 : Int) (i2 : Int) (i3 : Int) (h : Heap) (Q : Int → Heap → Prop) : Prop :=
  Spec PG B 151 #[(Value.agg #[(Value.int .i64 (i1)), (Value.int .i64 (i2))]), (Value.int .i64 (i3))] h (fun v h' => ∃ i4 : Int, v = (Value.int .i64 (i4)) ∧ Q i4 h')
def C_slices_rotateRight_draft_entry_int (B : RO) (a1 : Option Addr) (n2 : Nat) (c3 : Nat) (i4 : Int) (h : Heap) (Q : Heap → Prop) : Prop :=
  Spec PG B 153 #[(Value.slice a1 n2 c3), (Value.int .i64 (i4))] h (fun v h' => v = Value.tuple #[] ∧ Q  h')
def C_draft_Draft_int_Copy (B : RO) (p1 : Option Addr) (h : Heap) (Q : Option Addr → Heap → Prop) : Prop :=
  Spec PG B 154 #[(Value.pointer p1)] h (fun v h' => ∃ p2 : Option Addr, v = (Value.pointer p2) ∧ Q p2 h')
def C_sheet_Sheet_Copy (B : RO) (p1 : Option Addr) (h : Heap) (Q : Option Addr → Heap → Prop) : Prop :=
  Spec PG B 155 #[(Value.pointer p1)] h (fun v h' => ∃ p2 : Option Addr, v = (Value.pointer p2) ∧ Q p2 h')
def C_cursor_Cursor_Copy (B : RO) (p1 : Option Addr) (h : Heap) (Q : Option Addr → Heap → Prop) : Prop :=
  Spec PG B 156 #[(Value.pointer p1)] h (fun v h' => ∃ p2 : Option Addr, v = (Value.pointer p2) ∧ Q p2 h')
def C_draft_Draft_int_All_1 (B : RO) (v1 : Value) (A2 : Addr) (h : Heap) (Q : Heap → Prop) : Prop :=
  Spec PG B 157 #[v1, (Value.pointer (some A2))] h (fun v h' => v = Value.tuple #[] ∧ Q  h')
def C_slices_rotateLeft_draft_entry_int (B : RO) (a1 : Option Addr) (n2 : Nat) (c3 : Nat) (i4 : Int) (h : Heap) (Q : Heap → Prop) : Prop :=
  Spec PG B 164 #[(Value.slice a1 n2 c3), (Value.int .i64 (i4))] h (fun v h' => v = Value.tuple #[] ∧ Q  h')
def C_slices_Clone_s_draft_entry_int_draft_entry_int (B : RO) (a1 : Option Addr) (n2 : Nat) (c3 : Nat) (h : Heap) (Q : Option Addr → Nat → Nat → Heap → Prop) : Prop :=
  Spec PG B 165 #[(Value.slice a1 n2 c3)] h (fun v h' => ∃ a4 : Option Addr, ∃ n5 : Nat, ∃ c6 : Nat, v = (Value.slice a4 n5 c6) ∧ Q a4 n5 c6 h')
def C_draft_Draft_file_File_Copy (B : RO) (p1 : Option Addr) (h : Heap) (Q : Option Addr → Heap → Prop) : Prop :=
  Spec PG B 166 #[(Value.pointer p1)] h (fun v h' => ∃ p2 : Option Addr, v = (Value.pointer p2) ∧ Q p2 h')
def C_slices_Reverse_s_draft_entry_int_draft_entry_int (B : RO) (a1 : Option Addr) (n2 : Nat) (c3 : Nat) (h : Heap) (Q : Heap → Prop) : Prop :=
  Spec PG B 168 #[(Value.slice a1 n2 c3)] h (fun v h' => v = Value.tuple #[] ∧ Q  h')
def C_slices_Clone_s_draft_entry_file_File_draft_entry_file_File (B : RO) (a1 : Option Addr) (n2 : Nat) (c3 : Nat) (h : Heap) (Q : Option Addr → Nat → Nat → Heap → Prop) : Prop :=
  Spec PG B 169 #[(Value.slice a1 n2 c3)] h (fun v h' => ∃ a4 : Option Addr, ∃ n5 : Nat, ∃ c6 : Nat, v = (Value.slice a4 n5 c6) ∧ Q a4 n5 c6 h')
end Go.Proofs.Ythloobpjkeodgaa.H
