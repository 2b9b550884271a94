/- Calls and facts. No condition. -/
import Derived.Test.YthloobpjkeodgaaHs
import Derived.Test.YthloobpjkeodgaaProg
import Derived.KernelRfl
namespace Go.Proofs.Ythloobpjkeodgaa.H
open Go
set_option linter.unusedVariables false
set_option maxRecDepth 100000

noncomputable abbrev PG : Program := Go.Proofs.Try.prog
abbrev TY.int64 : TypeId := 2
abbrev TY.int : TypeId := 3
abbrev TY.bool : TypeId := 4
abbrev TY.uint8 : TypeId := 5
abbrev TY.abi_BoundsErrorCode : TypeId := 6
abbrev TY.runtime_boundsError : TypeId := 8
abbrev TY.string : TypeId := 9
abbrev TY.runtime_errorString : TypeId := 10
abbrev TY.runtime_plainError : TypeId := 11
abbrev TY.uintptr : TypeId := 12
abbrev TY.runtime_errorAddressString : TypeId := 14
abbrev TY.p_runtime_TypeAssertionError : TypeId := 15
abbrev TY.p_runtime_PanicNilError : TypeId := 16
abbrev TY.p_abi_Type : TypeId := 17
abbrev TY.maps_unhashableTypeError : TypeId := 19
abbrev TY.int32 : TypeId := 21
abbrev TY.s_countermandlaw16_Step : TypeId := 22
abbrev TY.p_acts_Acts : TypeId := 24
abbrev TY.s_acts_Out : TypeId := 25
abbrev TY.s_int : TypeId := 26
abbrev TY.s_acts_Open : TypeId := 27
abbrev TY.acts_Acts : TypeId := 29
abbrev TY.s_countermandref16_Act : TypeId := 30
abbrev TY.countermandref16_Act : TypeId := 32
abbrev TY.a_4_int : TypeId := 33
abbrev TY.countermandlaw16_Step : TypeId := 35
abbrev TY.acts_Mark : TypeId := 42
abbrev TY.s_string : TypeId := 55
abbrev TY.p_wal_Log : TypeId := 57
abbrev TY.api_Errno : TypeId := 58
abbrev TY.p_disk_Disk : TypeId := 61
abbrev TY.iter_Seq_string : TypeId := 66
abbrev TY.s_countermandlaw04_Call : TypeId := 69
abbrev TY.countermandlaw04_Call : TypeId := 73
abbrev TY.p_countermandlaw04_both : TypeId := 80
abbrev TY.p_countermandref04_Log : TypeId := 83
abbrev TY.countermandlaw04_both : TypeId := 85
abbrev TY.p_countermandref03_Disk : TypeId := 88
abbrev TY.countermandref04_Log : TypeId := 90
abbrev TY.s_countermandref03_Change : TypeId := 92
abbrev TY.countermandref03_Disk : TypeId := 94
abbrev TY.s_redo_Change : TypeId := 96
abbrev TY.s_countermandref18_Change : TypeId := 99
abbrev TY.p_draft_Draft_file_File : TypeId := 105
abbrev TY.file_File : TypeId := 111
abbrev TY.a_6_file_File : TypeId := 112
abbrev TY.p_tome_Tome : TypeId := 113
abbrev TY.countermandref09_File : TypeId := 114
abbrev TY.a_6_countermandref09_File : TypeId := 115
abbrev TY.countermandref18_Change : TypeId := 122
abbrev TY.s_countermandlaw17_Step : TypeId := 130
abbrev TY.p_mark_Stack : TypeId := 131
abbrev TY.s_mark_Mark : TypeId := 132
abbrev TY.mark_Stack : TypeId := 134
abbrev TY.p_draft_Draft_int : TypeId := 135
abbrev TY.p_sheet_Sheet : TypeId := 136
abbrev TY.p_cursor_Cursor : TypeId := 137
abbrev TY.api_Regs : TypeId := 138
abbrev TY.mark_State : TypeId := 140
abbrev TY.s_countermandref13_Put : TypeId := 142
abbrev TY.countermandref17_State : TypeId := 144
abbrev TY.s_countermandref17_Mark : TypeId := 145
abbrev TY.countermandlaw17_Step : TypeId := 146
abbrev TY.countermandref13_Put : TypeId := 148
abbrev TY.mark_Mark : TypeId := 151
abbrev TY.countermandref17_Mark : TypeId := 154
abbrev TY.acts_Open : TypeId := 160
abbrev TY.acts_Out : TypeId := 163
abbrev TY.wal_Log : TypeId := 171
abbrev TY.disk_area : TypeId := 173
abbrev TY.a_2_disk_area : TypeId := 174
abbrev TY.s_disk_change : TypeId := 175
abbrev TY.disk_Disk : TypeId := 177
abbrev TY.disk_change : TypeId := 181
abbrev TY.countermandref03_Change : TypeId := 189
abbrev TY.s_draft_entry_file_File : TypeId := 191
abbrev TY.draft_Draft_file_File : TypeId := 193
abbrev TY.p_stylus_Reader : TypeId := 195
abbrev TY.redo_Change : TypeId := 199
abbrev TY.uint64 : TypeId := 202
abbrev TY.iter_Seq2_int_file_File : TypeId := 205
abbrev TY.p_stylus_Stylus : TypeId := 207
abbrev TY.s_uint8 : TypeId := 208
abbrev TY.stylus_Stylus : TypeId := 210
abbrev TY.p_cell_Row_file_File : TypeId := 215
abbrev TY.tome_Tome : TypeId := 217
abbrev TY.s_draft_entry_int : TypeId := 218
abbrev TY.draft_Draft_int : TypeId := 220
abbrev TY.a_3_int : TypeId := 222
abbrev TY.cursor_Cursor : TypeId := 224
abbrev TY.draft_entry_int : TypeId := 228
abbrev TY.iter_Seq2_int_int : TypeId := 234
abbrev TY.iter_Seq2_int_acts_Open : TypeId := 238
abbrev TY.s_s_acts_Out : TypeId := 240
abbrev TY.uint : TypeId := 241
abbrev TY.uint32 : TypeId := 243
abbrev TY.draft_entry_file_File : TypeId := 246
abbrev TY.stylus_Reader : TypeId := 249
abbrev TY.cell_slot_file_File : TypeId := 257
abbrev TY.s_cell_slot_file_File : TypeId := 258
abbrev TY.cell_Row_file_File : TypeId := 260
abbrev TY.sheet_Sheet : TypeId := 262
abbrev TY.runtime_TypeAssertionError : TypeId := 280
abbrev TY.a_0_p_runtime_PanicNilError : TypeId := 281
abbrev TY.runtime_PanicNilError : TypeId := 283
abbrev TY.abi_TFlag : TypeId := 284
abbrev TY.abi_Kind : TypeId := 285
abbrev TY.p_uint8 : TypeId := 287
abbrev TY.abi_NameOff : TypeId := 288
abbrev TY.abi_TypeOff : TypeId := 289
abbrev TY.abi_Type : TypeId := 291
theorem TF.agg_105 : aggB PG 105 = some false := by kernel_rfl
theorem TF.agg_111 : aggB PG 111 = some true := by kernel_rfl
theorem TF.agg_112 : aggB PG 112 = some true := by kernel_rfl
theorem TF.agg_114 : aggB PG 114 = some true := by kernel_rfl
theorem TF.agg_115 : aggB PG 115 = some true := by kernel_rfl
theorem TF.agg_122 : aggB PG 122 = some true := by kernel_rfl
theorem TF.agg_191 : aggB PG 191 = some false := by kernel_rfl
theorem TF.agg_199 : aggB PG 199 = some true := by kernel_rfl
theorem TF.agg_207 : aggB PG 207 = some false := by kernel_rfl
theorem TF.agg_208 : aggB PG 208 = some false := by kernel_rfl
theorem TF.agg_215 : aggB PG 215 = some false := by kernel_rfl
theorem TF.agg_246 : aggB PG 246 = some true := by kernel_rfl
theorem TF.agg_258 : aggB PG 258 = some false := by kernel_rfl
theorem TF.agg_3 : aggB PG 3 = some false := by kernel_rfl
theorem TF.agg_4 : aggB PG 4 = some false := by kernel_rfl
theorem TF.agg_9 : aggB PG 9 = some false := by kernel_rfl
theorem TF.agg_99 : aggB PG 99 = some false := by kernel_rfl
theorem TF.arr_112 : arrB PG 112 = some (6, 111, 2, true) := by kernel_rfl
theorem TF.arr_115 : arrB PG 115 = some (6, 114, 2, true) := by kernel_rfl
theorem TF.eqg_114 : eqGB PG 114 = false := by kernel_rfl
theorem TF.flat_114 : flat6B PG 114 = some [.bool, .str] := by kernel_rfl
theorem TF.fld_111_0 : fldB PG 111 0 = some 0 := by kernel_rfl
theorem TF.fld_111_1 : fldB PG 111 1 = some 1 := by kernel_rfl
theorem TF.fld_114_0 : fldB PG 114 0 = some 0 := by kernel_rfl
theorem TF.fld_114_1 : fldB PG 114 1 = some 1 := by kernel_rfl
theorem TF.fld_122_0 : fldB PG 122 0 = some 0 := by kernel_rfl
theorem TF.fld_122_1 : fldB PG 122 1 = some 1 := by kernel_rfl
theorem TF.fld_193_0 : fldB PG 193 0 = some 0 := by kernel_rfl
theorem TF.fld_199_0 : fldB PG 199 0 = some 0 := by kernel_rfl
theorem TF.fld_199_1 : fldB PG 199 1 = some 1 := by kernel_rfl
theorem TF.fld_210_0 : fldB PG 210 0 = some 0 := by kernel_rfl
theorem TF.fld_217_0 : fldB PG 217 0 = some 0 := by kernel_rfl
theorem TF.fld_246_0 : fldB PG 246 0 = some 0 := by kernel_rfl
theorem TF.fld_246_1 : fldB PG 246 1 = some 1 := by kernel_rfl
theorem TF.fld_249_0 : fldB PG 249 0 = some 0 := by kernel_rfl
theorem TF.fld_249_1 : fldB PG 249 1 = some 1 := by kernel_rfl
theorem TF.fld_257_0 : fldB PG 257 0 = some 0 := by kernel_rfl
theorem TF.fld_257_1 : fldB PG 257 1 = some 2 := by kernel_rfl
theorem TF.fld_260_0 : fldB PG 260 0 = some 0 := by kernel_rfl
theorem TF.goes_10 : Goes PG 10 := ⟨Try.f10, Try.func10, by kernel_rfl, by kernel_rfl⟩
theorem TF.goes_103 : Goes PG 103 := ⟨Try.f103, Try.func103, by kernel_rfl, by kernel_rfl⟩
theorem TF.goes_104 : Goes PG 104 := ⟨Try.f104, Try.func104, by kernel_rfl, by kernel_rfl⟩
theorem TF.goes_105 : Goes PG 105 := ⟨Try.f105, Try.func105, by kernel_rfl, by kernel_rfl⟩
theorem TF.goes_106 : Goes PG 106 := ⟨Try.f106, Try.func106, by kernel_rfl, by kernel_rfl⟩
theorem TF.goes_107 : Goes PG 107 := ⟨Try.f107, Try.func107, by kernel_rfl, by kernel_rfl⟩
theorem TF.goes_108 : Goes PG 108 := ⟨Try.f108, Try.func108, by kernel_rfl, by kernel_rfl⟩
theorem TF.goes_109 : Goes PG 109 := ⟨Try.f109, Try.func109, by kernel_rfl, by kernel_rfl⟩
theorem TF.goes_11 : Goes PG 11 := ⟨Try.f11, Try.func11, by kernel_rfl, by kernel_rfl⟩
theorem TF.goes_110 : Goes PG 110 := ⟨Try.f110, Try.func110, by kernel_rfl, by kernel_rfl⟩
theorem TF.goes_111 : Goes PG 111 := ⟨Try.f111, Try.func111, by kernel_rfl, by kernel_rfl⟩
theorem TF.goes_112 : Goes PG 112 := ⟨Try.f112, Try.func112, by kernel_rfl, by kernel_rfl⟩
theorem TF.goes_113 : Goes PG 113 := ⟨Try.f113, Try.func113, by kernel_rfl, by kernel_rfl⟩
theorem TF.goes_114 : Goes PG 114 := ⟨Try.f114, Try.func114, by kernel_rfl, by kernel_rfl⟩
theorem TF.goes_115 : Goes PG 115 := ⟨Try.f115, Try.func115, by kernel_rfl, by kernel_rfl⟩
theorem TF.goes_116 : Goes PG 116 := ⟨Try.f116, Try.func116, by kernel_rfl, by kernel_rfl⟩
theorem TF.goes_117 : Goes PG 117 := ⟨Try.f117, Try.func117, by kernel_rfl, by kernel_rfl⟩
theorem TF.goes_118 : Goes PG 118 := ⟨Try.f118, Try.func118, by kernel_rfl, by kernel_rfl⟩
theorem TF.goes_119 : Goes PG 119 := ⟨Try.f119, Try.func119, by kernel_rfl, by kernel_rfl⟩
theorem TF.goes_12 : Goes PG 12 := ⟨Try.f12, Try.func12, by kernel_rfl, by kernel_rfl⟩
theorem TF.goes_13 : Goes PG 13 := ⟨Try.f13, Try.func13, by kernel_rfl, by kernel_rfl⟩
theorem TF.goes_138 : Goes PG 138 := ⟨Try.f138, Try.func138, by kernel_rfl, by kernel_rfl⟩
theorem TF.goes_139 : Goes PG 139 := ⟨Try.f139, Try.func139, by kernel_rfl, by kernel_rfl⟩
theorem TF.goes_140 : Goes PG 140 := ⟨Try.f140, Try.func140, by kernel_rfl, by kernel_rfl⟩
theorem TF.goes_141 : Goes PG 141 := ⟨Try.f141, Try.func141, by kernel_rfl, by kernel_rfl⟩
theorem TF.goes_142 : Goes PG 142 := ⟨Try.f142, Try.func142, by kernel_rfl, by kernel_rfl⟩
theorem TF.goes_143 : Goes PG 143 := ⟨Try.f143, Try.func143, by kernel_rfl, by kernel_rfl⟩
theorem TF.goes_144 : Goes PG 144 := ⟨Try.f144, Try.func144, by kernel_rfl, by kernel_rfl⟩
theorem TF.goes_145 : Goes PG 145 := ⟨Try.f145, Try.func145, by kernel_rfl, by kernel_rfl⟩
theorem TF.goes_146 : Goes PG 146 := ⟨Try.f146, Try.func146, by kernel_rfl, by kernel_rfl⟩
theorem TF.goes_147 : Goes PG 147 := ⟨Try.f147, Try.func147, by kernel_rfl, by kernel_rfl⟩
theorem TF.goes_148 : Goes PG 148 := ⟨Try.f148, Try.func148, by kernel_rfl, by kernel_rfl⟩
theorem TF.goes_149 : Goes PG 149 := ⟨Try.f149, Try.func149, by kernel_rfl, by kernel_rfl⟩
theorem TF.goes_160 : Goes PG 160 := ⟨Try.f160, Try.func160, by kernel_rfl, by kernel_rfl⟩
theorem TF.goes_161 : Goes PG 161 := ⟨Try.f161, Try.func161, by kernel_rfl, by kernel_rfl⟩
theorem TF.goes_163 : Goes PG 163 := ⟨Try.f163, Try.func163, by kernel_rfl, by kernel_rfl⟩
theorem TF.goes_167 : Goes PG 167 := ⟨Try.f167, Try.func167, by kernel_rfl, by kernel_rfl⟩
theorem TF.goes_170 : Goes PG 170 := ⟨Try.f170, Try.func170, by kernel_rfl, by kernel_rfl⟩
theorem TF.goes_60 : Goes PG 60 := ⟨Try.f60, Try.func60, by kernel_rfl, by kernel_rfl⟩
theorem TF.goes_61 : Goes PG 61 := ⟨Try.f61, Try.func61, by kernel_rfl, by kernel_rfl⟩
theorem TF.goes_62 : Goes PG 62 := ⟨Try.f62, Try.func62, by kernel_rfl, by kernel_rfl⟩
theorem TF.goes_63 : Goes PG 63 := ⟨Try.f63, Try.func63, by kernel_rfl, by kernel_rfl⟩
theorem TF.goes_64 : Goes PG 64 := ⟨Try.f64, Try.func64, by kernel_rfl, by kernel_rfl⟩
theorem TF.goes_65 : Goes PG 65 := ⟨Try.f65, Try.func65, by kernel_rfl, by kernel_rfl⟩
theorem TF.goes_66 : Goes PG 66 := ⟨Try.f66, Try.func66, by kernel_rfl, by kernel_rfl⟩
theorem TF.goes_67 : Goes PG 67 := ⟨Try.f67, Try.func67, by kernel_rfl, by kernel_rfl⟩
theorem TF.goes_68 : Goes PG 68 := ⟨Try.f68, Try.func68, by kernel_rfl, by kernel_rfl⟩
theorem TF.goes_69 : Goes PG 69 := ⟨Try.f69, Try.func69, by kernel_rfl, by kernel_rfl⟩
theorem TF.goes_70 : Goes PG 70 := ⟨Try.f70, Try.func70, by kernel_rfl, by kernel_rfl⟩
theorem TF.goes_71 : Goes PG 71 := ⟨Try.f71, Try.func71, by kernel_rfl, by kernel_rfl⟩
theorem TF.goes_72 : Goes PG 72 := ⟨Try.f72, Try.func72, by kernel_rfl, by kernel_rfl⟩
theorem TF.goes_9 : Goes PG 9 := ⟨Try.f9, Try.func9, by kernel_rfl, by kernel_rfl⟩
theorem TF.goesx_162 : GoesX PG 162 (Extern.SlicesOverlaps.overlaps #[191, 191] #[4]) := ⟨Try.f162, Try.func162, by kernel_rfl, by kernel_rfl, by kernel_rfl, by kernel_rfl⟩
theorem TF.int_202 : intB PG 202 = some .u64 := by kernel_rfl
theorem TF.int_241 : intB PG 241 = some .u64 := by kernel_rfl
theorem TF.int_3 : intB PG 3 = some .i64 := by kernel_rfl
theorem TF.int_5 : intB PG 5 = some .u8 := by kernel_rfl
theorem TF.isStr_9 : isStr PG 9 = true := by kernel_rfl
theorem TF.mixed : PG.follows .mixedOrders = true := by kernel_rfl
theorem TF.places_111 : strPlaces PG 111 = some [(0, 1), (1, 1)] := by kernel_rfl
theorem TF.places_114 : strPlaces PG 114 = some [(0, 1), (1, 1)] := by kernel_rfl
theorem TF.places_122 : strPlaces PG 122 = some [(0, 1), (1, 2)] := by kernel_rfl
theorem TF.places_193 : strPlaces PG 193 = some [(0, 1)] := by kernel_rfl
theorem TF.places_199 : strPlaces PG 199 = some [(0, 1), (1, 2)] := by kernel_rfl
theorem TF.places_210 : strPlaces PG 210 = some [(0, 1)] := by kernel_rfl
theorem TF.places_217 : strPlaces PG 217 = some [(0, 1)] := by kernel_rfl
theorem TF.places_246 : strPlaces PG 246 = some [(0, 1), (1, 2)] := by kernel_rfl
theorem TF.places_249 : strPlaces PG 249 = some [(0, 1), (1, 1)] := by kernel_rfl
theorem TF.places_257 : strPlaces PG 257 = some [(0, 2), (2, 1)] := by kernel_rfl
theorem TF.places_260 : strPlaces PG 260 = some [(0, 1)] := by kernel_rfl
theorem TF.ptr_105 : ptrB PG 105 = true := by kernel_rfl
theorem TF.ptr_113 : ptrB PG 113 = true := by kernel_rfl
theorem TF.ptr_195 : ptrB PG 195 = true := by kernel_rfl
theorem TF.ptr_215 : ptrB PG 215 = true := by kernel_rfl
theorem TF.sl_191 : slT PG 191 = true := by kernel_rfl
theorem TF.sl_258 : slT PG 258 = true := by kernel_rfl
theorem TF.sl_26 : slT PG 26 = true := by kernel_rfl
theorem TF.sl_55 : slT PG 55 = true := by kernel_rfl
theorem TF.sl_96 : slT PG 96 = true := by kernel_rfl
theorem TF.sl_99 : slT PG 99 = true := by kernel_rfl
theorem TF.slc_191 : slcB PG 191 = some (246, 3, 32) := by kernel_rfl
theorem TF.slc_208 : slcB PG 208 = some (5, 1, 1) := by kernel_rfl
theorem TF.slc_258 : slcB PG 258 = some (257, 3, 32) := by kernel_rfl
theorem TF.slc_26 : slcB PG 26 = some (3, 1, 8) := by kernel_rfl
theorem TF.slc_55 : slcB PG 55 = some (9, 1, 16) := by kernel_rfl
theorem TF.slc_96 : slcB PG 96 = some (199, 3, 32) := by kernel_rfl
theorem TF.slc_99 : slcB PG 99 = some (122, 3, 32) := by kernel_rfl
theorem TF.sz_111 : szB PG 111 = some 2 := by kernel_rfl
theorem TF.sz_112 : szB PG 112 = some 12 := by kernel_rfl
theorem TF.sz_114 : szB PG 114 = some 2 := by kernel_rfl
theorem TF.sz_115 : szB PG 115 = some 12 := by kernel_rfl
theorem TF.sz_122 : szB PG 122 = some 3 := by kernel_rfl
theorem TF.sz_191 : szB PG 191 = some 1 := by kernel_rfl
theorem TF.sz_199 : szB PG 199 = some 3 := by kernel_rfl
theorem TF.sz_207 : szB PG 207 = some 1 := by kernel_rfl
theorem TF.sz_208 : szB PG 208 = some 1 := by kernel_rfl
theorem TF.sz_246 : szB PG 246 = some 3 := by kernel_rfl
theorem TF.sz_257 : szB PG 257 = some 3 := by kernel_rfl
theorem TF.sz_258 : szB PG 258 = some 1 := by kernel_rfl
theorem TF.sz_3 : szB PG 3 = some 1 := by kernel_rfl
theorem TF.sz_4 : szB PG 4 = some 1 := by kernel_rfl
theorem TF.sz_9 : szB PG 9 = some 1 := by kernel_rfl
theorem TF.sz_99 : szB PG 99 = some 1 := by kernel_rfl
theorem TF.zero_111 : zeroB PG 111 = some [(Value.bool false), (Value.string ByteArray.empty)] := by kernel_rfl
theorem TF.zero_114 : zeroB PG 114 = some [(Value.bool false), (Value.string ByteArray.empty)] := by kernel_rfl
theorem TF.zero_115 : zeroB PG 115 = some [(Value.bool false), (Value.string ByteArray.empty), (Value.bool false), (Value.string ByteArray.empty), (Value.bool false), (Value.string ByteArray.empty), (Value.bool false), (Value.string ByteArray.empty), (Value.bool false), (Value.string ByteArray.empty), (Value.bool false), (Value.string ByteArray.empty)] := by kernel_rfl
theorem TF.zero_122 : zeroB PG 122 = some [(Value.int .i64 (0)), (Value.bool false), (Value.string ByteArray.empty)] := by kernel_rfl
theorem TF.zero_193 : zeroB PG 193 = some [(Value.slice none 0 0)] := by kernel_rfl
theorem TF.zero_199 : zeroB PG 199 = some [(Value.int .i64 (0)), (Value.bool false), (Value.string ByteArray.empty)] := by kernel_rfl
theorem TF.zero_207 : zeroB PG 207 = some [(Value.pointer none)] := by kernel_rfl
theorem TF.zero_210 : zeroB PG 210 = some [(Value.slice none 0 0)] := by kernel_rfl
theorem TF.zero_217 : zeroB PG 217 = some [(Value.pointer none)] := by kernel_rfl
theorem TF.zero_246 : zeroB PG 246 = some [(Value.int .i64 (0)), (Value.bool false), (Value.string ByteArray.empty)] := by kernel_rfl
theorem TF.zero_249 : zeroB PG 249 = some [(Value.string ByteArray.empty), (Value.bool false)] := by kernel_rfl
theorem TF.zero_257 : zeroB PG 257 = some [(Value.bool false), (Value.string ByteArray.empty), (Value.int .i64 (0))] := by kernel_rfl
theorem TF.zero_260 : zeroB PG 260 = some [(Value.slice none 0 0)] := by kernel_rfl
theorem TF.zero_3 : zeroB PG 3 = some [(Value.int .i64 (0))] := by kernel_rfl
theorem TF.zero_5 : zeroB PG 5 = some [(Value.int .u8 (0))] := by kernel_rfl
theorem TF.zero_9 : zeroB PG 9 = some [(Value.string ByteArray.empty)] := by kernel_rfl
theorem TF.zero_99 : zeroB PG 99 = some [(Value.slice none 0 0)] := by kernel_rfl
abbrev FN.countermandlaw18_RedoReads : FuncId := 9
abbrev FN.countermandlaw18_RedoBytes : FuncId := 10
abbrev FN.countermandlaw18_RedoApplies : FuncId := 11
abbrev FN.countermandlaw18_RedoReplays : FuncId := 12
abbrev FN.countermandlaw18_RedoLast : FuncId := 13
abbrev FN.countermandlaw18_alive : FuncId := 60
abbrev FN.redo_Read : FuncId := 61
abbrev FN.countermandref18_Read : FuncId := 62
abbrev FN.countermandlaw18_same : FuncId := 63
abbrev FN.countermandref18_Bytes : FuncId := 64
abbrev FN.countermandlaw18_drawn : FuncId := 65
abbrev FN.redo_Bytes : FuncId := 66
abbrev FN.countermandlaw18_tomes : FuncId := 67
abbrev FN.redo_Apply : FuncId := 68
abbrev FN.countermandref18_Apply : FuncId := 69
abbrev FN.countermandlaw18_are : FuncId := 70
abbrev FN.tome_Tome_Get : FuncId := 71
abbrev FN.redo_Replay : FuncId := 72
abbrev FN.draft_Draft_file_File_Put : FuncId := 103
abbrev FN.stylus_Of : FuncId := 104
abbrev FN.stylus_Reader_Nat : FuncId := 105
abbrev FN.stylus_Reader_Left : FuncId := 106
abbrev FN.stylus_Reader_Text : FuncId := 107
abbrev FN.stylus_Reader_Bad : FuncId := 108
abbrev FN.countermandref18_nat : FuncId := 109
abbrev FN.countermandref01_Nat : FuncId := 110
abbrev FN.countermandref01_Text : FuncId := 111
abbrev FN.file_Good : FuncId := 112
abbrev FN.draft_Draft_file_File_All : FuncId := 113
abbrev FN.stylus_Stylus_Nat : FuncId := 114
abbrev FN.stylus_Stylus_Text : FuncId := 115
abbrev FN.stylus_Stylus_Bytes : FuncId := 116
abbrev FN.tome_New : FuncId := 117
abbrev FN.tome_Tome_Set : FuncId := 118
abbrev FN.cell_Row_file_File_Get : FuncId := 119
abbrev FN.draft_Draft_file_File_find : FuncId := 138
abbrev FN.slices_Insert_s_draft_entry_file_File_draft_entry_file_File : FuncId := 139
abbrev FN.stylus_Reader_word : FuncId := 140
abbrev FN.stylus_Reader_Spoil : FuncId := 141
abbrev FN.stylus_Reader_Raw : FuncId := 142
abbrev FN.countermandref01_Taken : FuncId := 143
abbrev FN.countermandref01_Wide : FuncId := 144
abbrev FN.draft_Draft_file_File_All_1 : FuncId := 145
abbrev FN.stylus_Stylus_Raw : FuncId := 146
abbrev FN.cell_New_file_File : FuncId := 147
abbrev FN.cell_Row_file_File_Set : FuncId := 148
abbrev FN.cell_Row_file_File_is : FuncId := 149
abbrev FN.slices_BinarySearchFunc_s_draft_entry_file_File_draft_entry_file_File_int : FuncId := 160
abbrev FN.draft_by_file_File : FuncId := 161
abbrev FN.slices_rotateRight_draft_entry_file_File : FuncId := 163
abbrev FN.slices_rotateLeft_draft_entry_file_File : FuncId := 167
abbrev FN.slices_Reverse_s_draft_entry_file_File_draft_entry_file_File : FuncId := 170
theorem TG.countermandlaw18_RedoReads : Goes PG FN.countermandlaw18_RedoReads := TF.goes_9
theorem TG.countermandlaw18_RedoBytes : Goes PG FN.countermandlaw18_RedoBytes := TF.goes_10
theorem TG.countermandlaw18_RedoApplies : Goes PG FN.countermandlaw18_RedoApplies := TF.goes_11
theorem TG.countermandlaw18_RedoReplays : Goes PG FN.countermandlaw18_RedoReplays := TF.goes_12
theorem TG.countermandlaw18_RedoLast : Goes PG FN.countermandlaw18_RedoLast := TF.goes_13
theorem TG.countermandlaw18_alive : Goes PG FN.countermandlaw18_alive := TF.goes_60
theorem TG.redo_Read : Goes PG FN.redo_Read := TF.goes_61
theorem TG.countermandref18_Read : Goes PG FN.countermandref18_Read := TF.goes_62
theorem TG.countermandlaw18_same : Goes PG FN.countermandlaw18_same := TF.goes_63
theorem TG.countermandref18_Bytes : Goes PG FN.countermandref18_Bytes := TF.goes_64
theorem TG.countermandlaw18_drawn : Goes PG FN.countermandlaw18_drawn := TF.goes_65
theorem TG.redo_Bytes : Goes PG FN.redo_Bytes := TF.goes_66
theorem TG.countermandlaw18_tomes : Goes PG FN.countermandlaw18_tomes := TF.goes_67
theorem TG.redo_Apply : Goes PG FN.redo_Apply := TF.goes_68
theorem TG.countermandref18_Apply : Goes PG FN.countermandref18_Apply := TF.goes_69
theorem TG.countermandlaw18_are : Goes PG FN.countermandlaw18_are := TF.goes_70
theorem TG.tome_Tome_Get : Goes PG FN.tome_Tome_Get := TF.goes_71
theorem TG.redo_Replay : Goes PG FN.redo_Replay := TF.goes_72
theorem TG.draft_Draft_file_File_Put : Goes PG FN.draft_Draft_file_File_Put := TF.goes_103
theorem TG.stylus_Of : Goes PG FN.stylus_Of := TF.goes_104
theorem TG.stylus_Reader_Nat : Goes PG FN.stylus_Reader_Nat := TF.goes_105
theorem TG.stylus_Reader_Left : Goes PG FN.stylus_Reader_Left := TF.goes_106
theorem TG.stylus_Reader_Text : Goes PG FN.stylus_Reader_Text := TF.goes_107
theorem TG.stylus_Reader_Bad : Goes PG FN.stylus_Reader_Bad := TF.goes_108
theorem TG.countermandref18_nat : Goes PG FN.countermandref18_nat := TF.goes_109
theorem TG.countermandref01_Nat : Goes PG FN.countermandref01_Nat := TF.goes_110
theorem TG.countermandref01_Text : Goes PG FN.countermandref01_Text := TF.goes_111
theorem TG.file_Good : Goes PG FN.file_Good := TF.goes_112
theorem TG.draft_Draft_file_File_All : Goes PG FN.draft_Draft_file_File_All := TF.goes_113
theorem TG.stylus_Stylus_Nat : Goes PG FN.stylus_Stylus_Nat := TF.goes_114
theorem TG.stylus_Stylus_Text : Goes PG FN.stylus_Stylus_Text := TF.goes_115
theorem TG.stylus_Stylus_Bytes : Goes PG FN.stylus_Stylus_Bytes := TF.goes_116
theorem TG.tome_New : Goes PG FN.tome_New := TF.goes_117
theorem TG.tome_Tome_Set : Goes PG FN.tome_Tome_Set := TF.goes_118
theorem TG.cell_Row_file_File_Get : Goes PG FN.cell_Row_file_File_Get := TF.goes_119
theorem TG.draft_Draft_file_File_find : Goes PG FN.draft_Draft_file_File_find := TF.goes_138
theorem TG.slices_Insert_s_draft_entry_file_File_draft_entry_file_File : Goes PG FN.slices_Insert_s_draft_entry_file_File_draft_entry_file_File := TF.goes_139
theorem TG.stylus_Reader_word : Goes PG FN.stylus_Reader_word := TF.goes_140
theorem TG.stylus_Reader_Spoil : Goes PG FN.stylus_Reader_Spoil := TF.goes_141
theorem TG.stylus_Reader_Raw : Goes PG FN.stylus_Reader_Raw := TF.goes_142
theorem TG.countermandref01_Taken : Goes PG FN.countermandref01_Taken := TF.goes_143
theorem TG.countermandref01_Wide : Goes PG FN.countermandref01_Wide := TF.goes_144
theorem TG.draft_Draft_file_File_All_1 : Goes PG FN.draft_Draft_file_File_All_1 := TF.goes_145
theorem TG.stylus_Stylus_Raw : Goes PG FN.stylus_Stylus_Raw := TF.goes_146
theorem TG.cell_New_file_File : Goes PG FN.cell_New_file_File := TF.goes_147
theorem TG.cell_Row_file_File_Set : Goes PG FN.cell_Row_file_File_Set := TF.goes_148
theorem TG.cell_Row_file_File_is : Goes PG FN.cell_Row_file_File_is := TF.goes_149
theorem TG.slices_BinarySearchFunc_s_draft_entry_file_File_draft_entry_file_File_int : Goes PG FN.slices_BinarySearchFunc_s_draft_entry_file_File_draft_entry_file_File_int := TF.goes_160
theorem TG.draft_by_file_File : Goes PG FN.draft_by_file_File := TF.goes_161
theorem TG.slices_rotateRight_draft_entry_file_File : Goes PG FN.slices_rotateRight_draft_entry_file_File := TF.goes_163
theorem TG.slices_rotateLeft_draft_entry_file_File : Goes PG FN.slices_rotateLeft_draft_entry_file_File := TF.goes_167
theorem TG.slices_Reverse_s_draft_entry_file_File_draft_entry_file_File : Goes PG FN.slices_Reverse_s_draft_entry_file_File_draft_entry_file_File := TF.goes_170
def C_countermandlaw18_RedoReads (B : RO) (s1 : ByteArray) (h : Heap) (Q : Bool → Heap → Prop) : Prop :=
  Spec PG B 9 #[(Value.string s1)] h (fun v h' => ∃ b2 : Bool, v = (Value.bool b2) ∧ Q b2 h')
def C_countermandlaw18_RedoBytes (B : RO) (i1 : Int) (a2 : Option Addr) (n3 : Nat) (c4 : Nat) (h : Heap) (Q : Bool → Heap → Prop) : Prop :=
  Spec PG B 10 #[(Value.int .i64 (i1)), (Value.slice a2 n3 c4)] h (fun v h' => ∃ b5 : Bool, v = (Value.bool b5) ∧ Q b5 h')
def C_countermandlaw18_RedoApplies (B : RO) (l1 : List Value) (a2 : Option Addr) (n3 : Nat) (c4 : Nat) (i5 : Int) (h : Heap) (Q : Bool → Heap → Prop) : Prop :=
  Spec PG B 11 #[(Value.agg (List.toArray l1)), (Value.slice a2 n3 c4), (Value.int .i64 (i5))] h (fun v h' => ∃ b6 : Bool, v = (Value.bool b6) ∧ Q b6 h')
def C_countermandlaw18_RedoReplays (B : RO) (l1 : List Value) (a2 : Option Addr) (n3 : Nat) (c4 : Nat) (h : Heap) (Q : Bool → Heap → Prop) : Prop :=
  Spec PG B 12 #[(Value.agg (List.toArray l1)), (Value.slice a2 n3 c4)] h (fun v h' => ∃ b5 : Bool, v = (Value.bool b5) ∧ Q b5 h')
def C_countermandlaw18_RedoLast (B : RO) (l1 : List Value) (a2 : Option Addr) (n3 : Nat) (c4 : Nat) (a5 : Option Addr) (n6 : Nat) (c7 : Nat) (h : Heap) (Q : Bool → Heap → Prop) : Prop :=
  Spec PG B 13 #[(Value.agg (List.toArray l1)), (Value.slice a2 n3 c4), (Value.slice a5 n6 c7)] h (fun v h' => ∃ b8 : Bool, v = (Value.bool b8) ∧ Q b8 h')
def C_countermandlaw18_alive (B : RO) (h : Heap) (Q : Bool → Heap → Prop) : Prop :=
  Spec PG B 60 #[] h (fun v h' => ∃ b1 : Bool, v = (Value.bool b1) ∧ Q b1 h')
def C_redo_Read (B : RO) (s1 : ByteArray) (h : Heap) (Q : Int → Option Addr → Nat → Nat → Bool → Heap → Prop) : Prop :=
  Spec PG B 61 #[(Value.string s1)] h (fun v h' => ∃ i2 : Int, ∃ a3 : Option Addr, ∃ n4 : Nat, ∃ c5 : Nat, ∃ b6 : Bool, v = Value.tuple #[(Value.int .i64 (i2)), (Value.slice a3 n4 c5), (Value.bool b6)] ∧ Q i2 a3 n4 c5 b6 h')
def C_countermandref18_Read (B : RO) (s1 : ByteArray) (h : Heap) (Q : Int → Option Addr → Nat → Nat → Bool → Heap → Prop) : Prop :=
  Spec PG B 62 #[(Value.string s1)] h (fun v h' => ∃ i2 : Int, ∃ a3 : Option Addr, ∃ n4 : Nat, ∃ c5 : Nat, ∃ b6 : Bool, v = Value.tuple #[(Value.int .i64 (i2)), (Value.slice a3 n4 c5), (Value.bool b6)] ∧ Q i2 a3 n4 c5 b6 h')
def C_countermandlaw18_same (B : RO) (a1 : Option Addr) (n2 : Nat) (c3 : Nat) (a4 : Option Addr) (n5 : Nat) (c6 : Nat) (h : Heap) (Q : Bool → Heap → Prop) : Prop :=
  Spec PG B 63 #[(Value.slice a1 n2 c3), (Value.slice a4 n5 c6)] h (fun v h' => ∃ b7 : Bool, v = (Value.bool b7) ∧ Q b7 h')
def C_countermandref18_Bytes (B : RO) (i1 : Int) (a2 : Option Addr) (n3 : Nat) (c4 : Nat) (h : Heap) (Q : ByteArray → Heap → Prop) : Prop :=
  Spec PG B 64 #[(Value.int .i64 (i1)), (Value.slice a2 n3 c4)] h (fun v h' => ∃ s5 : ByteArray, v = (Value.string s5) ∧ Q s5 h')
def C_countermandlaw18_drawn (B : RO) (a1 : Option Addr) (n2 : Nat) (c3 : Nat) (h : Heap) (Q : Option Addr → Option Addr → Nat → Nat → Bool → Heap → Prop) : Prop :=
  Spec PG B 65 #[(Value.slice a1 n2 c3)] h (fun v h' => ∃ p4 : Option Addr, ∃ a5 : Option Addr, ∃ n6 : Nat, ∃ c7 : Nat, ∃ b8 : Bool, v = Value.tuple #[(Value.pointer p4), (Value.slice a5 n6 c7), (Value.bool b8)] ∧ Q p4 a5 n6 c7 b8 h')
def C_redo_Bytes (B : RO) (i1 : Int) (p2 : Option Addr) (h : Heap) (Q : ByteArray → Heap → Prop) : Prop :=
  Spec PG B 66 #[(Value.int .i64 (i1)), (Value.pointer p2)] h (fun v h' => ∃ s3 : ByteArray, v = (Value.string s3) ∧ Q s3 h')
def C_countermandlaw18_tomes (B : RO) (l1 : List Value) (h : Heap) (Q : Option Addr → List Value → Bool → Heap → Prop) : Prop :=
  Spec PG B 67 #[(Value.agg (List.toArray l1))] h (fun v h' => ∃ p2 : Option Addr, ∃ l3 : List Value, ∃ b4 : Bool, v = Value.tuple #[(Value.pointer p2), (Value.agg (List.toArray l3)), (Value.bool b4)] ∧ Q p2 l3 b4 h')
def C_redo_Apply (B : RO) (p1 : Option Addr) (a2 : Option Addr) (n3 : Nat) (c4 : Nat) (i5 : Int) (h : Heap) (Q : Heap → Prop) : Prop :=
  Spec PG B 68 #[(Value.pointer p1), (Value.slice a2 n3 c4), (Value.int .i64 (i5))] h (fun v h' => v = Value.tuple #[] ∧ Q  h')
def C_countermandref18_Apply (B : RO) (l1 : List Value) (a2 : Option Addr) (n3 : Nat) (c4 : Nat) (h : Heap) (Q : List Value → Heap → Prop) : Prop :=
  Spec PG B 69 #[(Value.agg (List.toArray l1)), (Value.slice a2 n3 c4)] h (fun v h' => ∃ l5 : List Value, v = (Value.agg (List.toArray l5)) ∧ Q l5 h')
def C_countermandlaw18_are (B : RO) (p1 : Option Addr) (l2 : List Value) (h : Heap) (Q : Bool → Heap → Prop) : Prop :=
  Spec PG B 70 #[(Value.pointer p1), (Value.agg (List.toArray l2))] h (fun v h' => ∃ b3 : Bool, v = (Value.bool b3) ∧ Q b3 h')
def C_tome_Tome_Get (B : RO) (p1 : Option Addr) (i2 : Int) (h : Heap) (Q : Bool → ByteArray → Int → Heap → Prop) : Prop :=
  Spec PG B 71 #[(Value.pointer p1), (Value.int .i64 (i2))] h (fun v h' => ∃ b3 : Bool, ∃ s4 : ByteArray, ∃ i5 : Int, v = Value.tuple #[(Value.agg #[(Value.bool b3), (Value.string s4)]), (Value.int .i64 (i5))] ∧ Q b3 s4 i5 h')
def C_redo_Replay (B : RO) (p1 : Option Addr) (a2 : Option Addr) (n3 : Nat) (c4 : Nat) (h : Heap) (Q : Int → Int → Heap → Prop) : Prop :=
  Spec PG B 72 #[(Value.pointer p1), (Value.slice a2 n3 c4)] h (fun v h' => ∃ i5 : Int, ∃ i6 : Int, v = Value.tuple #[(Value.int .i64 (i5)), (Value.int .i64 (i6))] ∧ Q i5 i6 h')
def C_draft_Draft_file_File_Put (B : RO) (p1 : Option Addr) (i2 : Int) (b3 : Bool) (s4 : ByteArray) (h : Heap) (Q : Bool → Heap → Prop) : Prop :=
  Spec PG B 103 #[(Value.pointer p1), (Value.int .i64 (i2)), (Value.agg #[(Value.bool b3), (Value.string s4)])] h (fun v h' => ∃ b5 : Bool, v = (Value.bool b5) ∧ Q b5 h')
def C_stylus_Of (B : RO) (s1 : ByteArray) (h : Heap) (Q : Option Addr → Heap → Prop) : Prop :=
  Spec PG B 104 #[(Value.string s1)] h (fun v h' => ∃ p2 : Option Addr, v = (Value.pointer p2) ∧ Q p2 h')
def C_stylus_Reader_Nat (B : RO) (p1 : Option Addr) (i2 : Int) (h : Heap) (Q : Int → Heap → Prop) : Prop :=
  Spec PG B 105 #[(Value.pointer p1), (Value.int .i64 (i2))] h (fun v h' => ∃ i3 : Int, v = (Value.int .i64 (i3)) ∧ Q i3 h')
def C_stylus_Reader_Left (B : RO) (p1 : Option Addr) (h : Heap) (Q : Int → Heap → Prop) : Prop :=
  Spec PG B 106 #[(Value.pointer p1)] h (fun v h' => ∃ i2 : Int, v = (Value.int .i64 (i2)) ∧ Q i2 h')
def C_stylus_Reader_Text (B : RO) (p1 : Option Addr) (i2 : Int) (h : Heap) (Q : ByteArray → Heap → Prop) : Prop :=
  Spec PG B 107 #[(Value.pointer p1), (Value.int .i64 (i2))] h (fun v h' => ∃ s3 : ByteArray, v = (Value.string s3) ∧ Q s3 h')
def C_stylus_Reader_Bad (B : RO) (p1 : Option Addr) (h : Heap) (Q : Bool → Heap → Prop) : Prop :=
  Spec PG B 108 #[(Value.pointer p1)] h (fun v h' => ∃ b2 : Bool, v = (Value.bool b2) ∧ Q b2 h')
def C_countermandref18_nat (B : RO) (s1 : ByteArray) (i2 : Int) (h : Heap) (Q : Int → ByteArray → Bool → Heap → Prop) : Prop :=
  Spec PG B 109 #[(Value.string s1), (Value.int .u64 (i2))] h (fun v h' => ∃ i3 : Int, ∃ s4 : ByteArray, ∃ b5 : Bool, v = Value.tuple #[(Value.int .i64 (i3)), (Value.string s4), (Value.bool b5)] ∧ Q i3 s4 b5 h')
def C_countermandref01_Nat (B : RO) (i1 : Int) (h : Heap) (Q : ByteArray → Heap → Prop) : Prop :=
  Spec PG B 110 #[(Value.int .i64 (i1))] h (fun v h' => ∃ s2 : ByteArray, v = (Value.string s2) ∧ Q s2 h')
def C_countermandref01_Text (B : RO) (s1 : ByteArray) (h : Heap) (Q : ByteArray → Heap → Prop) : Prop :=
  Spec PG B 111 #[(Value.string s1)] h (fun v h' => ∃ s2 : ByteArray, v = (Value.string s2) ∧ Q s2 h')
def C_file_Good (B : RO) (b1 : Bool) (s2 : ByteArray) (h : Heap) (Q : Bool → Heap → Prop) : Prop :=
  Spec PG B 112 #[(Value.agg #[(Value.bool b1), (Value.string s2)])] h (fun v h' => ∃ b3 : Bool, v = (Value.bool b3) ∧ Q b3 h')
def C_draft_Draft_file_File_All (B : RO) (p1 : Option Addr) (h : Heap) (Q : Value → Heap → Prop) : Prop :=
  Spec PG B 113 #[(Value.pointer p1)] h (fun v h' => ∃ v2 : Value, v = v2 ∧ Q v2 h')
def C_stylus_Stylus_Nat (B : RO) (p1 : Option Addr) (a2 : Option Addr) (n3 : Nat) (c4 : Nat) (h : Heap) (Q : Heap → Prop) : Prop :=
  Spec PG B 114 #[(Value.pointer p1), (Value.slice a2 n3 c4)] h (fun v h' => v = Value.tuple #[] ∧ Q  h')
def C_stylus_Stylus_Text (B : RO) (p1 : Option Addr) (a2 : Option Addr) (n3 : Nat) (c4 : Nat) (h : Heap) (Q : Heap → Prop) : Prop :=
  Spec PG B 115 #[(Value.pointer p1), (Value.slice a2 n3 c4)] h (fun v h' => v = Value.tuple #[] ∧ Q  h')
def C_stylus_Stylus_Bytes (B : RO) (p1 : Option Addr) (h : Heap) (Q : ByteArray → Heap → Prop) : Prop :=
  Spec PG B 116 #[(Value.pointer p1)] h (fun v h' => ∃ s2 : ByteArray, v = (Value.string s2) ∧ Q s2 h')
def C_tome_New (B : RO) (h : Heap) (Q : Option Addr → Heap → Prop) : Prop :=
  Spec PG B 117 #[] h (fun v h' => ∃ p1 : Option Addr, v = (Value.pointer p1) ∧ Q p1 h')
def C_tome_Tome_Set (B : RO) (p1 : Option Addr) (i2 : Int) (b3 : Bool) (s4 : ByteArray) (i5 : Int) (h : Heap) (Q : Bool → Heap → Prop) : Prop :=
  Spec PG B 118 #[(Value.pointer p1), (Value.int .i64 (i2)), (Value.agg #[(Value.bool b3), (Value.string s4)]), (Value.int .i64 (i5))] h (fun v h' => ∃ b6 : Bool, v = (Value.bool b6) ∧ Q b6 h')
def C_cell_Row_file_File_Get (B : RO) (p1 : Option Addr) (i2 : Int) (h : Heap) (Q : Bool → ByteArray → Int → Heap → Prop) : Prop :=
  Spec PG B 119 #[(Value.pointer p1), (Value.int .i64 (i2))] h (fun v h' => ∃ b3 : Bool, ∃ s4 : ByteArray, ∃ i5 : Int, v = Value.tuple #[(Value.agg #[(Value.bool b3), (Value.string s4)]), (Value.int .i64 (i5))] ∧ Q b3 s4 i5 h')
def C_draft_Draft_file_File_find (B : RO) (p1 : Option Addr) (i2 : Int) (h : Heap) (Q : Int → Bool → Heap → Prop) : Prop :=
  Spec PG B 138 #[(Value.pointer p1), (Value.int .i64 (i2))] h (fun v h' => ∃ i3 : Int, ∃ b4 : Bool, v = Value.tuple #[(Value.int .i64 (i3)), (Value.bool b4)] ∧ Q i3 b4 h')
def C_slices_Insert_s_draft_entry_file_File_draft_entry_file_File (B : RO) (a1 : Option Addr) (n2 : Nat) (c3 : Nat) (i4 : Int) (a5 : Option Addr) (n6 : Nat) (c7 : Nat) (h : Heap) (Q : Option Addr → Nat → Nat → Heap → Prop) : Prop :=
  Spec PG B 139 #[(Value.slice a1 n2 c3), (Value.int .i64 (i4)), (Value.slice a5 n6 c7)] h (fun v h' => ∃ a8 : Option Addr, ∃ n9 : Nat, ∃ c10 : Nat, v = (Value.slice a8 n9 c10) ∧ Q a8 n9 c10 h')
def C_stylus_Reader_word (B : RO) (p1 : Option Addr) (h : Heap) (Q : Int → Heap → Prop) : Prop :=
  Spec PG B 140 #[(Value.pointer p1)] h (fun v h' => ∃ i2 : Int, v = (Value.int .u64 (i2)) ∧ Q i2 h')
def C_stylus_Reader_Spoil (B : RO) (p1 : Option Addr) (h : Heap) (Q : Heap → Prop) : Prop :=
  Spec PG B 141 #[(Value.pointer p1)] h (fun v h' => v = Value.tuple #[] ∧ Q  h')
def C_stylus_Reader_Raw (B : RO) (p1 : Option Addr) (i2 : Int) (h : Heap) (Q : ByteArray → Heap → Prop) : Prop :=
  Spec PG B 142 #[(Value.pointer p1), (Value.int .i64 (i2))] h (fun v h' => ∃ s3 : ByteArray, v = (Value.string s3) ∧ Q s3 h')
def C_countermandref01_Taken (B : RO) (s1 : ByteArray) (h : Heap) (Q : Int → Int → Heap → Prop) : Prop :=
  Spec PG B 143 #[(Value.string s1)] h (fun v h' => ∃ i2 : Int, ∃ i3 : Int, v = Value.tuple #[(Value.int .u64 (i2)), (Value.int .i64 (i3))] ∧ Q i2 i3 h')
def C_countermandref01_Wide (B : RO) (i1 : Int) (h : Heap) (Q : ByteArray → Heap → Prop) : Prop :=
  Spec PG B 144 #[(Value.int .u64 (i1))] h (fun v h' => ∃ s2 : ByteArray, v = (Value.string s2) ∧ Q s2 h')
def C_draft_Draft_file_File_All_1 (B : RO) (v1 : Value) (A2 : Addr) (h : Heap) (Q : Heap → Prop) : Prop :=
  Spec PG B 145 #[v1, (Value.pointer (some A2))] h (fun v h' => v = Value.tuple #[] ∧ Q  h')
def C_stylus_Stylus_Raw (B : RO) (p1 : Option Addr) (s2 : ByteArray) (h : Heap) (Q : Heap → Prop) : Prop :=
  Spec PG B 146 #[(Value.pointer p1), (Value.string s2)] h (fun v h' => v = Value.tuple #[] ∧ Q  h')
def C_cell_New_file_File (B : RO) (i1 : Int) (b2 : Bool) (s3 : ByteArray) (h : Heap) (Q : Option Addr → Heap → Prop) : Prop :=
  Spec PG B 147 #[(Value.int .i64 (i1)), (Value.agg #[(Value.bool b2), (Value.string s3)])] h (fun v h' => ∃ p4 : Option Addr, v = (Value.pointer p4) ∧ Q p4 h')
def C_cell_Row_file_File_Set (B : RO) (p1 : Option Addr) (i2 : Int) (b3 : Bool) (s4 : ByteArray) (i5 : Int) (h : Heap) (Q : Bool → Heap → Prop) : Prop :=
  Spec PG B 148 #[(Value.pointer p1), (Value.int .i64 (i2)), (Value.agg #[(Value.bool b3), (Value.string s4)]), (Value.int .i64 (i5))] h (fun v h' => ∃ b6 : Bool, v = (Value.bool b6) ∧ Q b6 h')
def C_cell_Row_file_File_is (B : RO) (p1 : Option Addr) (i2 : Int) (h : Heap) (Q : Bool → Heap → Prop) : Prop :=
  Spec PG B 149 #[(Value.pointer p1), (Value.int .i64 (i2))] h (fun v h' => ∃ b3 : Bool, v = (Value.bool b3) ∧ Q b3 h')
def C_slices_BinarySearchFunc_s_draft_entry_file_File_draft_entry_file_File_int (B : RO) (a1 : Option Addr) (n2 : Nat) (c3 : Nat) (i4 : Int) (v5 : Value) (h : Heap) (Q : Int → Bool → Heap → Prop) : Prop :=
  Spec PG B 160 #[(Value.slice a1 n2 c3), (Value.int .i64 (i4)), v5] h (fun v h' => ∃ i6 : Int, ∃ b7 : Bool, v = Value.tuple #[(Value.int .i64 (i6)), (Value.bool b7)] ∧ Q i6 b7 h')
def C_draft_by_file_File (B : RO) (i1 : Int) (b2 : Bool) (s3 : ByteArray) (i4 : Int) (h : Heap) (Q : Int → Heap → Prop) : Prop :=
  Spec PG B 161 #[(Value.agg #[(Value.int .i64 (i1)), (Value.bool b2), (Value.string s3)]), (Value.int .i64 (i4))] h (fun v h' => ∃ i5 : Int, v = (Value.int .i64 (i5)) ∧ Q i5 h')
def C_slices_rotateRight_draft_entry_file_File (B : RO) (a1 : Option Addr) (n2 : Nat) (c3 : Nat) (i4 : Int) (h : Heap) (Q : Heap → Prop) : Prop :=
  Spec PG B 163 #[(Value.slice a1 n2 c3), (Value.int .i64 (i4))] h (fun v h' => v = Value.tuple #[] ∧ Q  h')
def C_slices_rotateLeft_draft_entry_file_File (B : RO) (a1 : Option Addr) (n2 : Nat) (c3 : Nat) (i4 : Int) (h : Heap) (Q : Heap → Prop) : Prop :=
  Spec PG B 167 #[(Value.slice a1 n2 c3), (Value.int .i64 (i4))] h (fun v h' => v = Value.tuple #[] ∧ Q  h')
def C_slices_Reverse_s_draft_entry_file_File_draft_entry_file_File (B : RO) (a1 : Option Addr) (n2 : Nat) (c3 : Nat) (h : Heap) (Q : Heap → Prop) : Prop :=
  Spec PG B 170 #[(Value.slice a1 n2 c3)] h (fun v h' => v = Value.tuple #[] ∧ Q  h')
end Go.Proofs.Ythloobpjkeodgaa.H
