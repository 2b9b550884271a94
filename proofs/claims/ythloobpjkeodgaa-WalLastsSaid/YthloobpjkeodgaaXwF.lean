/- Calls and facts. No condition. -/
import Derived.Test.YthloobpjkeodgaaHs
import Derived.Test.YthloobpjkeodgaaProg
import Derived.KernelRfl
namespace Go.Proofs.Ythloobpjkeodgaa.H
open Go
set_option linter.unusedVariables false
set_option maxRecDepth 100000

noncomputable abbrev PG : Program := Go.Proofs.Try.prog
abbrev TY.int64 : TypeId := 2
abbrev TY.int : TypeId := 3
abbrev TY.bool : TypeId := 4
abbrev TY.uint8 : TypeId := 5
abbrev TY.abi_BoundsErrorCode : TypeId := 6
abbrev TY.runtime_boundsError : TypeId := 8
abbrev TY.string : TypeId := 9
abbrev TY.runtime_errorString : TypeId := 10
abbrev TY.runtime_plainError : TypeId := 11
abbrev TY.uintptr : TypeId := 12
abbrev TY.runtime_errorAddressString : TypeId := 14
abbrev TY.p_runtime_TypeAssertionError : TypeId := 15
abbrev TY.p_runtime_PanicNilError : TypeId := 16
abbrev TY.p_abi_Type : TypeId := 17
abbrev TY.maps_unhashableTypeError : TypeId := 19
abbrev TY.int32 : TypeId := 21
abbrev TY.s_countermandlaw16_Step : TypeId := 22
abbrev TY.p_acts_Acts : TypeId := 24
abbrev TY.s_acts_Out : TypeId := 25
abbrev TY.s_int : TypeId := 26
abbrev TY.s_acts_Open : TypeId := 27
abbrev TY.acts_Acts : TypeId := 29
abbrev TY.s_countermandref16_Act : TypeId := 30
abbrev TY.countermandref16_Act : TypeId := 32
abbrev TY.a_4_int : TypeId := 33
abbrev TY.countermandlaw16_Step : TypeId := 35
abbrev TY.acts_Mark : TypeId := 42
abbrev TY.s_string : TypeId := 55
abbrev TY.p_wal_Log : TypeId := 57
abbrev TY.api_Errno : TypeId := 58
abbrev TY.p_disk_Disk : TypeId := 61
abbrev TY.iter_Seq_string : TypeId := 66
abbrev TY.s_countermandlaw04_Call : TypeId := 69
abbrev TY.countermandlaw04_Call : TypeId := 73
abbrev TY.p_countermandlaw04_both : TypeId := 80
abbrev TY.p_countermandref04_Log : TypeId := 83
abbrev TY.countermandlaw04_both : TypeId := 85
abbrev TY.p_countermandref03_Disk : TypeId := 88
abbrev TY.countermandref04_Log : TypeId := 90
abbrev TY.s_countermandref03_Change : TypeId := 92
abbrev TY.countermandref03_Disk : TypeId := 94
abbrev TY.s_redo_Change : TypeId := 96
abbrev TY.s_countermandref18_Change : TypeId := 99
abbrev TY.p_draft_Draft_file_File : TypeId := 105
abbrev TY.file_File : TypeId := 111
abbrev TY.a_6_file_File : TypeId := 112
abbrev TY.p_tome_Tome : TypeId := 113
abbrev TY.countermandref09_File : TypeId := 114
abbrev TY.a_6_countermandref09_File : TypeId := 115
abbrev TY.countermandref18_Change : TypeId := 122
abbrev TY.s_countermandlaw17_Step : TypeId := 130
abbrev TY.p_mark_Stack : TypeId := 131
abbrev TY.s_mark_Mark : TypeId := 132
abbrev TY.mark_Stack : TypeId := 134
abbrev TY.p_draft_Draft_int : TypeId := 135
abbrev TY.p_sheet_Sheet : TypeId := 136
abbrev TY.p_cursor_Cursor : TypeId := 137
abbrev TY.api_Regs : TypeId := 138
abbrev TY.mark_State : TypeId := 140
abbrev TY.s_countermandref13_Put : TypeId := 142
abbrev TY.countermandref17_State : TypeId := 144
abbrev TY.s_countermandref17_Mark : TypeId := 145
abbrev TY.countermandlaw17_Step : TypeId := 146
abbrev TY.countermandref13_Put : TypeId := 148
abbrev TY.mark_Mark : TypeId := 151
abbrev TY.countermandref17_Mark : TypeId := 154
abbrev TY.acts_Open : TypeId := 160
abbrev TY.acts_Out : TypeId := 163
abbrev TY.wal_Log : TypeId := 171
abbrev TY.disk_area : TypeId := 173
abbrev TY.a_2_disk_area : TypeId := 174
abbrev TY.s_disk_change : TypeId := 175
abbrev TY.disk_Disk : TypeId := 177
abbrev TY.disk_change : TypeId := 181
abbrev TY.countermandref03_Change : TypeId := 189
abbrev TY.s_draft_entry_file_File : TypeId := 191
abbrev TY.draft_Draft_file_File : TypeId := 193
abbrev TY.p_stylus_Reader : TypeId := 195
abbrev TY.redo_Change : TypeId := 199
abbrev TY.uint64 : TypeId := 202
abbrev TY.iter_Seq2_int_file_File : TypeId := 205
abbrev TY.p_stylus_Stylus : TypeId := 207
abbrev TY.s_uint8 : TypeId := 208
abbrev TY.stylus_Stylus : TypeId := 210
abbrev TY.p_cell_Row_file_File : TypeId := 215
abbrev TY.tome_Tome : TypeId := 217
abbrev TY.s_draft_entry_int : TypeId := 218
abbrev TY.draft_Draft_int : TypeId := 220
abbrev TY.a_3_int : TypeId := 222
abbrev TY.cursor_Cursor : TypeId := 224
abbrev TY.draft_entry_int : TypeId := 228
abbrev TY.iter_Seq2_int_int : TypeId := 234
abbrev TY.iter_Seq2_int_acts_Open : TypeId := 238
abbrev TY.s_s_acts_Out : TypeId := 240
abbrev TY.uint : TypeId := 241
abbrev TY.uint32 : TypeId := 243
abbrev TY.draft_entry_file_File : TypeId := 246
abbrev TY.stylus_Reader : TypeId := 249
abbrev TY.cell_slot_file_File : TypeId := 257
abbrev TY.s_cell_slot_file_File : TypeId := 258
abbrev TY.cell_Row_file_File : TypeId := 260
abbrev TY.sheet_Sheet : TypeId := 262
abbrev TY.runtime_TypeAssertionError : TypeId := 280
abbrev TY.a_0_p_runtime_PanicNilError : TypeId := 281
abbrev TY.runtime_PanicNilError : TypeId := 283
abbrev TY.abi_TFlag : TypeId := 284
abbrev TY.abi_Kind : TypeId := 285
abbrev TY.p_uint8 : TypeId := 287
abbrev TY.abi_NameOff : TypeId := 288
abbrev TY.abi_TypeOff : TypeId := 289
abbrev TY.abi_Type : TypeId := 291
theorem TF.agg_104 : aggB PG 104 = some false := by kernel_rfl
theorem TF.agg_175 : aggB PG 175 = some false := by kernel_rfl
theorem TF.agg_181 : aggB PG 181 = some true := by kernel_rfl
theorem TF.agg_3 : aggB PG 3 = some false := by kernel_rfl
theorem TF.agg_4 : aggB PG 4 = some false := by kernel_rfl
theorem TF.agg_55 : aggB PG 55 = some false := by kernel_rfl
theorem TF.agg_57 : aggB PG 57 = some false := by kernel_rfl
theorem TF.agg_61 : aggB PG 61 = some false := by kernel_rfl
theorem TF.agg_73 : aggB PG 73 = some true := by kernel_rfl
theorem TF.agg_83 : aggB PG 83 = some false := by kernel_rfl
theorem TF.agg_88 : aggB PG 88 = some false := by kernel_rfl
theorem TF.agg_9 : aggB PG 9 = some false := by kernel_rfl
theorem TF.agg_92 : aggB PG 92 = some false := by kernel_rfl
theorem TF.arr_174 : arrB PG 174 = some (2, 173, 2, true) := by kernel_rfl
theorem TF.bool_4 : boolT PG 4 = true := by kernel_rfl
theorem TF.fld_171_0 : fldB PG 171 0 = some 0 := by kernel_rfl
theorem TF.fld_171_1 : fldB PG 171 1 = some 1 := by kernel_rfl
theorem TF.fld_171_2 : fldB PG 171 2 = some 2 := by kernel_rfl
theorem TF.fld_171_3 : fldB PG 171 3 = some 3 := by kernel_rfl
theorem TF.fld_173_0 : fldB PG 173 0 = some 0 := by kernel_rfl
theorem TF.fld_173_1 : fldB PG 173 1 = some 1 := by kernel_rfl
theorem TF.fld_177_0 : fldB PG 177 0 = some 0 := by kernel_rfl
theorem TF.fld_177_1 : fldB PG 177 1 = some 4 := by kernel_rfl
theorem TF.fld_181_0 : fldB PG 181 0 = some 0 := by kernel_rfl
theorem TF.fld_181_1 : fldB PG 181 1 = some 1 := by kernel_rfl
theorem TF.fld_181_2 : fldB PG 181 2 = some 2 := by kernel_rfl
theorem TF.fld_189_0 : fldB PG 189 0 = some 0 := by kernel_rfl
theorem TF.fld_189_1 : fldB PG 189 1 = some 1 := by kernel_rfl
theorem TF.fld_189_2 : fldB PG 189 2 = some 2 := by kernel_rfl
theorem TF.fld_73_0 : fldB PG 73 0 = some 0 := by kernel_rfl
theorem TF.fld_73_1 : fldB PG 73 1 = some 1 := by kernel_rfl
theorem TF.fld_73_2 : fldB PG 73 2 = some 2 := by kernel_rfl
theorem TF.fld_73_3 : fldB PG 73 3 = some 3 := by kernel_rfl
theorem TF.fld_85_0 : fldB PG 85 0 = some 0 := by kernel_rfl
theorem TF.fld_85_1 : fldB PG 85 1 = some 1 := by kernel_rfl
theorem TF.fld_85_2 : fldB PG 85 2 = some 2 := by kernel_rfl
theorem TF.fld_90_0 : fldB PG 90 0 = some 0 := by kernel_rfl
theorem TF.fld_90_1 : fldB PG 90 1 = some 1 := by kernel_rfl
theorem TF.fld_90_2 : fldB PG 90 2 = some 2 := by kernel_rfl
theorem TF.fld_94_0 : fldB PG 94 0 = some 0 := by kernel_rfl
theorem TF.fld_94_1 : fldB PG 94 1 = some 1 := by kernel_rfl
theorem TF.goes_100 : Goes PG 100 := ⟨Try.f100, Try.func100, by kernel_rfl, by kernel_rfl⟩
theorem TF.goes_101 : Goes PG 101 := ⟨Try.f101, Try.func101, by kernel_rfl, by kernel_rfl⟩
theorem TF.goes_102 : Goes PG 102 := ⟨Try.f102, Try.func102, by kernel_rfl, by kernel_rfl⟩
theorem TF.goes_132 : Goes PG 132 := ⟨Try.f132, Try.func132, by kernel_rfl, by kernel_rfl⟩
theorem TF.goes_133 : Goes PG 133 := ⟨Try.f133, Try.func133, by kernel_rfl, by kernel_rfl⟩
theorem TF.goes_134 : Goes PG 134 := ⟨Try.f134, Try.func134, by kernel_rfl, by kernel_rfl⟩
theorem TF.goes_135 : Goes PG 135 := ⟨Try.f135, Try.func135, by kernel_rfl, by kernel_rfl⟩
theorem TF.goes_136 : Goes PG 136 := ⟨Try.f136, Try.func136, by kernel_rfl, by kernel_rfl⟩
theorem TF.goes_137 : Goes PG 137 := ⟨Try.f137, Try.func137, by kernel_rfl, by kernel_rfl⟩
theorem TF.goes_159 : Goes PG 159 := ⟨Try.f159, Try.func159, by kernel_rfl, by kernel_rfl⟩
theorem TF.goes_34 : Goes PG 34 := ⟨Try.f34, Try.func34, by kernel_rfl, by kernel_rfl⟩
theorem TF.goes_35 : Goes PG 35 := ⟨Try.f35, Try.func35, by kernel_rfl, by kernel_rfl⟩
theorem TF.goes_36 : Goes PG 36 := ⟨Try.f36, Try.func36, by kernel_rfl, by kernel_rfl⟩
theorem TF.goes_37 : Goes PG 37 := ⟨Try.f37, Try.func37, by kernel_rfl, by kernel_rfl⟩
theorem TF.goes_38 : Goes PG 38 := ⟨Try.f38, Try.func38, by kernel_rfl, by kernel_rfl⟩
theorem TF.goes_39 : Goes PG 39 := ⟨Try.f39, Try.func39, by kernel_rfl, by kernel_rfl⟩
theorem TF.goes_4 : Goes PG 4 := ⟨Try.f4, Try.func4, by kernel_rfl, by kernel_rfl⟩
theorem TF.goes_40 : Goes PG 40 := ⟨Try.f40, Try.func40, by kernel_rfl, by kernel_rfl⟩
theorem TF.goes_41 : Goes PG 41 := ⟨Try.f41, Try.func41, by kernel_rfl, by kernel_rfl⟩
theorem TF.goes_42 : Goes PG 42 := ⟨Try.f42, Try.func42, by kernel_rfl, by kernel_rfl⟩
theorem TF.goes_43 : Goes PG 43 := ⟨Try.f43, Try.func43, by kernel_rfl, by kernel_rfl⟩
theorem TF.goes_44 : Goes PG 44 := ⟨Try.f44, Try.func44, by kernel_rfl, by kernel_rfl⟩
theorem TF.goes_45 : Goes PG 45 := ⟨Try.f45, Try.func45, by kernel_rfl, by kernel_rfl⟩
theorem TF.goes_46 : Goes PG 46 := ⟨Try.f46, Try.func46, by kernel_rfl, by kernel_rfl⟩
theorem TF.goes_47 : Goes PG 47 := ⟨Try.f47, Try.func47, by kernel_rfl, by kernel_rfl⟩
theorem TF.goes_48 : Goes PG 48 := ⟨Try.f48, Try.func48, by kernel_rfl, by kernel_rfl⟩
theorem TF.goes_49 : Goes PG 49 := ⟨Try.f49, Try.func49, by kernel_rfl, by kernel_rfl⟩
theorem TF.goes_5 : Goes PG 5 := ⟨Try.f5, Try.func5, by kernel_rfl, by kernel_rfl⟩
theorem TF.goes_50 : Goes PG 50 := ⟨Try.f50, Try.func50, by kernel_rfl, by kernel_rfl⟩
theorem TF.goes_51 : Goes PG 51 := ⟨Try.f51, Try.func51, by kernel_rfl, by kernel_rfl⟩
theorem TF.goes_52 : Goes PG 52 := ⟨Try.f52, Try.func52, by kernel_rfl, by kernel_rfl⟩
theorem TF.goes_53 : Goes PG 53 := ⟨Try.f53, Try.func53, by kernel_rfl, by kernel_rfl⟩
theorem TF.goes_54 : Goes PG 54 := ⟨Try.f54, Try.func54, by kernel_rfl, by kernel_rfl⟩
theorem TF.goes_55 : Goes PG 55 := ⟨Try.f55, Try.func55, by kernel_rfl, by kernel_rfl⟩
theorem TF.goes_56 : Goes PG 56 := ⟨Try.f56, Try.func56, by kernel_rfl, by kernel_rfl⟩
theorem TF.goes_57 : Goes PG 57 := ⟨Try.f57, Try.func57, by kernel_rfl, by kernel_rfl⟩
theorem TF.goes_58 : Goes PG 58 := ⟨Try.f58, Try.func58, by kernel_rfl, by kernel_rfl⟩
theorem TF.goes_59 : Goes PG 59 := ⟨Try.f59, Try.func59, by kernel_rfl, by kernel_rfl⟩
theorem TF.goes_6 : Goes PG 6 := ⟨Try.f6, Try.func6, by kernel_rfl, by kernel_rfl⟩
theorem TF.goes_7 : Goes PG 7 := ⟨Try.f7, Try.func7, by kernel_rfl, by kernel_rfl⟩
theorem TF.goes_8 : Goes PG 8 := ⟨Try.f8, Try.func8, by kernel_rfl, by kernel_rfl⟩
theorem TF.goes_89 : Goes PG 89 := ⟨Try.f89, Try.func89, by kernel_rfl, by kernel_rfl⟩
theorem TF.goes_90 : Goes PG 90 := ⟨Try.f90, Try.func90, by kernel_rfl, by kernel_rfl⟩
theorem TF.goes_91 : Goes PG 91 := ⟨Try.f91, Try.func91, by kernel_rfl, by kernel_rfl⟩
theorem TF.goes_92 : Goes PG 92 := ⟨Try.f92, Try.func92, by kernel_rfl, by kernel_rfl⟩
theorem TF.goes_93 : Goes PG 93 := ⟨Try.f93, Try.func93, by kernel_rfl, by kernel_rfl⟩
theorem TF.goes_94 : Goes PG 94 := ⟨Try.f94, Try.func94, by kernel_rfl, by kernel_rfl⟩
theorem TF.goes_95 : Goes PG 95 := ⟨Try.f95, Try.func95, by kernel_rfl, by kernel_rfl⟩
theorem TF.goes_96 : Goes PG 96 := ⟨Try.f96, Try.func96, by kernel_rfl, by kernel_rfl⟩
theorem TF.goes_97 : Goes PG 97 := ⟨Try.f97, Try.func97, by kernel_rfl, by kernel_rfl⟩
theorem TF.goes_98 : Goes PG 98 := ⟨Try.f98, Try.func98, by kernel_rfl, by kernel_rfl⟩
theorem TF.goes_99 : Goes PG 99 := ⟨Try.f99, Try.func99, by kernel_rfl, by kernel_rfl⟩
theorem TF.int_243 : intB PG 243 = some .u32 := by kernel_rfl
theorem TF.int_3 : intB PG 3 = some .i64 := by kernel_rfl
theorem TF.int_5 : intB PG 5 = some .u8 := by kernel_rfl
theorem TF.isStr_9 : isStr PG 9 = true := by kernel_rfl
theorem TF.mixed : PG.follows .mixedOrders = true := by kernel_rfl
theorem TF.places_171 : strPlaces PG 171 = some [(0, 1), (1, 1), (2, 1), (3, 1)] := by kernel_rfl
theorem TF.places_177 : strPlaces PG 177 = some [(0, 4), (4, 1)] := by kernel_rfl
theorem TF.places_181 : strPlaces PG 181 = some [(0, 1), (1, 1), (2, 1)] := by kernel_rfl
theorem TF.places_189 : strPlaces PG 189 = some [(0, 1), (1, 1), (2, 1)] := by kernel_rfl
theorem TF.places_85 : strPlaces PG 85 = some [(0, 1), (1, 1), (2, 1)] := by kernel_rfl
theorem TF.places_90 : strPlaces PG 90 = some [(0, 1), (1, 1), (2, 1)] := by kernel_rfl
theorem TF.places_94 : strPlaces PG 94 = some [(0, 1), (1, 1)] := by kernel_rfl
theorem TF.ptr_57 : ptrB PG 57 = true := by kernel_rfl
theorem TF.ptr_61 : ptrB PG 61 = true := by kernel_rfl
theorem TF.sl_175 : slT PG 175 = true := by kernel_rfl
theorem TF.sl_55 : slT PG 55 = true := by kernel_rfl
theorem TF.sl_69 : slT PG 69 = true := by kernel_rfl
theorem TF.sl_92 : slT PG 92 = true := by kernel_rfl
theorem TF.slc_175 : slcB PG 175 = some (181, 3, 32) := by kernel_rfl
theorem TF.slc_208 : slcB PG 208 = some (5, 1, 1) := by kernel_rfl
theorem TF.slc_55 : slcB PG 55 = some (9, 1, 16) := by kernel_rfl
theorem TF.slc_69 : slcB PG 69 = some (73, 4, 40) := by kernel_rfl
theorem TF.slc_92 : slcB PG 92 = some (189, 3, 32) := by kernel_rfl
theorem TF.sz_175 : szB PG 175 = some 1 := by kernel_rfl
theorem TF.sz_181 : szB PG 181 = some 3 := by kernel_rfl
theorem TF.sz_3 : szB PG 3 = some 1 := by kernel_rfl
theorem TF.sz_4 : szB PG 4 = some 1 := by kernel_rfl
theorem TF.sz_55 : szB PG 55 = some 1 := by kernel_rfl
theorem TF.sz_57 : szB PG 57 = some 1 := by kernel_rfl
theorem TF.sz_73 : szB PG 73 = some 4 := by kernel_rfl
theorem TF.sz_83 : szB PG 83 = some 1 := by kernel_rfl
theorem TF.sz_9 : szB PG 9 = some 1 := by kernel_rfl
theorem TF.sz_92 : szB PG 92 = some 1 := by kernel_rfl
theorem TF.zero_171 : zeroB PG 171 = some [(Value.pointer none), (Value.int .i64 (0)), (Value.int .i64 (0)), (Value.bool false)] := by kernel_rfl
theorem TF.zero_177 : zeroB PG 177 = some [(Value.string ByteArray.empty), (Value.string ByteArray.empty), (Value.string ByteArray.empty), (Value.string ByteArray.empty), (Value.slice none 0 0)] := by kernel_rfl
theorem TF.zero_181 : zeroB PG 181 = some [(Value.int .i64 (0)), (Value.bool false), (Value.string ByteArray.empty)] := by kernel_rfl
theorem TF.zero_189 : zeroB PG 189 = some [(Value.int .i64 (0)), (Value.bool false), (Value.string ByteArray.empty)] := by kernel_rfl
theorem TF.zero_3 : zeroB PG 3 = some [(Value.int .i64 (0))] := by kernel_rfl
theorem TF.zero_4 : zeroB PG 4 = some [(Value.bool false)] := by kernel_rfl
theorem TF.zero_5 : zeroB PG 5 = some [(Value.int .u8 (0))] := by kernel_rfl
theorem TF.zero_55 : zeroB PG 55 = some [(Value.slice none 0 0)] := by kernel_rfl
theorem TF.zero_73 : zeroB PG 73 = some [(Value.int .i64 (0)), (Value.string ByteArray.empty), (Value.int .i64 (0)), (Value.int .i64 (0))] := by kernel_rfl
theorem TF.zero_85 : zeroB PG 85 = some [(Value.pointer none), (Value.pointer none), (Value.pointer none)] := by kernel_rfl
theorem TF.zero_9 : zeroB PG 9 = some [(Value.string ByteArray.empty)] := by kernel_rfl
theorem TF.zero_90 : zeroB PG 90 = some [(Value.pointer none), (Value.int .i64 (0)), (Value.bool false)] := by kernel_rfl
theorem TF.zero_94 : zeroB PG 94 = some [(Value.slice none 0 0), (Value.int .i64 (0))] := by kernel_rfl
abbrev FN.countermandlaw04_WalStops : FuncId := 4
abbrev FN.countermandlaw04_WalOther : FuncId := 5
abbrev FN.countermandlaw04_WalLasts : FuncId := 6
abbrev FN.countermandlaw04_WalClears : FuncId := 7
abbrev FN.countermandlaw04_WalDoes : FuncId := 8
abbrev FN.countermandlaw04_alive : FuncId := 34
abbrev FN.countermandlaw04_heavy : FuncId := 35
abbrev FN.wal_Open : FuncId := 36
abbrev FN.disk_New : FuncId := 37
abbrev FN.wal_Log_Append : FuncId := 38
abbrev FN.countermandlaw04_loads : FuncId := 39
abbrev FN.wal_Log_All : FuncId := 40
abbrev FN.countermandlaw04_great : FuncId := 41
abbrev FN.disk_Disk_Append : FuncId := 42
abbrev FN.disk_Disk_Sync : FuncId := 43
abbrev FN.wal_Log_Force : FuncId := 44
abbrev FN.wal_Log_Clear : FuncId := 45
abbrev FN.disk_Disk_Crash : FuncId := 46
abbrev FN.disk_Disk_Read : FuncId := 47
abbrev FN.disk_Disk_Safe : FuncId := 48
abbrev FN.wal_Log_Lasting : FuncId := 49
abbrev FN.countermandlaw04_same : FuncId := 50
abbrev FN.countermandlaw04_start : FuncId := 51
abbrev FN.countermandlaw04_both_does : FuncId := 52
abbrev FN.wal_Log_Size : FuncId := 53
abbrev FN.wal_Log_Torn : FuncId := 54
abbrev FN.wal_Log_Area : FuncId := 55
abbrev FN.countermandref04_Log_Text : FuncId := 56
abbrev FN.countermandref02_All : FuncId := 57
abbrev FN.countermandref03_Disk_Text : FuncId := 58
abbrev FN.countermandref04_Log_Whole : FuncId := 59
abbrev FN.wafer_Whole : FuncId := 89
abbrev FN.wafer_Close : FuncId := 90
abbrev FN.wal_Log_All_1 : FuncId := 91
abbrev FN.wafer_All : FuncId := 92
abbrev FN.disk_good : FuncId := 93
abbrev FN.disk_Disk_land : FuncId := 94
abbrev FN.disk_Disk_Reset : FuncId := 95
abbrev FN.countermandref04_Open : FuncId := 96
abbrev FN.countermandref04_Log_Append : FuncId := 97
abbrev FN.countermandref04_Log_Clear : FuncId := 98
abbrev FN.countermandref03_Disk_Crash : FuncId := 99
abbrev FN.countermandref03_Disk_Append : FuncId := 100
abbrev FN.countermandref02_Open : FuncId := 101
abbrev FN.countermandref02_Row : FuncId := 102
abbrev FN.wafer_foots : FuncId := 132
abbrev FN.wafer_Sum : FuncId := 133
abbrev FN.wafer_All_1 : FuncId := 134
abbrev FN.wafer_Open : FuncId := 135
abbrev FN.countermandref02_Close : FuncId := 136
abbrev FN.countermandref03_Disk_Reset : FuncId := 137
abbrev FN.countermandref02_Sum : FuncId := 159
theorem TG.countermandlaw04_WalStops : Goes PG FN.countermandlaw04_WalStops := TF.goes_4
theorem TG.countermandlaw04_WalOther : Goes PG FN.countermandlaw04_WalOther := TF.goes_5
theorem TG.countermandlaw04_WalLasts : Goes PG FN.countermandlaw04_WalLasts := TF.goes_6
theorem TG.countermandlaw04_WalClears : Goes PG FN.countermandlaw04_WalClears := TF.goes_7
theorem TG.countermandlaw04_WalDoes : Goes PG FN.countermandlaw04_WalDoes := TF.goes_8
theorem TG.countermandlaw04_alive : Goes PG FN.countermandlaw04_alive := TF.goes_34
theorem TG.countermandlaw04_heavy : Goes PG FN.countermandlaw04_heavy := TF.goes_35
theorem TG.wal_Open : Goes PG FN.wal_Open := TF.goes_36
theorem TG.disk_New : Goes PG FN.disk_New := TF.goes_37
theorem TG.wal_Log_Append : Goes PG FN.wal_Log_Append := TF.goes_38
theorem TG.countermandlaw04_loads : Goes PG FN.countermandlaw04_loads := TF.goes_39
theorem TG.wal_Log_All : Goes PG FN.wal_Log_All := TF.goes_40
theorem TG.countermandlaw04_great : Goes PG FN.countermandlaw04_great := TF.goes_41
theorem TG.disk_Disk_Append : Goes PG FN.disk_Disk_Append := TF.goes_42
theorem TG.disk_Disk_Sync : Goes PG FN.disk_Disk_Sync := TF.goes_43
theorem TG.wal_Log_Force : Goes PG FN.wal_Log_Force := TF.goes_44
theorem TG.wal_Log_Clear : Goes PG FN.wal_Log_Clear := TF.goes_45
theorem TG.disk_Disk_Crash : Goes PG FN.disk_Disk_Crash := TF.goes_46
theorem TG.disk_Disk_Read : Goes PG FN.disk_Disk_Read := TF.goes_47
theorem TG.disk_Disk_Safe : Goes PG FN.disk_Disk_Safe := TF.goes_48
theorem TG.wal_Log_Lasting : Goes PG FN.wal_Log_Lasting := TF.goes_49
theorem TG.countermandlaw04_same : Goes PG FN.countermandlaw04_same := TF.goes_50
theorem TG.countermandlaw04_start : Goes PG FN.countermandlaw04_start := TF.goes_51
theorem TG.countermandlaw04_both_does : Goes PG FN.countermandlaw04_both_does := TF.goes_52
theorem TG.wal_Log_Size : Goes PG FN.wal_Log_Size := TF.goes_53
theorem TG.wal_Log_Torn : Goes PG FN.wal_Log_Torn := TF.goes_54
theorem TG.wal_Log_Area : Goes PG FN.wal_Log_Area := TF.goes_55
theorem TG.countermandref04_Log_Text : Goes PG FN.countermandref04_Log_Text := TF.goes_56
theorem TG.countermandref02_All : Goes PG FN.countermandref02_All := TF.goes_57
theorem TG.countermandref03_Disk_Text : Goes PG FN.countermandref03_Disk_Text := TF.goes_58
theorem TG.countermandref04_Log_Whole : Goes PG FN.countermandref04_Log_Whole := TF.goes_59
theorem TG.wafer_Whole : Goes PG FN.wafer_Whole := TF.goes_89
theorem TG.wafer_Close : Goes PG FN.wafer_Close := TF.goes_90
theorem TG.wal_Log_All_1 : Goes PG FN.wal_Log_All_1 := TF.goes_91
theorem TG.wafer_All : Goes PG FN.wafer_All := TF.goes_92
theorem TG.disk_good : Goes PG FN.disk_good := TF.goes_93
theorem TG.disk_Disk_land : Goes PG FN.disk_Disk_land := TF.goes_94
theorem TG.disk_Disk_Reset : Goes PG FN.disk_Disk_Reset := TF.goes_95
theorem TG.countermandref04_Open : Goes PG FN.countermandref04_Open := TF.goes_96
theorem TG.countermandref04_Log_Append : Goes PG FN.countermandref04_Log_Append := TF.goes_97
theorem TG.countermandref04_Log_Clear : Goes PG FN.countermandref04_Log_Clear := TF.goes_98
theorem TG.countermandref03_Disk_Crash : Goes PG FN.countermandref03_Disk_Crash := TF.goes_99
theorem TG.countermandref03_Disk_Append : Goes PG FN.countermandref03_Disk_Append := TF.goes_100
theorem TG.countermandref02_Open : Goes PG FN.countermandref02_Open := TF.goes_101
theorem TG.countermandref02_Row : Goes PG FN.countermandref02_Row := TF.goes_102
theorem TG.wafer_foots : Goes PG FN.wafer_foots := TF.goes_132
theorem TG.wafer_Sum : Goes PG FN.wafer_Sum := TF.goes_133
theorem TG.wafer_All_1 : Goes PG FN.wafer_All_1 := TF.goes_134
theorem TG.wafer_Open : Goes PG FN.wafer_Open := TF.goes_135
theorem TG.countermandref02_Close : Goes PG FN.countermandref02_Close := TF.goes_136
theorem TG.countermandref03_Disk_Reset : Goes PG FN.countermandref03_Disk_Reset := TF.goes_137
theorem TG.countermandref02_Sum : Goes PG FN.countermandref02_Sum := TF.goes_159
def C_countermandlaw04_WalStops (B : RO) (a1 : Option Addr) (n2 : Nat) (c3 : Nat) (i4 : Int) (h : Heap) (Q : Bool → Heap → Prop) : Prop :=
  Spec PG B 4 #[(Value.slice a1 n2 c3), (Value.int .i64 (i4))] h (fun v h' => ∃ b5 : Bool, v = (Value.bool b5) ∧ Q b5 h')
def C_countermandlaw04_WalOther (B : RO) (a1 : Option Addr) (n2 : Nat) (c3 : Nat) (s4 : ByteArray) (h : Heap) (Q : Bool → Heap → Prop) : Prop :=
  Spec PG B 5 #[(Value.slice a1 n2 c3), (Value.string s4)] h (fun v h' => ∃ b5 : Bool, v = (Value.bool b5) ∧ Q b5 h')
def C_countermandlaw04_WalLasts (B : RO) (a1 : Option Addr) (n2 : Nat) (c3 : Nat) (i4 : Int) (i5 : Int) (i6 : Int) (h : Heap) (Q : Bool → Heap → Prop) : Prop :=
  Spec PG B 6 #[(Value.slice a1 n2 c3), (Value.int .i64 (i4)), (Value.int .i64 (i5)), (Value.int .i64 (i6))] h (fun v h' => ∃ b7 : Bool, v = (Value.bool b7) ∧ Q b7 h')
def C_countermandlaw04_WalClears (B : RO) (a1 : Option Addr) (n2 : Nat) (c3 : Nat) (s4 : ByteArray) (h : Heap) (Q : Bool → Heap → Prop) : Prop :=
  Spec PG B 7 #[(Value.slice a1 n2 c3), (Value.string s4)] h (fun v h' => ∃ b5 : Bool, v = (Value.bool b5) ∧ Q b5 h')
def C_countermandlaw04_WalDoes (B : RO) (i1 : Int) (a2 : Option Addr) (n3 : Nat) (c4 : Nat) (h : Heap) (Q : Bool → Heap → Prop) : Prop :=
  Spec PG B 8 #[(Value.int .i64 (i1)), (Value.slice a2 n3 c4)] h (fun v h' => ∃ b5 : Bool, v = (Value.bool b5) ∧ Q b5 h')
def C_countermandlaw04_alive (B : RO) (h : Heap) (Q : Bool → Heap → Prop) : Prop :=
  Spec PG B 34 #[] h (fun v h' => ∃ b1 : Bool, v = (Value.bool b1) ∧ Q b1 h')
def C_countermandlaw04_heavy (B : RO) (a1 : Option Addr) (n2 : Nat) (c3 : Nat) (h : Heap) (Q : Bool → Heap → Prop) : Prop :=
  Spec PG B 35 #[(Value.slice a1 n2 c3)] h (fun v h' => ∃ b4 : Bool, v = (Value.bool b4) ∧ Q b4 h')
def C_wal_Open (B : RO) (p1 : Option Addr) (i2 : Int) (h : Heap) (Q : Option Addr → Int → Heap → Prop) : Prop :=
  Spec PG B 36 #[(Value.pointer p1), (Value.int .i64 (i2))] h (fun v h' => ∃ p3 : Option Addr, ∃ i4 : Int, v = Value.tuple #[(Value.pointer p3), (Value.int .i64 (i4))] ∧ Q p3 i4 h')
def C_disk_New (B : RO) (h : Heap) (Q : Option Addr → Heap → Prop) : Prop :=
  Spec PG B 37 #[] h (fun v h' => ∃ p1 : Option Addr, v = (Value.pointer p1) ∧ Q p1 h')
def C_wal_Log_Append (B : RO) (p1 : Option Addr) (s2 : ByteArray) (h : Heap) (Q : Int → Heap → Prop) : Prop :=
  Spec PG B 38 #[(Value.pointer p1), (Value.string s2)] h (fun v h' => ∃ i3 : Int, v = (Value.int .i64 (i3)) ∧ Q i3 h')
def C_countermandlaw04_loads (B : RO) (p1 : Option Addr) (h : Heap) (Q : Option Addr → Nat → Nat → Heap → Prop) : Prop :=
  Spec PG B 39 #[(Value.pointer p1)] h (fun v h' => ∃ a2 : Option Addr, ∃ n3 : Nat, ∃ c4 : Nat, v = (Value.slice a2 n3 c4) ∧ Q a2 n3 c4 h')
def C_wal_Log_All (B : RO) (p1 : Option Addr) (h : Heap) (Q : Value → Heap → Prop) : Prop :=
  Spec PG B 40 #[(Value.pointer p1)] h (fun v h' => ∃ v2 : Value, v = v2 ∧ Q v2 h')
def C_countermandlaw04_great (B : RO) (a1 : Option Addr) (n2 : Nat) (c3 : Nat) (h : Heap) (Q : Bool → Heap → Prop) : Prop :=
  Spec PG B 41 #[(Value.slice a1 n2 c3)] h (fun v h' => ∃ b4 : Bool, v = (Value.bool b4) ∧ Q b4 h')
def C_disk_Disk_Append (B : RO) (p1 : Option Addr) (i2 : Int) (s3 : ByteArray) (h : Heap) (Q : Int → Heap → Prop) : Prop :=
  Spec PG B 42 #[(Value.pointer p1), (Value.int .i64 (i2)), (Value.string s3)] h (fun v h' => ∃ i4 : Int, v = (Value.int .i64 (i4)) ∧ Q i4 h')
def C_disk_Disk_Sync (B : RO) (p1 : Option Addr) (h : Heap) (Q : Heap → Prop) : Prop :=
  Spec PG B 43 #[(Value.pointer p1)] h (fun v h' => v = Value.tuple #[] ∧ Q  h')
def C_wal_Log_Force (B : RO) (p1 : Option Addr) (h : Heap) (Q : Heap → Prop) : Prop :=
  Spec PG B 44 #[(Value.pointer p1)] h (fun v h' => v = Value.tuple #[] ∧ Q  h')
def C_wal_Log_Clear (B : RO) (p1 : Option Addr) (h : Heap) (Q : Heap → Prop) : Prop :=
  Spec PG B 45 #[(Value.pointer p1)] h (fun v h' => v = Value.tuple #[] ∧ Q  h')
def C_disk_Disk_Crash (B : RO) (p1 : Option Addr) (i2 : Int) (i3 : Int) (h : Heap) (Q : Heap → Prop) : Prop :=
  Spec PG B 46 #[(Value.pointer p1), (Value.int .i64 (i2)), (Value.int .i64 (i3))] h (fun v h' => v = Value.tuple #[] ∧ Q  h')
def C_disk_Disk_Read (B : RO) (p1 : Option Addr) (i2 : Int) (h : Heap) (Q : ByteArray → Heap → Prop) : Prop :=
  Spec PG B 47 #[(Value.pointer p1), (Value.int .i64 (i2))] h (fun v h' => ∃ s3 : ByteArray, v = (Value.string s3) ∧ Q s3 h')
def C_disk_Disk_Safe (B : RO) (p1 : Option Addr) (i2 : Int) (h : Heap) (Q : ByteArray → Heap → Prop) : Prop :=
  Spec PG B 48 #[(Value.pointer p1), (Value.int .i64 (i2))] h (fun v h' => ∃ s3 : ByteArray, v = (Value.string s3) ∧ Q s3 h')
def C_wal_Log_Lasting (B : RO) (p1 : Option Addr) (h : Heap) (Q : Int → Heap → Prop) : Prop :=
  Spec PG B 49 #[(Value.pointer p1)] h (fun v h' => ∃ i2 : Int, v = (Value.int .i64 (i2)) ∧ Q i2 h')
def C_countermandlaw04_same (B : RO) (a1 : Option Addr) (n2 : Nat) (c3 : Nat) (a4 : Option Addr) (n5 : Nat) (c6 : Nat) (h : Heap) (Q : Bool → Heap → Prop) : Prop :=
  Spec PG B 50 #[(Value.slice a1 n2 c3), (Value.slice a4 n5 c6)] h (fun v h' => ∃ b7 : Bool, v = (Value.bool b7) ∧ Q b7 h')
def C_countermandlaw04_start (B : RO) (i1 : Int) (h : Heap) (Q : Option Addr → Heap → Prop) : Prop :=
  Spec PG B 51 #[(Value.int .i64 (i1))] h (fun v h' => ∃ p2 : Option Addr, v = (Value.pointer p2) ∧ Q p2 h')
def C_countermandlaw04_both_does (B : RO) (p1 : Option Addr) (i2 : Int) (s3 : ByteArray) (i4 : Int) (i5 : Int) (h : Heap) (Q : Bool → Heap → Prop) : Prop :=
  Spec PG B 52 #[(Value.pointer p1), (Value.agg #[(Value.int .i64 (i2)), (Value.string s3), (Value.int .i64 (i4)), (Value.int .i64 (i5))])] h (fun v h' => ∃ b6 : Bool, v = (Value.bool b6) ∧ Q b6 h')
def C_wal_Log_Size (B : RO) (p1 : Option Addr) (h : Heap) (Q : Int → Heap → Prop) : Prop :=
  Spec PG B 53 #[(Value.pointer p1)] h (fun v h' => ∃ i2 : Int, v = (Value.int .i64 (i2)) ∧ Q i2 h')
def C_wal_Log_Torn (B : RO) (p1 : Option Addr) (h : Heap) (Q : Bool → Heap → Prop) : Prop :=
  Spec PG B 54 #[(Value.pointer p1)] h (fun v h' => ∃ b2 : Bool, v = (Value.bool b2) ∧ Q b2 h')
def C_wal_Log_Area (B : RO) (p1 : Option Addr) (h : Heap) (Q : Int → Heap → Prop) : Prop :=
  Spec PG B 55 #[(Value.pointer p1)] h (fun v h' => ∃ i2 : Int, v = (Value.int .i64 (i2)) ∧ Q i2 h')
def C_countermandref04_Log_Text (B : RO) (p1 : Option Addr) (h : Heap) (Q : ByteArray → Heap → Prop) : Prop :=
  Spec PG B 56 #[(Value.pointer p1)] h (fun v h' => ∃ s2 : ByteArray, v = (Value.string s2) ∧ Q s2 h')
def C_countermandref02_All (B : RO) (s1 : ByteArray) (h : Heap) (Q : Option Addr → Nat → Nat → Heap → Prop) : Prop :=
  Spec PG B 57 #[(Value.string s1)] h (fun v h' => ∃ a2 : Option Addr, ∃ n3 : Nat, ∃ c4 : Nat, v = (Value.slice a2 n3 c4) ∧ Q a2 n3 c4 h')
def C_countermandref03_Disk_Text (B : RO) (p1 : Option Addr) (i2 : Int) (i3 : Int) (h : Heap) (Q : ByteArray → Heap → Prop) : Prop :=
  Spec PG B 58 #[(Value.pointer p1), (Value.int .i64 (i2)), (Value.int .i64 (i3))] h (fun v h' => ∃ s4 : ByteArray, v = (Value.string s4) ∧ Q s4 h')
def C_countermandref04_Log_Whole (B : RO) (p1 : Option Addr) (h : Heap) (Q : Int → Heap → Prop) : Prop :=
  Spec PG B 59 #[(Value.pointer p1)] h (fun v h' => ∃ i2 : Int, v = (Value.int .i64 (i2)) ∧ Q i2 h')
def C_wafer_Whole (B : RO) (s1 : ByteArray) (h : Heap) (Q : Int → Heap → Prop) : Prop :=
  Spec PG B 89 #[(Value.string s1)] h (fun v h' => ∃ i2 : Int, v = (Value.int .i64 (i2)) ∧ Q i2 h')
def C_wafer_Close (B : RO) (s1 : ByteArray) (h : Heap) (Q : ByteArray → Heap → Prop) : Prop :=
  Spec PG B 90 #[(Value.string s1)] h (fun v h' => ∃ s2 : ByteArray, v = (Value.string s2) ∧ Q s2 h')
def C_wal_Log_All_1 (B : RO) (v1 : Value) (A2 : Addr) (h : Heap) (Q : Heap → Prop) : Prop :=
  Spec PG B 91 #[v1, (Value.pointer (some A2))] h (fun v h' => v = Value.tuple #[] ∧ Q  h')
def C_wafer_All (B : RO) (s1 : ByteArray) (h : Heap) (Q : Value → Heap → Prop) : Prop :=
  Spec PG B 92 #[(Value.string s1)] h (fun v h' => ∃ v2 : Value, v = v2 ∧ Q v2 h')
def C_disk_good (B : RO) (i1 : Int) (h : Heap) (Q : Bool → Heap → Prop) : Prop :=
  Spec PG B 93 #[(Value.int .i64 (i1))] h (fun v h' => ∃ b2 : Bool, v = (Value.bool b2) ∧ Q b2 h')
def C_disk_Disk_land (B : RO) (p1 : Option Addr) (i2 : Int) (b3 : Bool) (s4 : ByteArray) (h : Heap) (Q : Heap → Prop) : Prop :=
  Spec PG B 94 #[(Value.pointer p1), (Value.agg #[(Value.int .i64 (i2)), (Value.bool b3), (Value.string s4)])] h (fun v h' => v = Value.tuple #[] ∧ Q  h')
def C_disk_Disk_Reset (B : RO) (p1 : Option Addr) (i2 : Int) (h : Heap) (Q : Int → Heap → Prop) : Prop :=
  Spec PG B 95 #[(Value.pointer p1), (Value.int .i64 (i2))] h (fun v h' => ∃ i3 : Int, v = (Value.int .i64 (i3)) ∧ Q i3 h')
def C_countermandref04_Open (B : RO) (p1 : Option Addr) (i2 : Int) (h : Heap) (Q : Option Addr → Heap → Prop) : Prop :=
  Spec PG B 96 #[(Value.pointer p1), (Value.int .i64 (i2))] h (fun v h' => ∃ p3 : Option Addr, v = (Value.pointer p3) ∧ Q p3 h')
def C_countermandref04_Log_Append (B : RO) (p1 : Option Addr) (s2 : ByteArray) (h : Heap) (Q : Int → Heap → Prop) : Prop :=
  Spec PG B 97 #[(Value.pointer p1), (Value.string s2)] h (fun v h' => ∃ i3 : Int, v = (Value.int .i64 (i3)) ∧ Q i3 h')
def C_countermandref04_Log_Clear (B : RO) (p1 : Option Addr) (h : Heap) (Q : Heap → Prop) : Prop :=
  Spec PG B 98 #[(Value.pointer p1)] h (fun v h' => v = Value.tuple #[] ∧ Q  h')
def C_countermandref03_Disk_Crash (B : RO) (p1 : Option Addr) (i2 : Int) (i3 : Int) (h : Heap) (Q : Heap → Prop) : Prop :=
  Spec PG B 99 #[(Value.pointer p1), (Value.int .i64 (i2)), (Value.int .i64 (i3))] h (fun v h' => v = Value.tuple #[] ∧ Q  h')
def C_countermandref03_Disk_Append (B : RO) (p1 : Option Addr) (i2 : Int) (s3 : ByteArray) (h : Heap) (Q : Int → Heap → Prop) : Prop :=
  Spec PG B 100 #[(Value.pointer p1), (Value.int .i64 (i2)), (Value.string s3)] h (fun v h' => ∃ i4 : Int, v = (Value.int .i64 (i4)) ∧ Q i4 h')
def C_countermandref02_Open (B : RO) (s1 : ByteArray) (h : Heap) (Q : ByteArray → Int → Heap → Prop) : Prop :=
  Spec PG B 101 #[(Value.string s1)] h (fun v h' => ∃ s2 : ByteArray, ∃ i3 : Int, v = Value.tuple #[(Value.string s2), (Value.int .i64 (i3))] ∧ Q s2 i3 h')
def C_countermandref02_Row (B : RO) (a1 : Option Addr) (n2 : Nat) (c3 : Nat) (h : Heap) (Q : ByteArray → Heap → Prop) : Prop :=
  Spec PG B 102 #[(Value.slice a1 n2 c3)] h (fun v h' => ∃ s4 : ByteArray, v = (Value.string s4) ∧ Q s4 h')
def C_wafer_foots (B : RO) (i1 : Int) (h : Heap) (Q : ByteArray → Heap → Prop) : Prop :=
  Spec PG B 132 #[(Value.int .u32 (i1))] h (fun v h' => ∃ s2 : ByteArray, v = (Value.string s2) ∧ Q s2 h')
def C_wafer_Sum (B : RO) (s1 : ByteArray) (h : Heap) (Q : Int → Heap → Prop) : Prop :=
  Spec PG B 133 #[(Value.string s1)] h (fun v h' => ∃ i2 : Int, v = (Value.int .u32 (i2)) ∧ Q i2 h')
def C_wafer_All_1 (B : RO) (v1 : Value) (A2 : Addr) (h : Heap) (Q : Heap → Prop) : Prop :=
  Spec PG B 134 #[v1, (Value.pointer (some A2))] h (fun v h' => v = Value.tuple #[] ∧ Q  h')
def C_wafer_Open (B : RO) (s1 : ByteArray) (h : Heap) (Q : ByteArray → Int → Heap → Prop) : Prop :=
  Spec PG B 135 #[(Value.string s1)] h (fun v h' => ∃ s2 : ByteArray, ∃ i3 : Int, v = Value.tuple #[(Value.string s2), (Value.int .i64 (i3))] ∧ Q s2 i3 h')
def C_countermandref02_Close (B : RO) (s1 : ByteArray) (h : Heap) (Q : ByteArray → Heap → Prop) : Prop :=
  Spec PG B 136 #[(Value.string s1)] h (fun v h' => ∃ s2 : ByteArray, v = (Value.string s2) ∧ Q s2 h')
def C_countermandref03_Disk_Reset (B : RO) (p1 : Option Addr) (i2 : Int) (h : Heap) (Q : Int → Heap → Prop) : Prop :=
  Spec PG B 137 #[(Value.pointer p1), (Value.int .i64 (i2))] h (fun v h' => ∃ i3 : Int, v = (Value.int .i64 (i3)) ∧ Q i3 h')
def C_countermandref02_Sum (B : RO) (s1 : ByteArray) (h : Heap) (Q : Int → Heap → Prop) : Prop :=
  Spec PG B 159 #[(Value.string s1)] h (fun v h' => ∃ i2 : Int, v = (Value.int .u32 (i2)) ∧ Q i2 h')
end Go.Proofs.Ythloobpjkeodgaa.H
