/- Calls and facts. No condition. -/
import Derived.Test.YtcncdfmnpmmikaaHs
import Derived.Test.YtcncdfmnpmmikaaProg
import Derived.KernelRfl
namespace Go.Proofs.Ytcncdfmnpmmikaa.H
open Go
set_option linter.unusedVariables false
set_option maxRecDepth 100000

noncomputable abbrev PG : Program := Go.Proofs.Try.prog
abbrev TY.int64 : TypeId := 2
abbrev TY.int : TypeId := 3
abbrev TY.bool : TypeId := 4
abbrev TY.uint8 : TypeId := 5
abbrev TY.abi_BoundsErrorCode : TypeId := 6
abbrev TY.runtime_boundsError : TypeId := 8
abbrev TY.string : TypeId := 9
abbrev TY.runtime_errorString : TypeId := 10
abbrev TY.runtime_plainError : TypeId := 11
abbrev TY.uintptr : TypeId := 12
abbrev TY.runtime_errorAddressString : TypeId := 14
abbrev TY.p_runtime_TypeAssertionError : TypeId := 15
abbrev TY.p_runtime_PanicNilError : TypeId := 16
abbrev TY.p_abi_Type : TypeId := 17
abbrev TY.maps_unhashableTypeError : TypeId := 19
abbrev TY.int32 : TypeId := 21
abbrev TY.a_4_int : TypeId := 22
abbrev TY.api_Regs : TypeId := 23
abbrev TY.p_tome_Tome : TypeId := 25
abbrev TY.p_draft_Draft_int : TypeId := 27
abbrev TY.p_sheet_Sheet : TypeId := 28
abbrev TY.p_cursor_Cursor : TypeId := 29
abbrev TY.mark_State : TypeId := 31
abbrev TY.file_File : TypeId := 41
abbrev TY.s_string : TypeId := 45
abbrev TY.p_disk_Disk : TypeId := 47
abbrev TY.p_vault_Vault : TypeId := 49
abbrev TY.vault_Found : TypeId := 51
abbrev TY.api_Errno : TypeId := 52
abbrev TY.uint : TypeId := 57
abbrev TY.a_6_file_File : TypeId := 71
abbrev TY.p_countermandref14_Sheet : TypeId := 72
abbrev TY.countermandref09_File : TypeId := 76
abbrev TY.a_6_countermandref09_File : TypeId := 77
abbrev TY.s_countermandlaw14_Call : TypeId := 79
abbrev TY.countermandlaw14_Call : TypeId := 81
abbrev TY.a_6_bool : TypeId := 84
abbrev TY.countermandref14_Sheet : TypeId := 86
abbrev TY.iter_Seq2_int_file_File : TypeId := 94
abbrev TY.p_draft_Draft_file_File : TypeId := 95
abbrev TY.p_mark_Stack : TypeId := 100
abbrev TY.s_mark_Mark : TypeId := 101
abbrev TY.mark_Stack : TypeId := 103
abbrev TY.acts_Mark : TypeId := 105
abbrev TY.mark_Mark : TypeId := 107
abbrev TY.p_cell_Row_file_File : TypeId := 110
abbrev TY.tome_Tome : TypeId := 113
abbrev TY.s_draft_entry_int : TypeId := 114
abbrev TY.draft_Draft_int : TypeId := 116
abbrev TY.a_3_int : TypeId := 117
abbrev TY.cursor_Cursor : TypeId := 119
abbrev TY.draft_entry_int : TypeId := 121
abbrev TY.sheet_Sheet : TypeId := 128
abbrev TY.disk_area : TypeId := 131
abbrev TY.a_2_disk_area : TypeId := 132
abbrev TY.s_disk_change : TypeId := 133
abbrev TY.disk_Disk : TypeId := 135
abbrev TY.p_wal_Log : TypeId := 136
abbrev TY.vault_Vault : TypeId := 138
abbrev TY.p_stylus_Stylus : TypeId := 143
abbrev TY.s_uint8 : TypeId := 144
abbrev TY.stylus_Stylus : TypeId := 146
abbrev TY.disk_change : TypeId := 151
abbrev TY.s_draft_entry_file_File : TypeId := 158
abbrev TY.draft_Draft_file_File : TypeId := 160
abbrev TY.draft_entry_file_File : TypeId := 162
abbrev TY.s_cell_slot_file_File : TypeId := 166
abbrev TY.cell_Row_file_File : TypeId := 168
abbrev TY.cell_slot_file_File : TypeId := 170
abbrev TY.wal_Log : TypeId := 178
abbrev TY.iter_Seq_string : TypeId := 180
abbrev TY.s_int : TypeId := 184
abbrev TY.uint32 : TypeId := 185
abbrev TY.uint64 : TypeId := 188
abbrev TY.p_stylus_Reader : TypeId := 202
abbrev TY.p_strings_Builder : TypeId := 210
abbrev TY.strings_Builder : TypeId := 212
abbrev TY.error : TypeId := 215
abbrev TY.stylus_Reader : TypeId := 222
abbrev TY.p_uint8 : TypeId := 228
abbrev TY.runtime_TypeAssertionError : TypeId := 234
abbrev TY.a_0_p_runtime_PanicNilError : TypeId := 235
abbrev TY.runtime_PanicNilError : TypeId := 237
abbrev TY.abi_TFlag : TypeId := 238
abbrev TY.abi_Kind : TypeId := 239
abbrev TY.abi_NameOff : TypeId := 241
abbrev TY.abi_TypeOff : TypeId := 242
abbrev TY.abi_Type : TypeId := 244
abbrev TY.iter_Seq2_int_int : TypeId := 247
theorem TF.agg_110 : aggB PG 110 = some false := by kernel_rfl
theorem TF.agg_143 : aggB PG 143 = some false := by kernel_rfl
theorem TF.agg_144 : aggB PG 144 = some false := by kernel_rfl
theorem TF.agg_157 : aggB PG 157 = some false := by kernel_rfl
theorem TF.agg_158 : aggB PG 158 = some false := by kernel_rfl
theorem TF.agg_162 : aggB PG 162 = some true := by kernel_rfl
theorem TF.agg_166 : aggB PG 166 = some false := by kernel_rfl
theorem TF.agg_170 : aggB PG 170 = some true := by kernel_rfl
theorem TF.agg_25 : aggB PG 25 = some false := by kernel_rfl
theorem TF.agg_3 : aggB PG 3 = some false := by kernel_rfl
theorem TF.agg_4 : aggB PG 4 = some false := by kernel_rfl
theorem TF.agg_41 : aggB PG 41 = some true := by kernel_rfl
theorem TF.agg_5 : aggB PG 5 = some false := by kernel_rfl
theorem TF.agg_71 : aggB PG 71 = some true := by kernel_rfl
theorem TF.agg_72 : aggB PG 72 = some false := by kernel_rfl
theorem TF.agg_76 : aggB PG 76 = some true := by kernel_rfl
theorem TF.agg_81 : aggB PG 81 = some true := by kernel_rfl
theorem TF.agg_86 : aggB PG 86 = some true := by kernel_rfl
theorem TF.agg_9 : aggB PG 9 = some false := by kernel_rfl
theorem TF.agg_95 : aggB PG 95 = some false := by kernel_rfl
theorem TF.arr_71 : arrB PG 71 = some (6, 41, 2, true) := by kernel_rfl
theorem TF.arr_77 : arrB PG 77 = some (6, 76, 2, true) := by kernel_rfl
theorem TF.arr_84 : arrB PG 84 = some (6, 4, 1, false) := by kernel_rfl
theorem TF.bool_4 : boolT PG 4 = true := by kernel_rfl
theorem TF.eqg_41 : eqGB PG 41 = false := by kernel_rfl
theorem TF.eqg_76 : eqGB PG 76 = false := by kernel_rfl
theorem TF.flat_41 : flat6B PG 41 = some [.bool, .str] := by kernel_rfl
theorem TF.flat_76 : flat6B PG 76 = some [.bool, .str] := by kernel_rfl
theorem TF.fld_113_0 : fldB PG 113 0 = some 0 := by kernel_rfl
theorem TF.fld_128_0 : fldB PG 128 0 = some 0 := by kernel_rfl
theorem TF.fld_146_0 : fldB PG 146 0 = some 0 := by kernel_rfl
theorem TF.fld_160_0 : fldB PG 160 0 = some 0 := by kernel_rfl
theorem TF.fld_162_0 : fldB PG 162 0 = some 0 := by kernel_rfl
theorem TF.fld_162_1 : fldB PG 162 1 = some 1 := by kernel_rfl
theorem TF.fld_168_0 : fldB PG 168 0 = some 0 := by kernel_rfl
theorem TF.fld_170_0 : fldB PG 170 0 = some 0 := by kernel_rfl
theorem TF.fld_170_1 : fldB PG 170 1 = some 2 := by kernel_rfl
theorem TF.fld_41_0 : fldB PG 41 0 = some 0 := by kernel_rfl
theorem TF.fld_41_1 : fldB PG 41 1 = some 1 := by kernel_rfl
theorem TF.fld_76_0 : fldB PG 76 0 = some 0 := by kernel_rfl
theorem TF.fld_76_1 : fldB PG 76 1 = some 1 := by kernel_rfl
theorem TF.fld_81_0 : fldB PG 81 0 = some 0 := by kernel_rfl
theorem TF.fld_81_1 : fldB PG 81 1 = some 1 := by kernel_rfl
theorem TF.fld_81_2 : fldB PG 81 2 = some 2 := by kernel_rfl
theorem TF.fld_81_3 : fldB PG 81 3 = some 3 := by kernel_rfl
theorem TF.fld_86_0 : fldB PG 86 0 = some 0 := by kernel_rfl
theorem TF.fld_86_1 : fldB PG 86 1 = some 12 := by kernel_rfl
theorem TF.fld_86_2 : fldB PG 86 2 = some 24 := by kernel_rfl
theorem TF.goes_10 : Goes PG 10 := ⟨Try.f10, Try.func10, by kernel_rfl, by kernel_rfl⟩
theorem TF.goes_104 : Goes PG 104 := ⟨Try.f104, Try.func104, by kernel_rfl, by kernel_rfl⟩
theorem TF.goes_105 : Goes PG 105 := ⟨Try.f105, Try.func105, by kernel_rfl, by kernel_rfl⟩
theorem TF.goes_11 : Goes PG 11 := ⟨Try.f11, Try.func11, by kernel_rfl, by kernel_rfl⟩
theorem TF.goes_114 : Goes PG 114 := ⟨Try.f114, Try.func114, by kernel_rfl, by kernel_rfl⟩
theorem TF.goes_115 : Goes PG 115 := ⟨Try.f115, Try.func115, by kernel_rfl, by kernel_rfl⟩
theorem TF.goes_116 : Goes PG 116 := ⟨Try.f116, Try.func116, by kernel_rfl, by kernel_rfl⟩
theorem TF.goes_117 : Goes PG 117 := ⟨Try.f117, Try.func117, by kernel_rfl, by kernel_rfl⟩
theorem TF.goes_118 : Goes PG 118 := ⟨Try.f118, Try.func118, by kernel_rfl, by kernel_rfl⟩
theorem TF.goes_119 : Goes PG 119 := ⟨Try.f119, Try.func119, by kernel_rfl, by kernel_rfl⟩
theorem TF.goes_12 : Goes PG 12 := ⟨Try.f12, Try.func12, by kernel_rfl, by kernel_rfl⟩
theorem TF.goes_120 : Goes PG 120 := ⟨Try.f120, Try.func120, by kernel_rfl, by kernel_rfl⟩
theorem TF.goes_121 : Goes PG 121 := ⟨Try.f121, Try.func121, by kernel_rfl, by kernel_rfl⟩
theorem TF.goes_122 : Goes PG 122 := ⟨Try.f122, Try.func122, by kernel_rfl, by kernel_rfl⟩
theorem TF.goes_123 : Goes PG 123 := ⟨Try.f123, Try.func123, by kernel_rfl, by kernel_rfl⟩
theorem TF.goes_125 : Goes PG 125 := ⟨Try.f125, Try.func125, by kernel_rfl, by kernel_rfl⟩
theorem TF.goes_126 : Goes PG 126 := ⟨Try.f126, Try.func126, by kernel_rfl, by kernel_rfl⟩
theorem TF.goes_127 : Goes PG 127 := ⟨Try.f127, Try.func127, by kernel_rfl, by kernel_rfl⟩
theorem TF.goes_13 : Goes PG 13 := ⟨Try.f13, Try.func13, by kernel_rfl, by kernel_rfl⟩
theorem TF.goes_138 : Goes PG 138 := ⟨Try.f138, Try.func138, by kernel_rfl, by kernel_rfl⟩
theorem TF.goes_139 : Goes PG 139 := ⟨Try.f139, Try.func139, by kernel_rfl, by kernel_rfl⟩
theorem TF.goes_148 : Goes PG 148 := ⟨Try.f148, Try.func148, by kernel_rfl, by kernel_rfl⟩
theorem TF.goes_15 : Goes PG 15 := ⟨Try.f15, Try.func15, by kernel_rfl, by kernel_rfl⟩
theorem TF.goes_158 : Goes PG 158 := ⟨Try.f158, Try.func158, by kernel_rfl, by kernel_rfl⟩
theorem TF.goes_161 : Goes PG 161 := ⟨Try.f161, Try.func161, by kernel_rfl, by kernel_rfl⟩
theorem TF.goes_22 : Goes PG 22 := ⟨Try.f22, Try.func22, by kernel_rfl, by kernel_rfl⟩
theorem TF.goes_23 : Goes PG 23 := ⟨Try.f23, Try.func23, by kernel_rfl, by kernel_rfl⟩
theorem TF.goes_42 : Goes PG 42 := ⟨Try.f42, Try.func42, by kernel_rfl, by kernel_rfl⟩
theorem TF.goes_43 : Goes PG 43 := ⟨Try.f43, Try.func43, by kernel_rfl, by kernel_rfl⟩
theorem TF.goes_44 : Goes PG 44 := ⟨Try.f44, Try.func44, by kernel_rfl, by kernel_rfl⟩
theorem TF.goes_45 : Goes PG 45 := ⟨Try.f45, Try.func45, by kernel_rfl, by kernel_rfl⟩
theorem TF.goes_46 : Goes PG 46 := ⟨Try.f46, Try.func46, by kernel_rfl, by kernel_rfl⟩
theorem TF.goes_47 : Goes PG 47 := ⟨Try.f47, Try.func47, by kernel_rfl, by kernel_rfl⟩
theorem TF.goes_48 : Goes PG 48 := ⟨Try.f48, Try.func48, by kernel_rfl, by kernel_rfl⟩
theorem TF.goes_49 : Goes PG 49 := ⟨Try.f49, Try.func49, by kernel_rfl, by kernel_rfl⟩
theorem TF.goes_50 : Goes PG 50 := ⟨Try.f50, Try.func50, by kernel_rfl, by kernel_rfl⟩
theorem TF.goes_51 : Goes PG 51 := ⟨Try.f51, Try.func51, by kernel_rfl, by kernel_rfl⟩
theorem TF.goes_52 : Goes PG 52 := ⟨Try.f52, Try.func52, by kernel_rfl, by kernel_rfl⟩
theorem TF.goes_53 : Goes PG 53 := ⟨Try.f53, Try.func53, by kernel_rfl, by kernel_rfl⟩
theorem TF.goes_54 : Goes PG 54 := ⟨Try.f54, Try.func54, by kernel_rfl, by kernel_rfl⟩
theorem TF.goes_55 : Goes PG 55 := ⟨Try.f55, Try.func55, by kernel_rfl, by kernel_rfl⟩
theorem TF.goes_56 : Goes PG 56 := ⟨Try.f56, Try.func56, by kernel_rfl, by kernel_rfl⟩
theorem TF.goes_60 : Goes PG 60 := ⟨Try.f60, Try.func60, by kernel_rfl, by kernel_rfl⟩
theorem TF.goes_61 : Goes PG 61 := ⟨Try.f61, Try.func61, by kernel_rfl, by kernel_rfl⟩
theorem TF.goes_67 : Goes PG 67 := ⟨Try.f67, Try.func67, by kernel_rfl, by kernel_rfl⟩
theorem TF.goes_68 : Goes PG 68 := ⟨Try.f68, Try.func68, by kernel_rfl, by kernel_rfl⟩
theorem TF.goes_69 : Goes PG 69 := ⟨Try.f69, Try.func69, by kernel_rfl, by kernel_rfl⟩
theorem TF.goes_72 : Goes PG 72 := ⟨Try.f72, Try.func72, by kernel_rfl, by kernel_rfl⟩
theorem TF.goes_73 : Goes PG 73 := ⟨Try.f73, Try.func73, by kernel_rfl, by kernel_rfl⟩
theorem TF.goes_74 : Goes PG 74 := ⟨Try.f74, Try.func74, by kernel_rfl, by kernel_rfl⟩
theorem TF.goes_85 : Goes PG 85 := ⟨Try.f85, Try.func85, by kernel_rfl, by kernel_rfl⟩
theorem TF.goes_86 : Goes PG 86 := ⟨Try.f86, Try.func86, by kernel_rfl, by kernel_rfl⟩
theorem TF.goes_87 : Goes PG 87 := ⟨Try.f87, Try.func87, by kernel_rfl, by kernel_rfl⟩
theorem TF.goes_88 : Goes PG 88 := ⟨Try.f88, Try.func88, by kernel_rfl, by kernel_rfl⟩
theorem TF.goes_89 : Goes PG 89 := ⟨Try.f89, Try.func89, by kernel_rfl, by kernel_rfl⟩
theorem TF.goes_90 : Goes PG 90 := ⟨Try.f90, Try.func90, by kernel_rfl, by kernel_rfl⟩
theorem TF.goes_91 : Goes PG 91 := ⟨Try.f91, Try.func91, by kernel_rfl, by kernel_rfl⟩
theorem TF.goes_92 : Goes PG 92 := ⟨Try.f92, Try.func92, by kernel_rfl, by kernel_rfl⟩
theorem TF.goes_93 : Goes PG 93 := ⟨Try.f93, Try.func93, by kernel_rfl, by kernel_rfl⟩
theorem TF.goes_94 : Goes PG 94 := ⟨Try.f94, Try.func94, by kernel_rfl, by kernel_rfl⟩
theorem TF.goes_95 : Goes PG 95 := ⟨Try.f95, Try.func95, by kernel_rfl, by kernel_rfl⟩
theorem TF.goes_96 : Goes PG 96 := ⟨Try.f96, Try.func96, by kernel_rfl, by kernel_rfl⟩
theorem TF.goes_97 : Goes PG 97 := ⟨Try.f97, Try.func97, by kernel_rfl, by kernel_rfl⟩
theorem TF.goesx_147 : GoesX PG 147 (Extern.SlicesOverlaps.overlaps #[158, 158] #[4]) := ⟨Try.f147, Try.func147, by kernel_rfl, by kernel_rfl, by kernel_rfl, by kernel_rfl⟩
theorem TF.int_3 : intB PG 3 = some .i64 := by kernel_rfl
theorem TF.int_5 : intB PG 5 = some .u8 := by kernel_rfl
theorem TF.int_57 : intB PG 57 = some .u64 := by kernel_rfl
theorem TF.isStr_9 : isStr PG 9 = true := by kernel_rfl
theorem TF.mixed : PG.follows .mixedOrders = true := by kernel_rfl
theorem TF.places_113 : strPlaces PG 113 = some [(0, 1)] := by kernel_rfl
theorem TF.places_128 : strPlaces PG 128 = some [(0, 1)] := by kernel_rfl
theorem TF.places_146 : strPlaces PG 146 = some [(0, 1)] := by kernel_rfl
theorem TF.places_160 : strPlaces PG 160 = some [(0, 1)] := by kernel_rfl
theorem TF.places_162 : strPlaces PG 162 = some [(0, 1), (1, 2)] := by kernel_rfl
theorem TF.places_168 : strPlaces PG 168 = some [(0, 1)] := by kernel_rfl
theorem TF.places_170 : strPlaces PG 170 = some [(0, 2), (2, 1)] := by kernel_rfl
theorem TF.places_41 : strPlaces PG 41 = some [(0, 1), (1, 1)] := by kernel_rfl
theorem TF.places_76 : strPlaces PG 76 = some [(0, 1), (1, 1)] := by kernel_rfl
theorem TF.places_86 : strPlaces PG 86 = some [(0, 12), (12, 12), (24, 6)] := by kernel_rfl
theorem TF.ptr_110 : ptrB PG 110 = true := by kernel_rfl
theorem TF.ptr_25 : ptrB PG 25 = true := by kernel_rfl
theorem TF.ptr_28 : ptrB PG 28 = true := by kernel_rfl
theorem TF.ptr_95 : ptrB PG 95 = true := by kernel_rfl
theorem TF.sl_144 : slT PG 144 = true := by kernel_rfl
theorem TF.sl_158 : slT PG 158 = true := by kernel_rfl
theorem TF.sl_166 : slT PG 166 = true := by kernel_rfl
theorem TF.sl_184 : slT PG 184 = true := by kernel_rfl
theorem TF.sl_45 : slT PG 45 = true := by kernel_rfl
theorem TF.sl_79 : slT PG 79 = true := by kernel_rfl
theorem TF.slc_144 : slcB PG 144 = some (5, 1, 1) := by kernel_rfl
theorem TF.slc_158 : slcB PG 158 = some (162, 3, 32) := by kernel_rfl
theorem TF.slc_166 : slcB PG 166 = some (170, 3, 32) := by kernel_rfl
theorem TF.slc_184 : slcB PG 184 = some (3, 1, 8) := by kernel_rfl
theorem TF.slc_45 : slcB PG 45 = some (9, 1, 16) := by kernel_rfl
theorem TF.slc_79 : slcB PG 79 = some (81, 4, 32) := by kernel_rfl
theorem TF.sz_143 : szB PG 143 = some 1 := by kernel_rfl
theorem TF.sz_144 : szB PG 144 = some 1 := by kernel_rfl
theorem TF.sz_158 : szB PG 158 = some 1 := by kernel_rfl
theorem TF.sz_162 : szB PG 162 = some 3 := by kernel_rfl
theorem TF.sz_166 : szB PG 166 = some 1 := by kernel_rfl
theorem TF.sz_170 : szB PG 170 = some 3 := by kernel_rfl
theorem TF.sz_3 : szB PG 3 = some 1 := by kernel_rfl
theorem TF.sz_4 : szB PG 4 = some 1 := by kernel_rfl
theorem TF.sz_41 : szB PG 41 = some 2 := by kernel_rfl
theorem TF.sz_5 : szB PG 5 = some 1 := by kernel_rfl
theorem TF.sz_71 : szB PG 71 = some 12 := by kernel_rfl
theorem TF.sz_72 : szB PG 72 = some 1 := by kernel_rfl
theorem TF.sz_76 : szB PG 76 = some 2 := by kernel_rfl
theorem TF.sz_81 : szB PG 81 = some 4 := by kernel_rfl
theorem TF.sz_86 : szB PG 86 = some 30 := by kernel_rfl
theorem TF.zero_113 : zeroB PG 113 = some [(Value.pointer none)] := by kernel_rfl
theorem TF.zero_128 : zeroB PG 128 = some [(Value.pointer none)] := by kernel_rfl
theorem TF.zero_143 : zeroB PG 143 = some [(Value.pointer none)] := by kernel_rfl
theorem TF.zero_146 : zeroB PG 146 = some [(Value.slice none 0 0)] := by kernel_rfl
theorem TF.zero_160 : zeroB PG 160 = some [(Value.slice none 0 0)] := by kernel_rfl
theorem TF.zero_162 : zeroB PG 162 = some [(Value.int .i64 (0)), (Value.bool false), (Value.string ByteArray.empty)] := by kernel_rfl
theorem TF.zero_168 : zeroB PG 168 = some [(Value.slice none 0 0)] := by kernel_rfl
theorem TF.zero_170 : zeroB PG 170 = some [(Value.bool false), (Value.string ByteArray.empty), (Value.int .i64 (0))] := by kernel_rfl
theorem TF.zero_3 : zeroB PG 3 = some [(Value.int .i64 (0))] := by kernel_rfl
theorem TF.zero_4 : zeroB PG 4 = some [(Value.bool false)] := by kernel_rfl
theorem TF.zero_41 : zeroB PG 41 = some [(Value.bool false), (Value.string ByteArray.empty)] := by kernel_rfl
theorem TF.zero_5 : zeroB PG 5 = some [(Value.int .u8 (0))] := by kernel_rfl
theorem TF.zero_72 : zeroB PG 72 = some [(Value.pointer none)] := by kernel_rfl
theorem TF.zero_76 : zeroB PG 76 = some [(Value.bool false), (Value.string ByteArray.empty)] := by kernel_rfl
theorem TF.zero_81 : zeroB PG 81 = some [(Value.int .i64 (0)), (Value.int .i64 (0)), (Value.int .i64 (0)), (Value.int .u8 (0))] := by kernel_rfl
theorem TF.zero_86 : zeroB PG 86 = some [(Value.bool false), (Value.string ByteArray.empty), (Value.bool false), (Value.string ByteArray.empty), (Value.bool false), (Value.string ByteArray.empty), (Value.bool false), (Value.string ByteArray.empty), (Value.bool false), (Value.string ByteArray.empty), (Value.bool false), (Value.string ByteArray.empty), (Value.bool false), (Value.string ByteArray.empty), (Value.bool false), (Value.string ByteArray.empty), (Value.bool false), (Value.string ByteArray.empty), (Value.bool false), (Value.string ByteArray.empty), (Value.bool false), (Value.string ByteArray.empty), (Value.bool false), (Value.string ByteArray.empty), (Value.bool false), (Value.bool false), (Value.bool false), (Value.bool false), (Value.bool false), (Value.bool false)] := by kernel_rfl
theorem TF.zero_9 : zeroB PG 9 = some [(Value.string ByteArray.empty)] := by kernel_rfl
abbrev FN.countermandlaw14_SheetRenames : FuncId := 10
abbrev FN.countermandlaw14_SheetCopies : FuncId := 11
abbrev FN.countermandlaw14_SheetOver : FuncId := 12
abbrev FN.countermandlaw14_SheetDoes : FuncId := 13
abbrev FN.tome_New : FuncId := 15
abbrev FN.sheet_Sheet_Create : FuncId := 22
abbrev FN.sheet_Sheet_Get : FuncId := 23
abbrev FN.countermandlaw14_alive : FuncId := 42
abbrev FN.countermandlaw14_build : FuncId := 43
abbrev FN.countermandref14_Is : FuncId := 44
abbrev FN.sheet_Sheet_Rename : FuncId := 45
abbrev FN.countermandlaw14_does : FuncId := 46
abbrev FN.sheet_Sheet_Copy : FuncId := 47
abbrev FN.sheet_Sheet_Over : FuncId := 48
abbrev FN.tome_Tome_Get : FuncId := 49
abbrev FN.tome_Tome_Bytes : FuncId := 50
abbrev FN.sheet_Sheet_Draft : FuncId := 51
abbrev FN.draft_Draft_file_File_All : FuncId := 52
abbrev FN.draft_Draft_file_File_Len : FuncId := 53
abbrev FN.sheet_Sheet_Write : FuncId := 54
abbrev FN.sheet_Sheet_Cut : FuncId := 55
abbrev FN.sheet_Sheet_Remove : FuncId := 56
abbrev FN.cell_New_file_File : FuncId := 60
abbrev FN.sheet_New : FuncId := 61
abbrev FN.sheet_Sheet_put : FuncId := 67
abbrev FN.file_Make : FuncId := 68
abbrev FN.draft_Draft_file_File_Get : FuncId := 69
abbrev FN.stylus_Stylus_Nat : FuncId := 72
abbrev FN.stylus_Stylus_Raw : FuncId := 73
abbrev FN.stylus_Stylus_Bytes : FuncId := 74
abbrev FN.tome_Tome_Set : FuncId := 85
abbrev FN.countermandref14_Sheet_Write : FuncId := 86
abbrev FN.countermandref14_Sheet_Cut : FuncId := 87
abbrev FN.countermandref14_Sheet_Create : FuncId := 88
abbrev FN.countermandref14_Sheet_Remove : FuncId := 89
abbrev FN.countermandref14_Sheet_Rename : FuncId := 90
abbrev FN.draft_Draft_file_File_Copy : FuncId := 91
abbrev FN.cell_Row_file_File_Get : FuncId := 92
abbrev FN.tome_Tome_All : FuncId := 93
abbrev FN.stylus_Stylus_Text : FuncId := 94
abbrev FN.draft_Draft_file_File_All_1 : FuncId := 95
abbrev FN.file_Put : FuncId := 96
abbrev FN.file_Cut : FuncId := 97
abbrev FN.draft_Draft_file_File_Put : FuncId := 104
abbrev FN.draft_Draft_file_File_find : FuncId := 105
abbrev FN.file_Good : FuncId := 114
abbrev FN.cell_Row_file_File_Set : FuncId := 115
abbrev FN.countermandref14_Sheet_put : FuncId := 116
abbrev FN.countermandref09_Put : FuncId := 117
abbrev FN.countermandref09_Cut : FuncId := 118
abbrev FN.slices_Clone_s_draft_entry_file_File_draft_entry_file_File : FuncId := 119
abbrev FN.cell_Row_file_File_is : FuncId := 120
abbrev FN.tome_Tome_All_1 : FuncId := 121
abbrev FN.cell_Row_file_File_All : FuncId := 122
abbrev FN.strings_Repeat : FuncId := 123
abbrev FN.slices_Insert_s_draft_entry_file_File_draft_entry_file_File : FuncId := 125
abbrev FN.slices_BinarySearchFunc_s_draft_entry_file_File_draft_entry_file_File_int : FuncId := 126
abbrev FN.draft_by_file_File : FuncId := 127
abbrev FN.countermandref09_At : FuncId := 138
abbrev FN.cell_Row_file_File_All_1 : FuncId := 139
abbrev FN.slices_rotateRight_draft_entry_file_File : FuncId := 148
abbrev FN.slices_rotateLeft_draft_entry_file_File : FuncId := 158
abbrev FN.slices_Reverse_s_draft_entry_file_File_draft_entry_file_File : FuncId := 161
theorem TG.countermandlaw14_SheetRenames : Goes PG FN.countermandlaw14_SheetRenames := TF.goes_10
theorem TG.countermandlaw14_SheetCopies : Goes PG FN.countermandlaw14_SheetCopies := TF.goes_11
theorem TG.countermandlaw14_SheetOver : Goes PG FN.countermandlaw14_SheetOver := TF.goes_12
theorem TG.countermandlaw14_SheetDoes : Goes PG FN.countermandlaw14_SheetDoes := TF.goes_13
theorem TG.tome_New : Goes PG FN.tome_New := TF.goes_15
theorem TG.sheet_Sheet_Create : Goes PG FN.sheet_Sheet_Create := TF.goes_22
theorem TG.sheet_Sheet_Get : Goes PG FN.sheet_Sheet_Get := TF.goes_23
theorem TG.countermandlaw14_alive : Goes PG FN.countermandlaw14_alive := TF.goes_42
theorem TG.countermandlaw14_build : Goes PG FN.countermandlaw14_build := TF.goes_43
theorem TG.countermandref14_Is : Goes PG FN.countermandref14_Is := TF.goes_44
theorem TG.sheet_Sheet_Rename : Goes PG FN.sheet_Sheet_Rename := TF.goes_45
theorem TG.countermandlaw14_does : Goes PG FN.countermandlaw14_does := TF.goes_46
theorem TG.sheet_Sheet_Copy : Goes PG FN.sheet_Sheet_Copy := TF.goes_47
theorem TG.sheet_Sheet_Over : Goes PG FN.sheet_Sheet_Over := TF.goes_48
theorem TG.tome_Tome_Get : Goes PG FN.tome_Tome_Get := TF.goes_49
theorem TG.tome_Tome_Bytes : Goes PG FN.tome_Tome_Bytes := TF.goes_50
theorem TG.sheet_Sheet_Draft : Goes PG FN.sheet_Sheet_Draft := TF.goes_51
theorem TG.draft_Draft_file_File_All : Goes PG FN.draft_Draft_file_File_All := TF.goes_52
theorem TG.draft_Draft_file_File_Len : Goes PG FN.draft_Draft_file_File_Len := TF.goes_53
theorem TG.sheet_Sheet_Write : Goes PG FN.sheet_Sheet_Write := TF.goes_54
theorem TG.sheet_Sheet_Cut : Goes PG FN.sheet_Sheet_Cut := TF.goes_55
theorem TG.sheet_Sheet_Remove : Goes PG FN.sheet_Sheet_Remove := TF.goes_56
theorem TG.cell_New_file_File : Goes PG FN.cell_New_file_File := TF.goes_60
theorem TG.sheet_New : Goes PG FN.sheet_New := TF.goes_61
theorem TG.sheet_Sheet_put : Goes PG FN.sheet_Sheet_put := TF.goes_67
theorem TG.file_Make : Goes PG FN.file_Make := TF.goes_68
theorem TG.draft_Draft_file_File_Get : Goes PG FN.draft_Draft_file_File_Get := TF.goes_69
theorem TG.stylus_Stylus_Nat : Goes PG FN.stylus_Stylus_Nat := TF.goes_72
theorem TG.stylus_Stylus_Raw : Goes PG FN.stylus_Stylus_Raw := TF.goes_73
theorem TG.stylus_Stylus_Bytes : Goes PG FN.stylus_Stylus_Bytes := TF.goes_74
theorem TG.tome_Tome_Set : Goes PG FN.tome_Tome_Set := TF.goes_85
theorem TG.countermandref14_Sheet_Write : Goes PG FN.countermandref14_Sheet_Write := TF.goes_86
theorem TG.countermandref14_Sheet_Cut : Goes PG FN.countermandref14_Sheet_Cut := TF.goes_87
theorem TG.countermandref14_Sheet_Create : Goes PG FN.countermandref14_Sheet_Create := TF.goes_88
theorem TG.countermandref14_Sheet_Remove : Goes PG FN.countermandref14_Sheet_Remove := TF.goes_89
theorem TG.countermandref14_Sheet_Rename : Goes PG FN.countermandref14_Sheet_Rename := TF.goes_90
theorem TG.draft_Draft_file_File_Copy : Goes PG FN.draft_Draft_file_File_Copy := TF.goes_91
theorem TG.cell_Row_file_File_Get : Goes PG FN.cell_Row_file_File_Get := TF.goes_92
theorem TG.tome_Tome_All : Goes PG FN.tome_Tome_All := TF.goes_93
theorem TG.stylus_Stylus_Text : Goes PG FN.stylus_Stylus_Text := TF.goes_94
theorem TG.draft_Draft_file_File_All_1 : Goes PG FN.draft_Draft_file_File_All_1 := TF.goes_95
theorem TG.file_Put : Goes PG FN.file_Put := TF.goes_96
theorem TG.file_Cut : Goes PG FN.file_Cut := TF.goes_97
theorem TG.draft_Draft_file_File_Put : Goes PG FN.draft_Draft_file_File_Put := TF.goes_104
theorem TG.draft_Draft_file_File_find : Goes PG FN.draft_Draft_file_File_find := TF.goes_105
theorem TG.file_Good : Goes PG FN.file_Good := TF.goes_114
theorem TG.cell_Row_file_File_Set : Goes PG FN.cell_Row_file_File_Set := TF.goes_115
theorem TG.countermandref14_Sheet_put : Goes PG FN.countermandref14_Sheet_put := TF.goes_116
theorem TG.countermandref09_Put : Goes PG FN.countermandref09_Put := TF.goes_117
theorem TG.countermandref09_Cut : Goes PG FN.countermandref09_Cut := TF.goes_118
theorem TG.slices_Clone_s_draft_entry_file_File_draft_entry_file_File : Goes PG FN.slices_Clone_s_draft_entry_file_File_draft_entry_file_File := TF.goes_119
theorem TG.cell_Row_file_File_is : Goes PG FN.cell_Row_file_File_is := TF.goes_120
theorem TG.tome_Tome_All_1 : Goes PG FN.tome_Tome_All_1 := TF.goes_121
theorem TG.cell_Row_file_File_All : Goes PG FN.cell_Row_file_File_All := TF.goes_122
theorem TG.strings_Repeat : Goes PG FN.strings_Repeat := TF.goes_123
theorem TG.slices_Insert_s_draft_entry_file_File_draft_entry_file_File : Goes PG FN.slices_Insert_s_draft_entry_file_File_draft_entry_file_File := TF.goes_125
theorem TG.slices_BinarySearchFunc_s_draft_entry_file_File_draft_entry_file_File_int : Goes PG FN.slices_BinarySearchFunc_s_draft_entry_file_File_draft_entry_file_File_int := TF.goes_126
theorem TG.draft_by_file_File : Goes PG FN.draft_by_file_File := TF.goes_127
theorem TG.countermandref09_At : Goes PG FN.countermandref09_At := TF.goes_138
theorem TG.cell_Row_file_File_All_1 : Goes PG FN.cell_Row_file_File_All_1 := TF.goes_139
theorem TG.slices_rotateRight_draft_entry_file_File : Goes PG FN.slices_rotateRight_draft_entry_file_File := TF.goes_148
theorem TG.slices_rotateLeft_draft_entry_file_File : Goes PG FN.slices_rotateLeft_draft_entry_file_File := TF.goes_158
theorem TG.slices_Reverse_s_draft_entry_file_File_draft_entry_file_File : Goes PG FN.slices_Reverse_s_draft_entry_file_File_draft_entry_file_File := TF.goes_161
def C_countermandlaw14_SheetRenames (B : RO) (l1 : List Value) (i2 : Int) (i3 : Int) (h : Heap) (Q : Bool → Heap → Prop) : Prop :=
  Spec PG B 10 #[(Value.agg (List.toArray l1)), (Value.int .i64 (i2)), (Value.int .i64 (i3))] h (fun v h' => ∃ b4 : Bool, v = (Value.bool b4) ∧ Q b4 h')
def C_countermandlaw14_SheetCopies (B : RO) (l1 : List Value) (a2 : Option Addr) (n3 : Nat) (c4 : Nat) (a5 : Option Addr) (n6 : Nat) (c7 : Nat) (h : Heap) (Q : Bool → Heap → Prop) : Prop :=
  Spec PG B 11 #[(Value.agg (List.toArray l1)), (Value.slice a2 n3 c4), (Value.slice a5 n6 c7)] h (fun v h' => ∃ b8 : Bool, v = (Value.bool b8) ∧ Q b8 h')
def C_countermandlaw14_SheetOver (B : RO) (l1 : List Value) (a2 : Option Addr) (n3 : Nat) (c4 : Nat) (i5 : Int) (h : Heap) (Q : Bool → Heap → Prop) : Prop :=
  Spec PG B 12 #[(Value.agg (List.toArray l1)), (Value.slice a2 n3 c4), (Value.int .i64 (i5))] h (fun v h' => ∃ b6 : Bool, v = (Value.bool b6) ∧ Q b6 h')
def C_countermandlaw14_SheetDoes (B : RO) (l1 : List Value) (a2 : Option Addr) (n3 : Nat) (c4 : Nat) (h : Heap) (Q : Bool → Heap → Prop) : Prop :=
  Spec PG B 13 #[(Value.agg (List.toArray l1)), (Value.slice a2 n3 c4)] h (fun v h' => ∃ b5 : Bool, v = (Value.bool b5) ∧ Q b5 h')
def C_tome_New (B : RO) (h : Heap) (Q : Option Addr → Heap → Prop) : Prop :=
  Spec PG B 15 #[] h (fun v h' => ∃ p1 : Option Addr, v = (Value.pointer p1) ∧ Q p1 h')
def C_sheet_Sheet_Create (B : RO) (p1 : Option Addr) (p2 : Option Addr) (i3 : Int) (h : Heap) (Q : Bool → Heap → Prop) : Prop :=
  Spec PG B 22 #[(Value.pointer p1), (Value.pointer p2), (Value.int .i64 (i3))] h (fun v h' => ∃ b4 : Bool, v = (Value.bool b4) ∧ Q b4 h')
def C_sheet_Sheet_Get (B : RO) (p1 : Option Addr) (p2 : Option Addr) (i3 : Int) (h : Heap) (Q : Bool → ByteArray → Bool → Heap → Prop) : Prop :=
  Spec PG B 23 #[(Value.pointer p1), (Value.pointer p2), (Value.int .i64 (i3))] h (fun v h' => ∃ b4 : Bool, ∃ s5 : ByteArray, ∃ b6 : Bool, v = Value.tuple #[(Value.agg #[(Value.bool b4), (Value.string s5)]), (Value.bool b6)] ∧ Q b4 s5 b6 h')
def C_countermandlaw14_alive (B : RO) (h : Heap) (Q : Bool → Heap → Prop) : Prop :=
  Spec PG B 42 #[] h (fun v h' => ∃ b1 : Bool, v = (Value.bool b1) ∧ Q b1 h')
def C_countermandlaw14_build (B : RO) (l1 : List Value) (h : Heap) (Q : Option Addr → Option Addr → Option Addr → Bool → Heap → Prop) : Prop :=
  Spec PG B 43 #[(Value.agg (List.toArray l1))] h (fun v h' => ∃ p2 : Option Addr, ∃ p3 : Option Addr, ∃ p4 : Option Addr, ∃ b5 : Bool, v = Value.tuple #[(Value.pointer p2), (Value.pointer p3), (Value.pointer p4), (Value.bool b5)] ∧ Q p2 p3 p4 b5 h')
def C_countermandref14_Is (B : RO) (i1 : Int) (h : Heap) (Q : Bool → Heap → Prop) : Prop :=
  Spec PG B 44 #[(Value.int .i64 (i1))] h (fun v h' => ∃ b2 : Bool, v = (Value.bool b2) ∧ Q b2 h')
def C_sheet_Sheet_Rename (B : RO) (p1 : Option Addr) (p2 : Option Addr) (i3 : Int) (i4 : Int) (h : Heap) (Q : Bool → Heap → Prop) : Prop :=
  Spec PG B 45 #[(Value.pointer p1), (Value.pointer p2), (Value.int .i64 (i3)), (Value.int .i64 (i4))] h (fun v h' => ∃ b5 : Bool, v = (Value.bool b5) ∧ Q b5 h')
def C_countermandlaw14_does (B : RO) (p1 : Option Addr) (p2 : Option Addr) (p3 : Option Addr) (i4 : Int) (i5 : Int) (i6 : Int) (i7 : Int) (h : Heap) (Q : Bool → Heap → Prop) : Prop :=
  Spec PG B 46 #[(Value.pointer p1), (Value.pointer p2), (Value.pointer p3), (Value.agg #[(Value.int .i64 (i4)), (Value.int .i64 (i5)), (Value.int .i64 (i6)), (Value.int .u8 (i7))])] h (fun v h' => ∃ b8 : Bool, v = (Value.bool b8) ∧ Q b8 h')
def C_sheet_Sheet_Copy (B : RO) (p1 : Option Addr) (h : Heap) (Q : Option Addr → Heap → Prop) : Prop :=
  Spec PG B 47 #[(Value.pointer p1)] h (fun v h' => ∃ p2 : Option Addr, v = (Value.pointer p2) ∧ Q p2 h')
def C_sheet_Sheet_Over (B : RO) (p1 : Option Addr) (p2 : Option Addr) (i3 : Int) (h : Heap) (Q : Int → Heap → Prop) : Prop :=
  Spec PG B 48 #[(Value.pointer p1), (Value.pointer p2), (Value.int .i64 (i3))] h (fun v h' => ∃ i4 : Int, v = (Value.int .i64 (i4)) ∧ Q i4 h')
def C_tome_Tome_Get (B : RO) (p1 : Option Addr) (i2 : Int) (h : Heap) (Q : Bool → ByteArray → Int → Heap → Prop) : Prop :=
  Spec PG B 49 #[(Value.pointer p1), (Value.int .i64 (i2))] h (fun v h' => ∃ b3 : Bool, ∃ s4 : ByteArray, ∃ i5 : Int, v = Value.tuple #[(Value.agg #[(Value.bool b3), (Value.string s4)]), (Value.int .i64 (i5))] ∧ Q b3 s4 i5 h')
def C_tome_Tome_Bytes (B : RO) (p1 : Option Addr) (h : Heap) (Q : ByteArray → Heap → Prop) : Prop :=
  Spec PG B 50 #[(Value.pointer p1)] h (fun v h' => ∃ s2 : ByteArray, v = (Value.string s2) ∧ Q s2 h')
def C_sheet_Sheet_Draft (B : RO) (p1 : Option Addr) (h : Heap) (Q : Option Addr → Heap → Prop) : Prop :=
  Spec PG B 51 #[(Value.pointer p1)] h (fun v h' => ∃ p2 : Option Addr, v = (Value.pointer p2) ∧ Q p2 h')
def C_draft_Draft_file_File_All (B : RO) (p1 : Option Addr) (h : Heap) (Q : Value → Heap → Prop) : Prop :=
  Spec PG B 52 #[(Value.pointer p1)] h (fun v h' => ∃ v2 : Value, v = v2 ∧ Q v2 h')
def C_draft_Draft_file_File_Len (B : RO) (p1 : Option Addr) (h : Heap) (Q : Int → Heap → Prop) : Prop :=
  Spec PG B 53 #[(Value.pointer p1)] h (fun v h' => ∃ i2 : Int, v = (Value.int .i64 (i2)) ∧ Q i2 h')
def C_sheet_Sheet_Write (B : RO) (p1 : Option Addr) (p2 : Option Addr) (i3 : Int) (i4 : Int) (i5 : Int) (h : Heap) (Q : Bool → Heap → Prop) : Prop :=
  Spec PG B 54 #[(Value.pointer p1), (Value.pointer p2), (Value.int .i64 (i3)), (Value.int .i64 (i4)), (Value.int .u8 (i5))] h (fun v h' => ∃ b6 : Bool, v = (Value.bool b6) ∧ Q b6 h')
def C_sheet_Sheet_Cut (B : RO) (p1 : Option Addr) (p2 : Option Addr) (i3 : Int) (i4 : Int) (h : Heap) (Q : Bool → Heap → Prop) : Prop :=
  Spec PG B 55 #[(Value.pointer p1), (Value.pointer p2), (Value.int .i64 (i3)), (Value.int .i64 (i4))] h (fun v h' => ∃ b5 : Bool, v = (Value.bool b5) ∧ Q b5 h')
def C_sheet_Sheet_Remove (B : RO) (p1 : Option Addr) (p2 : Option Addr) (i3 : Int) (h : Heap) (Q : Bool → Heap → Prop) : Prop :=
  Spec PG B 56 #[(Value.pointer p1), (Value.pointer p2), (Value.int .i64 (i3))] h (fun v h' => ∃ b4 : Bool, v = (Value.bool b4) ∧ Q b4 h')
def C_cell_New_file_File (B : RO) (i1 : Int) (b2 : Bool) (s3 : ByteArray) (h : Heap) (Q : Option Addr → Heap → Prop) : Prop :=
  Spec PG B 60 #[(Value.int .i64 (i1)), (Value.agg #[(Value.bool b2), (Value.string s3)])] h (fun v h' => ∃ p4 : Option Addr, v = (Value.pointer p4) ∧ Q p4 h')
def C_sheet_New (B : RO) (h : Heap) (Q : Option Addr → Heap → Prop) : Prop :=
  Spec PG B 61 #[] h (fun v h' => ∃ p1 : Option Addr, v = (Value.pointer p1) ∧ Q p1 h')
def C_sheet_Sheet_put (B : RO) (p1 : Option Addr) (p2 : Option Addr) (i3 : Int) (b4 : Bool) (s5 : ByteArray) (h : Heap) (Q : Bool → Heap → Prop) : Prop :=
  Spec PG B 67 #[(Value.pointer p1), (Value.pointer p2), (Value.int .i64 (i3)), (Value.agg #[(Value.bool b4), (Value.string s5)])] h (fun v h' => ∃ b6 : Bool, v = (Value.bool b6) ∧ Q b6 h')
def C_file_Make (B : RO) (b1 : Bool) (s2 : ByteArray) (h : Heap) (Q : Bool → ByteArray → Heap → Prop) : Prop :=
  Spec PG B 68 #[(Value.agg #[(Value.bool b1), (Value.string s2)])] h (fun v h' => ∃ b3 : Bool, ∃ s4 : ByteArray, v = (Value.agg #[(Value.bool b3), (Value.string s4)]) ∧ Q b3 s4 h')
def C_draft_Draft_file_File_Get (B : RO) (p1 : Option Addr) (i2 : Int) (h : Heap) (Q : Bool → ByteArray → Bool → Heap → Prop) : Prop :=
  Spec PG B 69 #[(Value.pointer p1), (Value.int .i64 (i2))] h (fun v h' => ∃ b3 : Bool, ∃ s4 : ByteArray, ∃ b5 : Bool, v = Value.tuple #[(Value.agg #[(Value.bool b3), (Value.string s4)]), (Value.bool b5)] ∧ Q b3 s4 b5 h')
def C_stylus_Stylus_Nat (B : RO) (p1 : Option Addr) (a2 : Option Addr) (n3 : Nat) (c4 : Nat) (h : Heap) (Q : Heap → Prop) : Prop :=
  Spec PG B 72 #[(Value.pointer p1), (Value.slice a2 n3 c4)] h (fun v h' => v = Value.tuple #[] ∧ Q  h')
def C_stylus_Stylus_Raw (B : RO) (p1 : Option Addr) (s2 : ByteArray) (h : Heap) (Q : Heap → Prop) : Prop :=
  Spec PG B 73 #[(Value.pointer p1), (Value.string s2)] h (fun v h' => v = Value.tuple #[] ∧ Q  h')
def C_stylus_Stylus_Bytes (B : RO) (p1 : Option Addr) (h : Heap) (Q : ByteArray → Heap → Prop) : Prop :=
  Spec PG B 74 #[(Value.pointer p1)] h (fun v h' => ∃ s2 : ByteArray, v = (Value.string s2) ∧ Q s2 h')
def C_tome_Tome_Set (B : RO) (p1 : Option Addr) (i2 : Int) (b3 : Bool) (s4 : ByteArray) (i5 : Int) (h : Heap) (Q : Bool → Heap → Prop) : Prop :=
  Spec PG B 85 #[(Value.pointer p1), (Value.int .i64 (i2)), (Value.agg #[(Value.bool b3), (Value.string s4)]), (Value.int .i64 (i5))] h (fun v h' => ∃ b6 : Bool, v = (Value.bool b6) ∧ Q b6 h')
def C_countermandref14_Sheet_Write (B : RO) (p1 : Option Addr) (i2 : Int) (i3 : Int) (i4 : Int) (h : Heap) (Q : Bool → Heap → Prop) : Prop :=
  Spec PG B 86 #[(Value.pointer p1), (Value.int .i64 (i2)), (Value.int .i64 (i3)), (Value.int .u8 (i4))] h (fun v h' => ∃ b5 : Bool, v = (Value.bool b5) ∧ Q b5 h')
def C_countermandref14_Sheet_Cut (B : RO) (p1 : Option Addr) (i2 : Int) (i3 : Int) (h : Heap) (Q : Bool → Heap → Prop) : Prop :=
  Spec PG B 87 #[(Value.pointer p1), (Value.int .i64 (i2)), (Value.int .i64 (i3))] h (fun v h' => ∃ b4 : Bool, v = (Value.bool b4) ∧ Q b4 h')
def C_countermandref14_Sheet_Create (B : RO) (p1 : Option Addr) (i2 : Int) (h : Heap) (Q : Bool → Heap → Prop) : Prop :=
  Spec PG B 88 #[(Value.pointer p1), (Value.int .i64 (i2))] h (fun v h' => ∃ b3 : Bool, v = (Value.bool b3) ∧ Q b3 h')
def C_countermandref14_Sheet_Remove (B : RO) (p1 : Option Addr) (i2 : Int) (h : Heap) (Q : Bool → Heap → Prop) : Prop :=
  Spec PG B 89 #[(Value.pointer p1), (Value.int .i64 (i2))] h (fun v h' => ∃ b3 : Bool, v = (Value.bool b3) ∧ Q b3 h')
def C_countermandref14_Sheet_Rename (B : RO) (p1 : Option Addr) (i2 : Int) (i3 : Int) (h : Heap) (Q : Bool → Heap → Prop) : Prop :=
  Spec PG B 90 #[(Value.pointer p1), (Value.int .i64 (i2)), (Value.int .i64 (i3))] h (fun v h' => ∃ b4 : Bool, v = (Value.bool b4) ∧ Q b4 h')
def C_draft_Draft_file_File_Copy (B : RO) (p1 : Option Addr) (h : Heap) (Q : Option Addr → Heap → Prop) : Prop :=
  Spec PG B 91 #[(Value.pointer p1)] h (fun v h' => ∃ p2 : Option Addr, v = (Value.pointer p2) ∧ Q p2 h')
def C_cell_Row_file_File_Get (B : RO) (p1 : Option Addr) (i2 : Int) (h : Heap) (Q : Bool → ByteArray → Int → Heap → Prop) : Prop :=
  Spec PG B 92 #[(Value.pointer p1), (Value.int .i64 (i2))] h (fun v h' => ∃ b3 : Bool, ∃ s4 : ByteArray, ∃ i5 : Int, v = Value.tuple #[(Value.agg #[(Value.bool b3), (Value.string s4)]), (Value.int .i64 (i5))] ∧ Q b3 s4 i5 h')
def C_tome_Tome_All (B : RO) (p1 : Option Addr) (h : Heap) (Q : Value → Heap → Prop) : Prop :=
  Spec PG B 93 #[(Value.pointer p1)] h (fun v h' => ∃ v2 : Value, v = v2 ∧ Q v2 h')
def C_stylus_Stylus_Text (B : RO) (p1 : Option Addr) (a2 : Option Addr) (n3 : Nat) (c4 : Nat) (h : Heap) (Q : Heap → Prop) : Prop :=
  Spec PG B 94 #[(Value.pointer p1), (Value.slice a2 n3 c4)] h (fun v h' => v = Value.tuple #[] ∧ Q  h')
def C_draft_Draft_file_File_All_1 (B : RO) (v1 : Value) (A2 : Addr) (h : Heap) (Q : Heap → Prop) : Prop :=
  Spec PG B 95 #[v1, (Value.pointer (some A2))] h (fun v h' => v = Value.tuple #[] ∧ Q  h')
def C_file_Put (B : RO) (b1 : Bool) (s2 : ByteArray) (i3 : Int) (i4 : Int) (h : Heap) (Q : Bool → ByteArray → Heap → Prop) : Prop :=
  Spec PG B 96 #[(Value.agg #[(Value.bool b1), (Value.string s2)]), (Value.int .i64 (i3)), (Value.int .u8 (i4))] h (fun v h' => ∃ b5 : Bool, ∃ s6 : ByteArray, v = (Value.agg #[(Value.bool b5), (Value.string s6)]) ∧ Q b5 s6 h')
def C_file_Cut (B : RO) (b1 : Bool) (s2 : ByteArray) (i3 : Int) (h : Heap) (Q : Bool → ByteArray → Heap → Prop) : Prop :=
  Spec PG B 97 #[(Value.agg #[(Value.bool b1), (Value.string s2)]), (Value.int .i64 (i3))] h (fun v h' => ∃ b4 : Bool, ∃ s5 : ByteArray, v = (Value.agg #[(Value.bool b4), (Value.string s5)]) ∧ Q b4 s5 h')
def C_draft_Draft_file_File_Put (B : RO) (p1 : Option Addr) (i2 : Int) (b3 : Bool) (s4 : ByteArray) (h : Heap) (Q : Bool → Heap → Prop) : Prop :=
  Spec PG B 104 #[(Value.pointer p1), (Value.int .i64 (i2)), (Value.agg #[(Value.bool b3), (Value.string s4)])] h (fun v h' => ∃ b5 : Bool, v = (Value.bool b5) ∧ Q b5 h')
def C_draft_Draft_file_File_find (B : RO) (p1 : Option Addr) (i2 : Int) (h : Heap) (Q : Int → Bool → Heap → Prop) : Prop :=
  Spec PG B 105 #[(Value.pointer p1), (Value.int .i64 (i2))] h (fun v h' => ∃ i3 : Int, ∃ b4 : Bool, v = Value.tuple #[(Value.int .i64 (i3)), (Value.bool b4)] ∧ Q i3 b4 h')
def C_file_Good (B : RO) (b1 : Bool) (s2 : ByteArray) (h : Heap) (Q : Bool → Heap → Prop) : Prop :=
  Spec PG B 114 #[(Value.agg #[(Value.bool b1), (Value.string s2)])] h (fun v h' => ∃ b3 : Bool, v = (Value.bool b3) ∧ Q b3 h')
def C_cell_Row_file_File_Set (B : RO) (p1 : Option Addr) (i2 : Int) (b3 : Bool) (s4 : ByteArray) (i5 : Int) (h : Heap) (Q : Bool → Heap → Prop) : Prop :=
  Spec PG B 115 #[(Value.pointer p1), (Value.int .i64 (i2)), (Value.agg #[(Value.bool b3), (Value.string s4)]), (Value.int .i64 (i5))] h (fun v h' => ∃ b6 : Bool, v = (Value.bool b6) ∧ Q b6 h')
def C_countermandref14_Sheet_put (B : RO) (p1 : Option Addr) (i2 : Int) (b3 : Bool) (s4 : ByteArray) (h : Heap) (Q : Heap → Prop) : Prop :=
  Spec PG B 116 #[(Value.pointer p1), (Value.int .i64 (i2)), (Value.agg #[(Value.bool b3), (Value.string s4)])] h (fun v h' => v = Value.tuple #[] ∧ Q  h')
def C_countermandref09_Put (B : RO) (b1 : Bool) (s2 : ByteArray) (i3 : Int) (i4 : Int) (h : Heap) (Q : Bool → ByteArray → Heap → Prop) : Prop :=
  Spec PG B 117 #[(Value.agg #[(Value.bool b1), (Value.string s2)]), (Value.int .i64 (i3)), (Value.int .u8 (i4))] h (fun v h' => ∃ b5 : Bool, ∃ s6 : ByteArray, v = (Value.agg #[(Value.bool b5), (Value.string s6)]) ∧ Q b5 s6 h')
def C_countermandref09_Cut (B : RO) (b1 : Bool) (s2 : ByteArray) (i3 : Int) (h : Heap) (Q : Bool → ByteArray → Heap → Prop) : Prop :=
  Spec PG B 118 #[(Value.agg #[(Value.bool b1), (Value.string s2)]), (Value.int .i64 (i3))] h (fun v h' => ∃ b4 : Bool, ∃ s5 : ByteArray, v = (Value.agg #[(Value.bool b4), (Value.string s5)]) ∧ Q b4 s5 h')
def C_slices_Clone_s_draft_entry_file_File_draft_entry_file_File (B : RO) (a1 : Option Addr) (n2 : Nat) (c3 : Nat) (h : Heap) (Q : Option Addr → Nat → Nat → Heap → Prop) : Prop :=
  Spec PG B 119 #[(Value.slice a1 n2 c3)] h (fun v h' => ∃ a4 : Option Addr, ∃ n5 : Nat, ∃ c6 : Nat, v = (Value.slice a4 n5 c6) ∧ Q a4 n5 c6 h')
def C_cell_Row_file_File_is (B : RO) (p1 : Option Addr) (i2 : Int) (h : Heap) (Q : Bool → Heap → Prop) : Prop :=
  Spec PG B 120 #[(Value.pointer p1), (Value.int .i64 (i2))] h (fun v h' => ∃ b3 : Bool, v = (Value.bool b3) ∧ Q b3 h')
def C_tome_Tome_All_1 (B : RO) (v1 : Value) (A2 : Addr) (h : Heap) (Q : Heap → Prop) : Prop :=
  Spec PG B 121 #[v1, (Value.pointer (some A2))] h (fun v h' => v = Value.tuple #[] ∧ Q  h')
def C_cell_Row_file_File_All (B : RO) (p1 : Option Addr) (h : Heap) (Q : Value → Heap → Prop) : Prop :=
  Spec PG B 122 #[(Value.pointer p1)] h (fun v h' => ∃ v2 : Value, v = v2 ∧ Q v2 h')
def C_strings_Repeat (B : RO) (s1 : ByteArray) (i2 : Int) (h : Heap) (Q : ByteArray → Heap → Prop) : Prop :=
  Spec PG B 123 #[(Value.string s1), (Value.int .i64 (i2))] h (fun v h' => ∃ s3 : ByteArray, v = (Value.string s3) ∧ Q s3 h')
def C_slices_Insert_s_draft_entry_file_File_draft_entry_file_File (B : RO) (a1 : Option Addr) (n2 : Nat) (c3 : Nat) (i4 : Int) (a5 : Option Addr) (n6 : Nat) (c7 : Nat) (h : Heap) (Q : Option Addr → Nat → Nat → Heap → Prop) : Prop :=
  Spec PG B 125 #[(Value.slice a1 n2 c3), (Value.int .i64 (i4)), (Value.slice a5 n6 c7)] h (fun v h' => ∃ a8 : Option Addr, ∃ n9 : Nat, ∃ c10 : Nat, v = (Value.slice a8 n9 c10) ∧ Q a8 n9 c10 h')
def C_slices_BinarySearchFunc_s_draft_entry_file_File_draft_entry_file_File_int (B : RO) (a1 : Option Addr) (n2 : Nat) (c3 : Nat) (i4 : Int) (v5 : Value) (h : Heap) (Q : Int → Bool → Heap → Prop) : Prop :=
  Spec PG B 126 #[(Value.slice a1 n2 c3), (Value.int .i64 (i4)), v5] h (fun v h' => ∃ i6 : Int, ∃ b7 : Bool, v = Value.tuple #[(Value.int .i64 (i6)), (Value.bool b7)] ∧ Q i6 b7 h')
def C_draft_by_file_File (B : RO) (i1 : Int) (b2 : Bool) (s3 : ByteArray) (i4 : Int) (h : Heap) (Q : Int → Heap → Prop) : Prop :=
  Spec PG B 127 #[(Value.agg #[(Value.int .i64 (i1)), (Value.bool b2), (Value.string s3)]), (Value.int .i64 (i4))] h (fun v h' => ∃ i5 : Int, v = (Value.int .i64 (i5)) ∧ Q i5 h')
def C_countermandref09_At (B : RO) (b1 : Bool) (s2 : ByteArray) (i3 : Int) (h : Heap) (Q : Int → Heap → Prop) : Prop :=
  Spec PG B 138 #[(Value.agg #[(Value.bool b1), (Value.string s2)]), (Value.int .i64 (i3))] h (fun v h' => ∃ i4 : Int, v = (Value.int .i64 (i4)) ∧ Q i4 h')
def C_cell_Row_file_File_All_1 (B : RO) (v1 : Value) (A2 : Addr) (h : Heap) (Q : Heap → Prop) : Prop :=
  Spec PG B 139 #[v1, (Value.pointer (some A2))] h (fun v h' => v = Value.tuple #[] ∧ Q  h')
def C_slices_rotateRight_draft_entry_file_File (B : RO) (a1 : Option Addr) (n2 : Nat) (c3 : Nat) (i4 : Int) (h : Heap) (Q : Heap → Prop) : Prop :=
  Spec PG B 148 #[(Value.slice a1 n2 c3), (Value.int .i64 (i4))] h (fun v h' => v = Value.tuple #[] ∧ Q  h')
def C_slices_rotateLeft_draft_entry_file_File (B : RO) (a1 : Option Addr) (n2 : Nat) (c3 : Nat) (i4 : Int) (h : Heap) (Q : Heap → Prop) : Prop :=
  Spec PG B 158 #[(Value.slice a1 n2 c3), (Value.int .i64 (i4))] h (fun v h' => v = Value.tuple #[] ∧ Q  h')
def C_slices_Reverse_s_draft_entry_file_File_draft_entry_file_File (B : RO) (a1 : Option Addr) (n2 : Nat) (c3 : Nat) (h : Heap) (Q : Heap → Prop) : Prop :=
  Spec PG B 161 #[(Value.slice a1 n2 c3)] h (fun v h' => v = Value.tuple #[] ∧ Q  h')
end Go.Proofs.Ytcncdfmnpmmikaa.H
