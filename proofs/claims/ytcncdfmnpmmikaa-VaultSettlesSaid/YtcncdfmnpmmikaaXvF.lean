/- Calls and facts. No condition. -/
import Derived.Test.YtcncdfmnpmmikaaHs
import Derived.Test.YtcncdfmnpmmikaaProg
import Derived.KernelRfl
namespace Go.Proofs.Ytcncdfmnpmmikaa.H
open Go
set_option linter.unusedVariables false
set_option maxRecDepth 100000

noncomputable abbrev PG : Program := Go.Proofs.Try.prog
abbrev TY.int64 : TypeId := 2
abbrev TY.int : TypeId := 3
abbrev TY.bool : TypeId := 4
abbrev TY.uint8 : TypeId := 5
abbrev TY.abi_BoundsErrorCode : TypeId := 6
abbrev TY.runtime_boundsError : TypeId := 8
abbrev TY.string : TypeId := 9
abbrev TY.runtime_errorString : TypeId := 10
abbrev TY.runtime_plainError : TypeId := 11
abbrev TY.uintptr : TypeId := 12
abbrev TY.runtime_errorAddressString : TypeId := 14
abbrev TY.p_runtime_TypeAssertionError : TypeId := 15
abbrev TY.p_runtime_PanicNilError : TypeId := 16
abbrev TY.p_abi_Type : TypeId := 17
abbrev TY.maps_unhashableTypeError : TypeId := 19
abbrev TY.int32 : TypeId := 21
abbrev TY.a_4_int : TypeId := 22
abbrev TY.api_Regs : TypeId := 23
abbrev TY.p_tome_Tome : TypeId := 25
abbrev TY.p_draft_Draft_int : TypeId := 27
abbrev TY.p_sheet_Sheet : TypeId := 28
abbrev TY.p_cursor_Cursor : TypeId := 29
abbrev TY.mark_State : TypeId := 31
abbrev TY.file_File : TypeId := 41
abbrev TY.s_string : TypeId := 45
abbrev TY.p_disk_Disk : TypeId := 47
abbrev TY.p_vault_Vault : TypeId := 49
abbrev TY.vault_Found : TypeId := 51
abbrev TY.api_Errno : TypeId := 52
abbrev TY.uint : TypeId := 57
abbrev TY.a_6_file_File : TypeId := 71
abbrev TY.p_countermandref14_Sheet : TypeId := 72
abbrev TY.countermandref09_File : TypeId := 76
abbrev TY.a_6_countermandref09_File : TypeId := 77
abbrev TY.s_countermandlaw14_Call : TypeId := 79
abbrev TY.countermandlaw14_Call : TypeId := 81
abbrev TY.a_6_bool : TypeId := 84
abbrev TY.countermandref14_Sheet : TypeId := 86
abbrev TY.iter_Seq2_int_file_File : TypeId := 94
abbrev TY.p_draft_Draft_file_File : TypeId := 95
abbrev TY.p_mark_Stack : TypeId := 100
abbrev TY.s_mark_Mark : TypeId := 101
abbrev TY.mark_Stack : TypeId := 103
abbrev TY.acts_Mark : TypeId := 105
abbrev TY.mark_Mark : TypeId := 107
abbrev TY.p_cell_Row_file_File : TypeId := 110
abbrev TY.tome_Tome : TypeId := 113
abbrev TY.s_draft_entry_int : TypeId := 114
abbrev TY.draft_Draft_int : TypeId := 116
abbrev TY.a_3_int : TypeId := 117
abbrev TY.cursor_Cursor : TypeId := 119
abbrev TY.draft_entry_int : TypeId := 121
abbrev TY.sheet_Sheet : TypeId := 128
abbrev TY.disk_area : TypeId := 131
abbrev TY.a_2_disk_area : TypeId := 132
abbrev TY.s_disk_change : TypeId := 133
abbrev TY.disk_Disk : TypeId := 135
abbrev TY.p_wal_Log : TypeId := 136
abbrev TY.vault_Vault : TypeId := 138
abbrev TY.p_stylus_Stylus : TypeId := 143
abbrev TY.s_uint8 : TypeId := 144
abbrev TY.stylus_Stylus : TypeId := 146
abbrev TY.disk_change : TypeId := 151
abbrev TY.s_draft_entry_file_File : TypeId := 158
abbrev TY.draft_Draft_file_File : TypeId := 160
abbrev TY.draft_entry_file_File : TypeId := 162
abbrev TY.s_cell_slot_file_File : TypeId := 166
abbrev TY.cell_Row_file_File : TypeId := 168
abbrev TY.cell_slot_file_File : TypeId := 170
abbrev TY.wal_Log : TypeId := 178
abbrev TY.iter_Seq_string : TypeId := 180
abbrev TY.s_int : TypeId := 184
abbrev TY.uint32 : TypeId := 185
abbrev TY.uint64 : TypeId := 188
abbrev TY.p_stylus_Reader : TypeId := 202
abbrev TY.p_strings_Builder : TypeId := 210
abbrev TY.strings_Builder : TypeId := 212
abbrev TY.error : TypeId := 215
abbrev TY.stylus_Reader : TypeId := 222
abbrev TY.p_uint8 : TypeId := 228
abbrev TY.runtime_TypeAssertionError : TypeId := 234
abbrev TY.a_0_p_runtime_PanicNilError : TypeId := 235
abbrev TY.runtime_PanicNilError : TypeId := 237
abbrev TY.abi_TFlag : TypeId := 238
abbrev TY.abi_Kind : TypeId := 239
abbrev TY.abi_NameOff : TypeId := 241
abbrev TY.abi_TypeOff : TypeId := 242
abbrev TY.abi_Type : TypeId := 244
abbrev TY.iter_Seq2_int_int : TypeId := 247
theorem TF.agg_133 : aggB PG 133 = some false := by kernel_rfl
theorem TF.agg_136 : aggB PG 136 = some false := by kernel_rfl
theorem TF.agg_144 : aggB PG 144 = some false := by kernel_rfl
theorem TF.agg_151 : aggB PG 151 = some true := by kernel_rfl
theorem TF.agg_3 : aggB PG 3 = some false := by kernel_rfl
theorem TF.agg_4 : aggB PG 4 = some false := by kernel_rfl
theorem TF.agg_45 : aggB PG 45 = some false := by kernel_rfl
theorem TF.agg_47 : aggB PG 47 = some false := by kernel_rfl
theorem TF.agg_51 : aggB PG 51 = some true := by kernel_rfl
theorem TF.agg_70 : aggB PG 70 = some false := by kernel_rfl
theorem TF.agg_9 : aggB PG 9 = some false := by kernel_rfl
theorem TF.arr_132 : arrB PG 132 = some (2, 131, 2, true) := by kernel_rfl
theorem TF.bool_4 : boolT PG 4 = true := by kernel_rfl
theorem TF.fld_131_0 : fldB PG 131 0 = some 0 := by kernel_rfl
theorem TF.fld_131_1 : fldB PG 131 1 = some 1 := by kernel_rfl
theorem TF.fld_135_0 : fldB PG 135 0 = some 0 := by kernel_rfl
theorem TF.fld_135_1 : fldB PG 135 1 = some 4 := by kernel_rfl
theorem TF.fld_138_0 : fldB PG 138 0 = some 0 := by kernel_rfl
theorem TF.fld_138_1 : fldB PG 138 1 = some 1 := by kernel_rfl
theorem TF.fld_138_2 : fldB PG 138 2 = some 2 := by kernel_rfl
theorem TF.fld_138_3 : fldB PG 138 3 = some 3 := by kernel_rfl
theorem TF.fld_146_0 : fldB PG 146 0 = some 0 := by kernel_rfl
theorem TF.fld_151_0 : fldB PG 151 0 = some 0 := by kernel_rfl
theorem TF.fld_151_1 : fldB PG 151 1 = some 1 := by kernel_rfl
theorem TF.fld_151_2 : fldB PG 151 2 = some 2 := by kernel_rfl
theorem TF.fld_178_0 : fldB PG 178 0 = some 0 := by kernel_rfl
theorem TF.fld_178_1 : fldB PG 178 1 = some 1 := by kernel_rfl
theorem TF.fld_178_2 : fldB PG 178 2 = some 2 := by kernel_rfl
theorem TF.fld_178_3 : fldB PG 178 3 = some 3 := by kernel_rfl
theorem TF.fld_222_0 : fldB PG 222 0 = some 0 := by kernel_rfl
theorem TF.fld_222_1 : fldB PG 222 1 = some 1 := by kernel_rfl
theorem TF.fld_51_0 : fldB PG 51 0 = some 0 := by kernel_rfl
theorem TF.fld_51_1 : fldB PG 51 1 = some 1 := by kernel_rfl
theorem TF.goes_106 : Goes PG 106 := ⟨Try.f106, Try.func106, by kernel_rfl, by kernel_rfl⟩
theorem TF.goes_107 : Goes PG 107 := ⟨Try.f107, Try.func107, by kernel_rfl, by kernel_rfl⟩
theorem TF.goes_108 : Goes PG 108 := ⟨Try.f108, Try.func108, by kernel_rfl, by kernel_rfl⟩
theorem TF.goes_109 : Goes PG 109 := ⟨Try.f109, Try.func109, by kernel_rfl, by kernel_rfl⟩
theorem TF.goes_110 : Goes PG 110 := ⟨Try.f110, Try.func110, by kernel_rfl, by kernel_rfl⟩
theorem TF.goes_111 : Goes PG 111 := ⟨Try.f111, Try.func111, by kernel_rfl, by kernel_rfl⟩
theorem TF.goes_112 : Goes PG 112 := ⟨Try.f112, Try.func112, by kernel_rfl, by kernel_rfl⟩
theorem TF.goes_113 : Goes PG 113 := ⟨Try.f113, Try.func113, by kernel_rfl, by kernel_rfl⟩
theorem TF.goes_128 : Goes PG 128 := ⟨Try.f128, Try.func128, by kernel_rfl, by kernel_rfl⟩
theorem TF.goes_129 : Goes PG 129 := ⟨Try.f129, Try.func129, by kernel_rfl, by kernel_rfl⟩
theorem TF.goes_130 : Goes PG 130 := ⟨Try.f130, Try.func130, by kernel_rfl, by kernel_rfl⟩
theorem TF.goes_131 : Goes PG 131 := ⟨Try.f131, Try.func131, by kernel_rfl, by kernel_rfl⟩
theorem TF.goes_132 : Goes PG 132 := ⟨Try.f132, Try.func132, by kernel_rfl, by kernel_rfl⟩
theorem TF.goes_133 : Goes PG 133 := ⟨Try.f133, Try.func133, by kernel_rfl, by kernel_rfl⟩
theorem TF.goes_134 : Goes PG 134 := ⟨Try.f134, Try.func134, by kernel_rfl, by kernel_rfl⟩
theorem TF.goes_135 : Goes PG 135 := ⟨Try.f135, Try.func135, by kernel_rfl, by kernel_rfl⟩
theorem TF.goes_136 : Goes PG 136 := ⟨Try.f136, Try.func136, by kernel_rfl, by kernel_rfl⟩
theorem TF.goes_137 : Goes PG 137 := ⟨Try.f137, Try.func137, by kernel_rfl, by kernel_rfl⟩
theorem TF.goes_149 : Goes PG 149 := ⟨Try.f149, Try.func149, by kernel_rfl, by kernel_rfl⟩
theorem TF.goes_150 : Goes PG 150 := ⟨Try.f150, Try.func150, by kernel_rfl, by kernel_rfl⟩
theorem TF.goes_151 : Goes PG 151 := ⟨Try.f151, Try.func151, by kernel_rfl, by kernel_rfl⟩
theorem TF.goes_152 : Goes PG 152 := ⟨Try.f152, Try.func152, by kernel_rfl, by kernel_rfl⟩
theorem TF.goes_24 : Goes PG 24 := ⟨Try.f24, Try.func24, by kernel_rfl, by kernel_rfl⟩
theorem TF.goes_25 : Goes PG 25 := ⟨Try.f25, Try.func25, by kernel_rfl, by kernel_rfl⟩
theorem TF.goes_26 : Goes PG 26 := ⟨Try.f26, Try.func26, by kernel_rfl, by kernel_rfl⟩
theorem TF.goes_27 : Goes PG 27 := ⟨Try.f27, Try.func27, by kernel_rfl, by kernel_rfl⟩
theorem TF.goes_28 : Goes PG 28 := ⟨Try.f28, Try.func28, by kernel_rfl, by kernel_rfl⟩
theorem TF.goes_29 : Goes PG 29 := ⟨Try.f29, Try.func29, by kernel_rfl, by kernel_rfl⟩
theorem TF.goes_30 : Goes PG 30 := ⟨Try.f30, Try.func30, by kernel_rfl, by kernel_rfl⟩
theorem TF.goes_31 : Goes PG 31 := ⟨Try.f31, Try.func31, by kernel_rfl, by kernel_rfl⟩
theorem TF.goes_32 : Goes PG 32 := ⟨Try.f32, Try.func32, by kernel_rfl, by kernel_rfl⟩
theorem TF.goes_33 : Goes PG 33 := ⟨Try.f33, Try.func33, by kernel_rfl, by kernel_rfl⟩
theorem TF.goes_34 : Goes PG 34 := ⟨Try.f34, Try.func34, by kernel_rfl, by kernel_rfl⟩
theorem TF.goes_35 : Goes PG 35 := ⟨Try.f35, Try.func35, by kernel_rfl, by kernel_rfl⟩
theorem TF.goes_36 : Goes PG 36 := ⟨Try.f36, Try.func36, by kernel_rfl, by kernel_rfl⟩
theorem TF.goes_37 : Goes PG 37 := ⟨Try.f37, Try.func37, by kernel_rfl, by kernel_rfl⟩
theorem TF.goes_38 : Goes PG 38 := ⟨Try.f38, Try.func38, by kernel_rfl, by kernel_rfl⟩
theorem TF.goes_39 : Goes PG 39 := ⟨Try.f39, Try.func39, by kernel_rfl, by kernel_rfl⟩
theorem TF.goes_4 : Goes PG 4 := ⟨Try.f4, Try.func4, by kernel_rfl, by kernel_rfl⟩
theorem TF.goes_40 : Goes PG 40 := ⟨Try.f40, Try.func40, by kernel_rfl, by kernel_rfl⟩
theorem TF.goes_41 : Goes PG 41 := ⟨Try.f41, Try.func41, by kernel_rfl, by kernel_rfl⟩
theorem TF.goes_5 : Goes PG 5 := ⟨Try.f5, Try.func5, by kernel_rfl, by kernel_rfl⟩
theorem TF.goes_6 : Goes PG 6 := ⟨Try.f6, Try.func6, by kernel_rfl, by kernel_rfl⟩
theorem TF.goes_7 : Goes PG 7 := ⟨Try.f7, Try.func7, by kernel_rfl, by kernel_rfl⟩
theorem TF.goes_70 : Goes PG 70 := ⟨Try.f70, Try.func70, by kernel_rfl, by kernel_rfl⟩
theorem TF.goes_71 : Goes PG 71 := ⟨Try.f71, Try.func71, by kernel_rfl, by kernel_rfl⟩
theorem TF.goes_72 : Goes PG 72 := ⟨Try.f72, Try.func72, by kernel_rfl, by kernel_rfl⟩
theorem TF.goes_73 : Goes PG 73 := ⟨Try.f73, Try.func73, by kernel_rfl, by kernel_rfl⟩
theorem TF.goes_74 : Goes PG 74 := ⟨Try.f74, Try.func74, by kernel_rfl, by kernel_rfl⟩
theorem TF.goes_75 : Goes PG 75 := ⟨Try.f75, Try.func75, by kernel_rfl, by kernel_rfl⟩
theorem TF.goes_76 : Goes PG 76 := ⟨Try.f76, Try.func76, by kernel_rfl, by kernel_rfl⟩
theorem TF.goes_77 : Goes PG 77 := ⟨Try.f77, Try.func77, by kernel_rfl, by kernel_rfl⟩
theorem TF.goes_78 : Goes PG 78 := ⟨Try.f78, Try.func78, by kernel_rfl, by kernel_rfl⟩
theorem TF.goes_79 : Goes PG 79 := ⟨Try.f79, Try.func79, by kernel_rfl, by kernel_rfl⟩
theorem TF.goes_8 : Goes PG 8 := ⟨Try.f8, Try.func8, by kernel_rfl, by kernel_rfl⟩
theorem TF.goes_80 : Goes PG 80 := ⟨Try.f80, Try.func80, by kernel_rfl, by kernel_rfl⟩
theorem TF.goes_81 : Goes PG 81 := ⟨Try.f81, Try.func81, by kernel_rfl, by kernel_rfl⟩
theorem TF.goes_82 : Goes PG 82 := ⟨Try.f82, Try.func82, by kernel_rfl, by kernel_rfl⟩
theorem TF.goes_83 : Goes PG 83 := ⟨Try.f83, Try.func83, by kernel_rfl, by kernel_rfl⟩
theorem TF.goes_84 : Goes PG 84 := ⟨Try.f84, Try.func84, by kernel_rfl, by kernel_rfl⟩
theorem TF.goes_9 : Goes PG 9 := ⟨Try.f9, Try.func9, by kernel_rfl, by kernel_rfl⟩
theorem TF.int_185 : intB PG 185 = some .u32 := by kernel_rfl
theorem TF.int_188 : intB PG 188 = some .u64 := by kernel_rfl
theorem TF.int_3 : intB PG 3 = some .i64 := by kernel_rfl
theorem TF.int_5 : intB PG 5 = some .u8 := by kernel_rfl
theorem TF.int_57 : intB PG 57 = some .u64 := by kernel_rfl
theorem TF.isStr_9 : isStr PG 9 = true := by kernel_rfl
theorem TF.mixed : PG.follows .mixedOrders = true := by kernel_rfl
theorem TF.places_135 : strPlaces PG 135 = some [(0, 4), (4, 1)] := by kernel_rfl
theorem TF.places_138 : strPlaces PG 138 = some [(0, 1), (1, 1), (2, 1), (3, 1)] := by kernel_rfl
theorem TF.places_146 : strPlaces PG 146 = some [(0, 1)] := by kernel_rfl
theorem TF.places_151 : strPlaces PG 151 = some [(0, 1), (1, 1), (2, 1)] := by kernel_rfl
theorem TF.places_178 : strPlaces PG 178 = some [(0, 1), (1, 1), (2, 1), (3, 1)] := by kernel_rfl
theorem TF.places_222 : strPlaces PG 222 = some [(0, 1), (1, 1)] := by kernel_rfl
theorem TF.places_51 : strPlaces PG 51 = some [(0, 1), (1, 1)] := by kernel_rfl
theorem TF.ptr_136 : ptrB PG 136 = true := by kernel_rfl
theorem TF.ptr_202 : ptrB PG 202 = true := by kernel_rfl
theorem TF.ptr_47 : ptrB PG 47 = true := by kernel_rfl
theorem TF.ptr_49 : ptrB PG 49 = true := by kernel_rfl
theorem TF.sl_133 : slT PG 133 = true := by kernel_rfl
theorem TF.sl_184 : slT PG 184 = true := by kernel_rfl
theorem TF.sl_45 : slT PG 45 = true := by kernel_rfl
theorem TF.slc_133 : slcB PG 133 = some (151, 3, 32) := by kernel_rfl
theorem TF.slc_144 : slcB PG 144 = some (5, 1, 1) := by kernel_rfl
theorem TF.slc_184 : slcB PG 184 = some (3, 1, 8) := by kernel_rfl
theorem TF.slc_45 : slcB PG 45 = some (9, 1, 16) := by kernel_rfl
theorem TF.sz_133 : szB PG 133 = some 1 := by kernel_rfl
theorem TF.sz_136 : szB PG 136 = some 1 := by kernel_rfl
theorem TF.sz_144 : szB PG 144 = some 1 := by kernel_rfl
theorem TF.sz_151 : szB PG 151 = some 3 := by kernel_rfl
theorem TF.sz_3 : szB PG 3 = some 1 := by kernel_rfl
theorem TF.sz_4 : szB PG 4 = some 1 := by kernel_rfl
theorem TF.sz_45 : szB PG 45 = some 1 := by kernel_rfl
theorem TF.sz_51 : szB PG 51 = some 2 := by kernel_rfl
theorem TF.sz_9 : szB PG 9 = some 1 := by kernel_rfl
theorem TF.zero_135 : zeroB PG 135 = some [(Value.string ByteArray.empty), (Value.string ByteArray.empty), (Value.string ByteArray.empty), (Value.string ByteArray.empty), (Value.slice none 0 0)] := by kernel_rfl
theorem TF.zero_138 : zeroB PG 138 = some [(Value.pointer none), (Value.pointer none), (Value.int .i64 (0)), (Value.bool false)] := by kernel_rfl
theorem TF.zero_146 : zeroB PG 146 = some [(Value.slice none 0 0)] := by kernel_rfl
theorem TF.zero_151 : zeroB PG 151 = some [(Value.int .i64 (0)), (Value.bool false), (Value.string ByteArray.empty)] := by kernel_rfl
theorem TF.zero_178 : zeroB PG 178 = some [(Value.pointer none), (Value.int .i64 (0)), (Value.int .i64 (0)), (Value.bool false)] := by kernel_rfl
theorem TF.zero_222 : zeroB PG 222 = some [(Value.string ByteArray.empty), (Value.bool false)] := by kernel_rfl
theorem TF.zero_3 : zeroB PG 3 = some [(Value.int .i64 (0))] := by kernel_rfl
theorem TF.zero_5 : zeroB PG 5 = some [(Value.int .u8 (0))] := by kernel_rfl
theorem TF.zero_51 : zeroB PG 51 = some [(Value.string ByteArray.empty), (Value.slice none 0 0)] := by kernel_rfl
theorem TF.zero_9 : zeroB PG 9 = some [(Value.string ByteArray.empty)] := by kernel_rfl
abbrev FN.countermandlaw05_VaultSettles : FuncId := 4
abbrev FN.countermandlaw05_VaultOpens : FuncId := 5
abbrev FN.countermandlaw05_VaultEpochs : FuncId := 6
abbrev FN.countermandlaw05_VaultFull : FuncId := 7
abbrev FN.countermandlaw05_VaultNil : FuncId := 8
abbrev FN.countermandlaw05_VaultTwice : FuncId := 9
abbrev FN.countermandlaw05_alive : FuncId := 24
abbrev FN.countermandlaw05_great : FuncId := 25
abbrev FN.disk_New : FuncId := 26
abbrev FN.vault_Open : FuncId := 27
abbrev FN.vault_Vault_Settle : FuncId := 28
abbrev FN.vault_Vault_Append : FuncId := 29
abbrev FN.vault_Vault_Force : FuncId := 30
abbrev FN.countermandref05_Image : FuncId := 31
abbrev FN.disk_Disk_Reset : FuncId := 32
abbrev FN.disk_Disk_Sync : FuncId := 33
abbrev FN.disk_Disk_Append : FuncId := 34
abbrev FN.disk_Disk_Crash : FuncId := 35
abbrev FN.countermandref05_Same : FuncId := 36
abbrev FN.countermandref05_Found : FuncId := 37
abbrev FN.vault_Vault_Epoch : FuncId := 38
abbrev FN.disk_Disk_Read : FuncId := 39
abbrev FN.disk_Disk_Waits : FuncId := 40
abbrev FN.vault_Vault_Size : FuncId := 41
abbrev FN.wal_Open : FuncId := 70
abbrev FN.vault_look : FuncId := 71
abbrev FN.stylus_Stylus_Nat : FuncId := 72
abbrev FN.stylus_Stylus_Raw : FuncId := 73
abbrev FN.stylus_Stylus_Bytes : FuncId := 74
abbrev FN.wal_Log_Area : FuncId := 75
abbrev FN.wal_Log_Clear : FuncId := 76
abbrev FN.wal_Log_Force : FuncId := 77
abbrev FN.wal_Log_Append : FuncId := 78
abbrev FN.countermandref02_Close : FuncId := 79
abbrev FN.countermandref01_Nat : FuncId := 80
abbrev FN.disk_good : FuncId := 81
abbrev FN.disk_Disk_land : FuncId := 82
abbrev FN.countermandref05_Told : FuncId := 83
abbrev FN.wal_Log_Size : FuncId := 84
abbrev FN.wafer_Whole : FuncId := 106
abbrev FN.wal_Log_All : FuncId := 107
abbrev FN.vault_first : FuncId := 108
abbrev FN.wafer_Close : FuncId := 109
abbrev FN.countermandref02_Sum : FuncId := 110
abbrev FN.countermandref01_Wide : FuncId := 111
abbrev FN.countermandref02_All : FuncId := 112
abbrev FN.countermandref01_Taken : FuncId := 113
abbrev FN.wafer_All : FuncId := 128
abbrev FN.wal_Log_All_1 : FuncId := 129
abbrev FN.stylus_Of : FuncId := 130
abbrev FN.stylus_Reader_Nat : FuncId := 131
abbrev FN.stylus_Reader_Raw : FuncId := 132
abbrev FN.stylus_Reader_Left : FuncId := 133
abbrev FN.stylus_Reader_Bad : FuncId := 134
abbrev FN.wafer_foots : FuncId := 135
abbrev FN.wafer_Sum : FuncId := 136
abbrev FN.countermandref02_Open : FuncId := 137
abbrev FN.wafer_All_1 : FuncId := 149
abbrev FN.wafer_Open : FuncId := 150
abbrev FN.stylus_Reader_word : FuncId := 151
abbrev FN.stylus_Reader_Spoil : FuncId := 152
theorem TG.countermandlaw05_VaultSettles : Goes PG FN.countermandlaw05_VaultSettles := TF.goes_4
theorem TG.countermandlaw05_VaultOpens : Goes PG FN.countermandlaw05_VaultOpens := TF.goes_5
theorem TG.countermandlaw05_VaultEpochs : Goes PG FN.countermandlaw05_VaultEpochs := TF.goes_6
theorem TG.countermandlaw05_VaultFull : Goes PG FN.countermandlaw05_VaultFull := TF.goes_7
theorem TG.countermandlaw05_VaultNil : Goes PG FN.countermandlaw05_VaultNil := TF.goes_8
theorem TG.countermandlaw05_VaultTwice : Goes PG FN.countermandlaw05_VaultTwice := TF.goes_9
theorem TG.countermandlaw05_alive : Goes PG FN.countermandlaw05_alive := TF.goes_24
theorem TG.countermandlaw05_great : Goes PG FN.countermandlaw05_great := TF.goes_25
theorem TG.disk_New : Goes PG FN.disk_New := TF.goes_26
theorem TG.vault_Open : Goes PG FN.vault_Open := TF.goes_27
theorem TG.vault_Vault_Settle : Goes PG FN.vault_Vault_Settle := TF.goes_28
theorem TG.vault_Vault_Append : Goes PG FN.vault_Vault_Append := TF.goes_29
theorem TG.vault_Vault_Force : Goes PG FN.vault_Vault_Force := TF.goes_30
theorem TG.countermandref05_Image : Goes PG FN.countermandref05_Image := TF.goes_31
theorem TG.disk_Disk_Reset : Goes PG FN.disk_Disk_Reset := TF.goes_32
theorem TG.disk_Disk_Sync : Goes PG FN.disk_Disk_Sync := TF.goes_33
theorem TG.disk_Disk_Append : Goes PG FN.disk_Disk_Append := TF.goes_34
theorem TG.disk_Disk_Crash : Goes PG FN.disk_Disk_Crash := TF.goes_35
theorem TG.countermandref05_Same : Goes PG FN.countermandref05_Same := TF.goes_36
theorem TG.countermandref05_Found : Goes PG FN.countermandref05_Found := TF.goes_37
theorem TG.vault_Vault_Epoch : Goes PG FN.vault_Vault_Epoch := TF.goes_38
theorem TG.disk_Disk_Read : Goes PG FN.disk_Disk_Read := TF.goes_39
theorem TG.disk_Disk_Waits : Goes PG FN.disk_Disk_Waits := TF.goes_40
theorem TG.vault_Vault_Size : Goes PG FN.vault_Vault_Size := TF.goes_41
theorem TG.wal_Open : Goes PG FN.wal_Open := TF.goes_70
theorem TG.vault_look : Goes PG FN.vault_look := TF.goes_71
theorem TG.stylus_Stylus_Nat : Goes PG FN.stylus_Stylus_Nat := TF.goes_72
theorem TG.stylus_Stylus_Raw : Goes PG FN.stylus_Stylus_Raw := TF.goes_73
theorem TG.stylus_Stylus_Bytes : Goes PG FN.stylus_Stylus_Bytes := TF.goes_74
theorem TG.wal_Log_Area : Goes PG FN.wal_Log_Area := TF.goes_75
theorem TG.wal_Log_Clear : Goes PG FN.wal_Log_Clear := TF.goes_76
theorem TG.wal_Log_Force : Goes PG FN.wal_Log_Force := TF.goes_77
theorem TG.wal_Log_Append : Goes PG FN.wal_Log_Append := TF.goes_78
theorem TG.countermandref02_Close : Goes PG FN.countermandref02_Close := TF.goes_79
theorem TG.countermandref01_Nat : Goes PG FN.countermandref01_Nat := TF.goes_80
theorem TG.disk_good : Goes PG FN.disk_good := TF.goes_81
theorem TG.disk_Disk_land : Goes PG FN.disk_Disk_land := TF.goes_82
theorem TG.countermandref05_Told : Goes PG FN.countermandref05_Told := TF.goes_83
theorem TG.wal_Log_Size : Goes PG FN.wal_Log_Size := TF.goes_84
theorem TG.wafer_Whole : Goes PG FN.wafer_Whole := TF.goes_106
theorem TG.wal_Log_All : Goes PG FN.wal_Log_All := TF.goes_107
theorem TG.vault_first : Goes PG FN.vault_first := TF.goes_108
theorem TG.wafer_Close : Goes PG FN.wafer_Close := TF.goes_109
theorem TG.countermandref02_Sum : Goes PG FN.countermandref02_Sum := TF.goes_110
theorem TG.countermandref01_Wide : Goes PG FN.countermandref01_Wide := TF.goes_111
theorem TG.countermandref02_All : Goes PG FN.countermandref02_All := TF.goes_112
theorem TG.countermandref01_Taken : Goes PG FN.countermandref01_Taken := TF.goes_113
theorem TG.wafer_All : Goes PG FN.wafer_All := TF.goes_128
theorem TG.wal_Log_All_1 : Goes PG FN.wal_Log_All_1 := TF.goes_129
theorem TG.stylus_Of : Goes PG FN.stylus_Of := TF.goes_130
theorem TG.stylus_Reader_Nat : Goes PG FN.stylus_Reader_Nat := TF.goes_131
theorem TG.stylus_Reader_Raw : Goes PG FN.stylus_Reader_Raw := TF.goes_132
theorem TG.stylus_Reader_Left : Goes PG FN.stylus_Reader_Left := TF.goes_133
theorem TG.stylus_Reader_Bad : Goes PG FN.stylus_Reader_Bad := TF.goes_134
theorem TG.wafer_foots : Goes PG FN.wafer_foots := TF.goes_135
theorem TG.wafer_Sum : Goes PG FN.wafer_Sum := TF.goes_136
theorem TG.countermandref02_Open : Goes PG FN.countermandref02_Open := TF.goes_137
theorem TG.wafer_All_1 : Goes PG FN.wafer_All_1 := TF.goes_149
theorem TG.wafer_Open : Goes PG FN.wafer_Open := TF.goes_150
theorem TG.stylus_Reader_word : Goes PG FN.stylus_Reader_word := TF.goes_151
theorem TG.stylus_Reader_Spoil : Goes PG FN.stylus_Reader_Spoil := TF.goes_152
def C_countermandlaw05_VaultSettles (B : RO) (s1 : ByteArray) (a2 : Option Addr) (n3 : Nat) (c4 : Nat) (s5 : ByteArray) (i6 : Int) (i7 : Int) (h : Heap) (Q : Bool → Heap → Prop) : Prop :=
  Spec PG B 4 #[(Value.string s1), (Value.slice a2 n3 c4), (Value.string s5), (Value.int .i64 (i6)), (Value.int .i64 (i7))] h (fun v h' => ∃ b8 : Bool, v = (Value.bool b8) ∧ Q b8 h')
def C_countermandlaw05_VaultOpens (B : RO) (s1 : ByteArray) (s2 : ByteArray) (h : Heap) (Q : Bool → Heap → Prop) : Prop :=
  Spec PG B 5 #[(Value.string s1), (Value.string s2)] h (fun v h' => ∃ b3 : Bool, v = (Value.bool b3) ∧ Q b3 h')
def C_countermandlaw05_VaultEpochs (B : RO) (a1 : Option Addr) (n2 : Nat) (c3 : Nat) (s4 : ByteArray) (h : Heap) (Q : Bool → Heap → Prop) : Prop :=
  Spec PG B 6 #[(Value.slice a1 n2 c3), (Value.string s4)] h (fun v h' => ∃ b5 : Bool, v = (Value.bool b5) ∧ Q b5 h')
def C_countermandlaw05_VaultFull (B : RO) (s1 : ByteArray) (s2 : ByteArray) (i3 : Int) (h : Heap) (Q : Bool → Heap → Prop) : Prop :=
  Spec PG B 7 #[(Value.string s1), (Value.string s2), (Value.int .i64 (i3))] h (fun v h' => ∃ b4 : Bool, v = (Value.bool b4) ∧ Q b4 h')
def C_countermandlaw05_VaultNil (B : RO) (s1 : ByteArray) (h : Heap) (Q : Bool → Heap → Prop) : Prop :=
  Spec PG B 8 #[(Value.string s1)] h (fun v h' => ∃ b2 : Bool, v = (Value.bool b2) ∧ Q b2 h')
def C_countermandlaw05_VaultTwice (B : RO) (s1 : ByteArray) (s2 : ByteArray) (h : Heap) (Q : Bool → Heap → Prop) : Prop :=
  Spec PG B 9 #[(Value.string s1), (Value.string s2)] h (fun v h' => ∃ b3 : Bool, v = (Value.bool b3) ∧ Q b3 h')
def C_countermandlaw05_alive (B : RO) (h : Heap) (Q : Bool → Heap → Prop) : Prop :=
  Spec PG B 24 #[] h (fun v h' => ∃ b1 : Bool, v = (Value.bool b1) ∧ Q b1 h')
def C_countermandlaw05_great (B : RO) (a1 : Option Addr) (n2 : Nat) (c3 : Nat) (h : Heap) (Q : Bool → Heap → Prop) : Prop :=
  Spec PG B 25 #[(Value.slice a1 n2 c3)] h (fun v h' => ∃ b4 : Bool, v = (Value.bool b4) ∧ Q b4 h')
def C_disk_New (B : RO) (h : Heap) (Q : Option Addr → Heap → Prop) : Prop :=
  Spec PG B 26 #[] h (fun v h' => ∃ p1 : Option Addr, v = (Value.pointer p1) ∧ Q p1 h')
def C_vault_Open (B : RO) (p1 : Option Addr) (h : Heap) (Q : Option Addr → ByteArray → Option Addr → Nat → Nat → Int → Heap → Prop) : Prop :=
  Spec PG B 27 #[(Value.pointer p1)] h (fun v h' => ∃ p2 : Option Addr, ∃ s3 : ByteArray, ∃ a4 : Option Addr, ∃ n5 : Nat, ∃ c6 : Nat, ∃ i7 : Int, v = Value.tuple #[(Value.pointer p2), (Value.agg #[(Value.string s3), (Value.slice a4 n5 c6)]), (Value.int .i64 (i7))] ∧ Q p2 s3 a4 n5 c6 i7 h')
def C_vault_Vault_Settle (B : RO) (p1 : Option Addr) (s2 : ByteArray) (h : Heap) (Q : Int → Heap → Prop) : Prop :=
  Spec PG B 28 #[(Value.pointer p1), (Value.string s2)] h (fun v h' => ∃ i3 : Int, v = (Value.int .i64 (i3)) ∧ Q i3 h')
def C_vault_Vault_Append (B : RO) (p1 : Option Addr) (s2 : ByteArray) (h : Heap) (Q : Int → Heap → Prop) : Prop :=
  Spec PG B 29 #[(Value.pointer p1), (Value.string s2)] h (fun v h' => ∃ i3 : Int, v = (Value.int .i64 (i3)) ∧ Q i3 h')
def C_vault_Vault_Force (B : RO) (p1 : Option Addr) (h : Heap) (Q : Heap → Prop) : Prop :=
  Spec PG B 30 #[(Value.pointer p1)] h (fun v h' => v = Value.tuple #[] ∧ Q  h')
def C_countermandref05_Image (B : RO) (i1 : Int) (s2 : ByteArray) (h : Heap) (Q : ByteArray → Heap → Prop) : Prop :=
  Spec PG B 31 #[(Value.int .i64 (i1)), (Value.string s2)] h (fun v h' => ∃ s3 : ByteArray, v = (Value.string s3) ∧ Q s3 h')
def C_disk_Disk_Reset (B : RO) (p1 : Option Addr) (i2 : Int) (h : Heap) (Q : Int → Heap → Prop) : Prop :=
  Spec PG B 32 #[(Value.pointer p1), (Value.int .i64 (i2))] h (fun v h' => ∃ i3 : Int, v = (Value.int .i64 (i3)) ∧ Q i3 h')
def C_disk_Disk_Sync (B : RO) (p1 : Option Addr) (h : Heap) (Q : Heap → Prop) : Prop :=
  Spec PG B 33 #[(Value.pointer p1)] h (fun v h' => v = Value.tuple #[] ∧ Q  h')
def C_disk_Disk_Append (B : RO) (p1 : Option Addr) (i2 : Int) (s3 : ByteArray) (h : Heap) (Q : Int → Heap → Prop) : Prop :=
  Spec PG B 34 #[(Value.pointer p1), (Value.int .i64 (i2)), (Value.string s3)] h (fun v h' => ∃ i4 : Int, v = (Value.int .i64 (i4)) ∧ Q i4 h')
def C_disk_Disk_Crash (B : RO) (p1 : Option Addr) (i2 : Int) (i3 : Int) (h : Heap) (Q : Heap → Prop) : Prop :=
  Spec PG B 35 #[(Value.pointer p1), (Value.int .i64 (i2)), (Value.int .i64 (i3))] h (fun v h' => v = Value.tuple #[] ∧ Q  h')
def C_countermandref05_Same (B : RO) (a1 : Option Addr) (n2 : Nat) (c3 : Nat) (a4 : Option Addr) (n5 : Nat) (c6 : Nat) (h : Heap) (Q : Bool → Heap → Prop) : Prop :=
  Spec PG B 36 #[(Value.slice a1 n2 c3), (Value.slice a4 n5 c6)] h (fun v h' => ∃ b7 : Bool, v = (Value.bool b7) ∧ Q b7 h')
def C_countermandref05_Found (B : RO) (s1 : ByteArray) (s2 : ByteArray) (h : Heap) (Q : Int → ByteArray → Option Addr → Nat → Nat → Heap → Prop) : Prop :=
  Spec PG B 37 #[(Value.string s1), (Value.string s2)] h (fun v h' => ∃ i3 : Int, ∃ s4 : ByteArray, ∃ a5 : Option Addr, ∃ n6 : Nat, ∃ c7 : Nat, v = Value.tuple #[(Value.int .i64 (i3)), (Value.string s4), (Value.slice a5 n6 c7)] ∧ Q i3 s4 a5 n6 c7 h')
def C_vault_Vault_Epoch (B : RO) (p1 : Option Addr) (h : Heap) (Q : Int → Heap → Prop) : Prop :=
  Spec PG B 38 #[(Value.pointer p1)] h (fun v h' => ∃ i2 : Int, v = (Value.int .i64 (i2)) ∧ Q i2 h')
def C_disk_Disk_Read (B : RO) (p1 : Option Addr) (i2 : Int) (h : Heap) (Q : ByteArray → Heap → Prop) : Prop :=
  Spec PG B 39 #[(Value.pointer p1), (Value.int .i64 (i2))] h (fun v h' => ∃ s3 : ByteArray, v = (Value.string s3) ∧ Q s3 h')
def C_disk_Disk_Waits (B : RO) (p1 : Option Addr) (h : Heap) (Q : Int → Heap → Prop) : Prop :=
  Spec PG B 40 #[(Value.pointer p1)] h (fun v h' => ∃ i2 : Int, v = (Value.int .i64 (i2)) ∧ Q i2 h')
def C_vault_Vault_Size (B : RO) (p1 : Option Addr) (h : Heap) (Q : Int → Heap → Prop) : Prop :=
  Spec PG B 41 #[(Value.pointer p1)] h (fun v h' => ∃ i2 : Int, v = (Value.int .i64 (i2)) ∧ Q i2 h')
def C_wal_Open (B : RO) (p1 : Option Addr) (i2 : Int) (h : Heap) (Q : Option Addr → Int → Heap → Prop) : Prop :=
  Spec PG B 70 #[(Value.pointer p1), (Value.int .i64 (i2))] h (fun v h' => ∃ p3 : Option Addr, ∃ i4 : Int, v = Value.tuple #[(Value.pointer p3), (Value.int .i64 (i4))] ∧ Q p3 i4 h')
def C_vault_look (B : RO) (p1 : Option Addr) (h : Heap) (Q : Int → ByteArray → Option Addr → Nat → Nat → Heap → Prop) : Prop :=
  Spec PG B 71 #[(Value.pointer p1)] h (fun v h' => ∃ i2 : Int, ∃ s3 : ByteArray, ∃ a4 : Option Addr, ∃ n5 : Nat, ∃ c6 : Nat, v = Value.tuple #[(Value.int .i64 (i2)), (Value.agg #[(Value.string s3), (Value.slice a4 n5 c6)])] ∧ Q i2 s3 a4 n5 c6 h')
def C_stylus_Stylus_Nat (B : RO) (p1 : Option Addr) (a2 : Option Addr) (n3 : Nat) (c4 : Nat) (h : Heap) (Q : Heap → Prop) : Prop :=
  Spec PG B 72 #[(Value.pointer p1), (Value.slice a2 n3 c4)] h (fun v h' => v = Value.tuple #[] ∧ Q  h')
def C_stylus_Stylus_Raw (B : RO) (p1 : Option Addr) (s2 : ByteArray) (h : Heap) (Q : Heap → Prop) : Prop :=
  Spec PG B 73 #[(Value.pointer p1), (Value.string s2)] h (fun v h' => v = Value.tuple #[] ∧ Q  h')
def C_stylus_Stylus_Bytes (B : RO) (p1 : Option Addr) (h : Heap) (Q : ByteArray → Heap → Prop) : Prop :=
  Spec PG B 74 #[(Value.pointer p1)] h (fun v h' => ∃ s2 : ByteArray, v = (Value.string s2) ∧ Q s2 h')
def C_wal_Log_Area (B : RO) (p1 : Option Addr) (h : Heap) (Q : Int → Heap → Prop) : Prop :=
  Spec PG B 75 #[(Value.pointer p1)] h (fun v h' => ∃ i2 : Int, v = (Value.int .i64 (i2)) ∧ Q i2 h')
def C_wal_Log_Clear (B : RO) (p1 : Option Addr) (h : Heap) (Q : Heap → Prop) : Prop :=
  Spec PG B 76 #[(Value.pointer p1)] h (fun v h' => v = Value.tuple #[] ∧ Q  h')
def C_wal_Log_Force (B : RO) (p1 : Option Addr) (h : Heap) (Q : Heap → Prop) : Prop :=
  Spec PG B 77 #[(Value.pointer p1)] h (fun v h' => v = Value.tuple #[] ∧ Q  h')
def C_wal_Log_Append (B : RO) (p1 : Option Addr) (s2 : ByteArray) (h : Heap) (Q : Int → Heap → Prop) : Prop :=
  Spec PG B 78 #[(Value.pointer p1), (Value.string s2)] h (fun v h' => ∃ i3 : Int, v = (Value.int .i64 (i3)) ∧ Q i3 h')
def C_countermandref02_Close (B : RO) (s1 : ByteArray) (h : Heap) (Q : ByteArray → Heap → Prop) : Prop :=
  Spec PG B 79 #[(Value.string s1)] h (fun v h' => ∃ s2 : ByteArray, v = (Value.string s2) ∧ Q s2 h')
def C_countermandref01_Nat (B : RO) (i1 : Int) (h : Heap) (Q : ByteArray → Heap → Prop) : Prop :=
  Spec PG B 80 #[(Value.int .i64 (i1))] h (fun v h' => ∃ s2 : ByteArray, v = (Value.string s2) ∧ Q s2 h')
def C_disk_good (B : RO) (i1 : Int) (h : Heap) (Q : Bool → Heap → Prop) : Prop :=
  Spec PG B 81 #[(Value.int .i64 (i1))] h (fun v h' => ∃ b2 : Bool, v = (Value.bool b2) ∧ Q b2 h')
def C_disk_Disk_land (B : RO) (p1 : Option Addr) (i2 : Int) (b3 : Bool) (s4 : ByteArray) (h : Heap) (Q : Heap → Prop) : Prop :=
  Spec PG B 82 #[(Value.pointer p1), (Value.agg #[(Value.int .i64 (i2)), (Value.bool b3), (Value.string s4)])] h (fun v h' => v = Value.tuple #[] ∧ Q  h')
def C_countermandref05_Told (B : RO) (s1 : ByteArray) (h : Heap) (Q : Int → ByteArray → Option Addr → Nat → Nat → Heap → Prop) : Prop :=
  Spec PG B 83 #[(Value.string s1)] h (fun v h' => ∃ i2 : Int, ∃ s3 : ByteArray, ∃ a4 : Option Addr, ∃ n5 : Nat, ∃ c6 : Nat, v = Value.tuple #[(Value.int .i64 (i2)), (Value.string s3), (Value.slice a4 n5 c6)] ∧ Q i2 s3 a4 n5 c6 h')
def C_wal_Log_Size (B : RO) (p1 : Option Addr) (h : Heap) (Q : Int → Heap → Prop) : Prop :=
  Spec PG B 84 #[(Value.pointer p1)] h (fun v h' => ∃ i2 : Int, v = (Value.int .i64 (i2)) ∧ Q i2 h')
def C_wafer_Whole (B : RO) (s1 : ByteArray) (h : Heap) (Q : Int → Heap → Prop) : Prop :=
  Spec PG B 106 #[(Value.string s1)] h (fun v h' => ∃ i2 : Int, v = (Value.int .i64 (i2)) ∧ Q i2 h')
def C_wal_Log_All (B : RO) (p1 : Option Addr) (h : Heap) (Q : Value → Heap → Prop) : Prop :=
  Spec PG B 107 #[(Value.pointer p1)] h (fun v h' => ∃ v2 : Value, v = v2 ∧ Q v2 h')
def C_vault_first (B : RO) (s1 : ByteArray) (h : Heap) (Q : Int → ByteArray → Bool → Heap → Prop) : Prop :=
  Spec PG B 108 #[(Value.string s1)] h (fun v h' => ∃ i2 : Int, ∃ s3 : ByteArray, ∃ b4 : Bool, v = Value.tuple #[(Value.int .i64 (i2)), (Value.string s3), (Value.bool b4)] ∧ Q i2 s3 b4 h')
def C_wafer_Close (B : RO) (s1 : ByteArray) (h : Heap) (Q : ByteArray → Heap → Prop) : Prop :=
  Spec PG B 109 #[(Value.string s1)] h (fun v h' => ∃ s2 : ByteArray, v = (Value.string s2) ∧ Q s2 h')
def C_countermandref02_Sum (B : RO) (s1 : ByteArray) (h : Heap) (Q : Int → Heap → Prop) : Prop :=
  Spec PG B 110 #[(Value.string s1)] h (fun v h' => ∃ i2 : Int, v = (Value.int .u32 (i2)) ∧ Q i2 h')
def C_countermandref01_Wide (B : RO) (i1 : Int) (h : Heap) (Q : ByteArray → Heap → Prop) : Prop :=
  Spec PG B 111 #[(Value.int .u64 (i1))] h (fun v h' => ∃ s2 : ByteArray, v = (Value.string s2) ∧ Q s2 h')
def C_countermandref02_All (B : RO) (s1 : ByteArray) (h : Heap) (Q : Option Addr → Nat → Nat → Heap → Prop) : Prop :=
  Spec PG B 112 #[(Value.string s1)] h (fun v h' => ∃ a2 : Option Addr, ∃ n3 : Nat, ∃ c4 : Nat, v = (Value.slice a2 n3 c4) ∧ Q a2 n3 c4 h')
def C_countermandref01_Taken (B : RO) (s1 : ByteArray) (h : Heap) (Q : Int → Int → Heap → Prop) : Prop :=
  Spec PG B 113 #[(Value.string s1)] h (fun v h' => ∃ i2 : Int, ∃ i3 : Int, v = Value.tuple #[(Value.int .u64 (i2)), (Value.int .i64 (i3))] ∧ Q i2 i3 h')
def C_wafer_All (B : RO) (s1 : ByteArray) (h : Heap) (Q : Value → Heap → Prop) : Prop :=
  Spec PG B 128 #[(Value.string s1)] h (fun v h' => ∃ v2 : Value, v = v2 ∧ Q v2 h')
def C_wal_Log_All_1 (B : RO) (v1 : Value) (A2 : Addr) (h : Heap) (Q : Heap → Prop) : Prop :=
  Spec PG B 129 #[v1, (Value.pointer (some A2))] h (fun v h' => v = Value.tuple #[] ∧ Q  h')
def C_stylus_Of (B : RO) (s1 : ByteArray) (h : Heap) (Q : Option Addr → Heap → Prop) : Prop :=
  Spec PG B 130 #[(Value.string s1)] h (fun v h' => ∃ p2 : Option Addr, v = (Value.pointer p2) ∧ Q p2 h')
def C_stylus_Reader_Nat (B : RO) (p1 : Option Addr) (i2 : Int) (h : Heap) (Q : Int → Heap → Prop) : Prop :=
  Spec PG B 131 #[(Value.pointer p1), (Value.int .i64 (i2))] h (fun v h' => ∃ i3 : Int, v = (Value.int .i64 (i3)) ∧ Q i3 h')
def C_stylus_Reader_Raw (B : RO) (p1 : Option Addr) (i2 : Int) (h : Heap) (Q : ByteArray → Heap → Prop) : Prop :=
  Spec PG B 132 #[(Value.pointer p1), (Value.int .i64 (i2))] h (fun v h' => ∃ s3 : ByteArray, v = (Value.string s3) ∧ Q s3 h')
def C_stylus_Reader_Left (B : RO) (p1 : Option Addr) (h : Heap) (Q : Int → Heap → Prop) : Prop :=
  Spec PG B 133 #[(Value.pointer p1)] h (fun v h' => ∃ i2 : Int, v = (Value.int .i64 (i2)) ∧ Q i2 h')
def C_stylus_Reader_Bad (B : RO) (p1 : Option Addr) (h : Heap) (Q : Bool → Heap → Prop) : Prop :=
  Spec PG B 134 #[(Value.pointer p1)] h (fun v h' => ∃ b2 : Bool, v = (Value.bool b2) ∧ Q b2 h')
def C_wafer_foots (B : RO) (i1 : Int) (h : Heap) (Q : ByteArray → Heap → Prop) : Prop :=
  Spec PG B 135 #[(Value.int .u32 (i1))] h (fun v h' => ∃ s2 : ByteArray, v = (Value.string s2) ∧ Q s2 h')
def C_wafer_Sum (B : RO) (s1 : ByteArray) (h : Heap) (Q : Int → Heap → Prop) : Prop :=
  Spec PG B 136 #[(Value.string s1)] h (fun v h' => ∃ i2 : Int, v = (Value.int .u32 (i2)) ∧ Q i2 h')
def C_countermandref02_Open (B : RO) (s1 : ByteArray) (h : Heap) (Q : ByteArray → Int → Heap → Prop) : Prop :=
  Spec PG B 137 #[(Value.string s1)] h (fun v h' => ∃ s2 : ByteArray, ∃ i3 : Int, v = Value.tuple #[(Value.string s2), (Value.int .i64 (i3))] ∧ Q s2 i3 h')
def C_wafer_All_1 (B : RO) (v1 : Value) (A2 : Addr) (h : Heap) (Q : Heap → Prop) : Prop :=
  Spec PG B 149 #[v1, (Value.pointer (some A2))] h (fun v h' => v = Value.tuple #[] ∧ Q  h')
def C_wafer_Open (B : RO) (s1 : ByteArray) (h : Heap) (Q : ByteArray → Int → Heap → Prop) : Prop :=
  Spec PG B 150 #[(Value.string s1)] h (fun v h' => ∃ s2 : ByteArray, ∃ i3 : Int, v = Value.tuple #[(Value.string s2), (Value.int .i64 (i3))] ∧ Q s2 i3 h')
def C_stylus_Reader_word (B : RO) (p1 : Option Addr) (h : Heap) (Q : Int → Heap → Prop) : Prop :=
  Spec PG B 151 #[(Value.pointer p1)] h (fun v h' => ∃ i2 : Int, v = (Value.int .u64 (i2)) ∧ Q i2 h')
def C_stylus_Reader_Spoil (B : RO) (p1 : Option Addr) (h : Heap) (Q : Heap → Prop) : Prop :=
  Spec PG B 152 #[(Value.pointer p1)] h (fun v h' => v = Value.tuple #[] ∧ Q  h')
end Go.Proofs.Ytcncdfmnpmmikaa.H
