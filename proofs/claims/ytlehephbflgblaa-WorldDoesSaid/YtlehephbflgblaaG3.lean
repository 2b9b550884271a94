/- What the law's proof stands on, part 3. No condition. -/
import Derived.Test.YtlehephbflgblaaProg
import Derived.KernelRfl
import Derived.Test.YtlehephbflgblaaG2
namespace Go.Proofs.Ytlehephbflgblaa.H
open Go
set_option linter.unusedVariables false
set_option maxRecDepth 100000
set_option maxHeartbeats 4000000
noncomputable abbrev PG : Program := Go.Proofs.Try.prog
abbrev TY.int : TypeId := 3
abbrev TY.bool : TypeId := 4
abbrev TY.uint8 : TypeId := 5
abbrev TY.string : TypeId := 9
abbrev TY.s_string : TypeId := 35
abbrev TY.p_tome_Tome : TypeId := 41
abbrev TY.attempt_View : TypeId := 44
abbrev TY.a_4_int : TypeId := 47
abbrev TY.s_world_Note : TypeId := 49
abbrev TY.s_countermandlaw21_Call : TypeId := 53
abbrev TY.a_3_string : TypeId := 54
abbrev TY.countermandlaw21_Call : TypeId := 56
abbrev TY.acts_Open : TypeId := 59
abbrev TY.acts_Out : TypeId := 62
abbrev TY.s_uint8 : TypeId := 63
abbrev TY.world_Note : TypeId := 66
abbrev TY.p_draft_Draft_file_File : TypeId := 69
abbrev TY.draft_Draft_file_File : TypeId := 72
abbrev TY.s_disk_change : TypeId := 83
abbrev TY.disk_Disk : TypeId := 85
abbrev TY.disk_change : TypeId := 87
abbrev TY.vault_Found : TypeId := 99
abbrev TY.world_World : TypeId := 109
abbrev TY.file_File : TypeId := 111
abbrev TY.token_Token : TypeId := 126
abbrev TY.p_wal_Log : TypeId := 133
abbrev TY.vault_Vault : TypeId := 135
abbrev TY.s_redo_Change : TypeId := 146
abbrev TY.p_stylus_Stylus : TypeId := 150
abbrev TY.stylus_Stylus : TypeId := 152
abbrev TY.wire_Wire : TypeId := 160
abbrev TY.p_cell_Row_file_File : TypeId := 162
abbrev TY.tome_Tome : TypeId := 164
abbrev TY.wal_Log : TypeId := 171
abbrev TY.stylus_Reader : TypeId := 178
abbrev TY.redo_Change : TypeId := 182
abbrev TY.s_cell_slot_int : TypeId := 186
abbrev TY.cell_Row_int : TypeId := 188
abbrev TY.cell_slot_int : TypeId := 190
abbrev TY.feed_Feed : TypeId := 192
abbrev TY.cell_slot_file_File : TypeId := 196
abbrev TY.s_cell_slot_file_File : TypeId := 197
abbrev TY.cell_Row_file_File : TypeId := 199
abbrev TY.draft_entry_file_File : TypeId := 202
theorem TF.agg_111 : aggB PG 111 = some true := by kernel_rfl
theorem TF.agg_133 : aggB PG 133 = some false := by kernel_rfl
theorem TF.agg_150 : aggB PG 150 = some false := by kernel_rfl
theorem TF.agg_162 : aggB PG 162 = some false := by kernel_rfl
theorem TF.agg_182 : aggB PG 182 = some true := by kernel_rfl
theorem TF.agg_186 : aggB PG 186 = some false := by kernel_rfl
theorem TF.agg_196 : aggB PG 196 = some true := by kernel_rfl
theorem TF.agg_197 : aggB PG 197 = some false := by kernel_rfl
theorem TF.agg_200 : aggB PG 200 = some false := by kernel_rfl
theorem TF.agg_202 : aggB PG 202 = some true := by kernel_rfl
theorem TF.agg_204 : aggB PG 204 = some false := by kernel_rfl
theorem TF.agg_23 : aggB PG 23 = some false := by kernel_rfl
theorem TF.agg_3 : aggB PG 3 = some false := by kernel_rfl
theorem TF.agg_35 : aggB PG 35 = some false := by kernel_rfl
theorem TF.agg_4 : aggB PG 4 = some false := by kernel_rfl
theorem TF.agg_41 : aggB PG 41 = some false := by kernel_rfl
theorem TF.agg_45 : aggB PG 45 = some false := by kernel_rfl
theorem TF.agg_47 : aggB PG 47 = some true := by kernel_rfl
theorem TF.agg_49 : aggB PG 49 = some false := by kernel_rfl
theorem TF.agg_5 : aggB PG 5 = some false := by kernel_rfl
theorem TF.agg_56 : aggB PG 56 = some true := by kernel_rfl
theorem TF.agg_59 : aggB PG 59 = some true := by kernel_rfl
theorem TF.agg_62 : aggB PG 62 = some true := by kernel_rfl
theorem TF.agg_63 : aggB PG 63 = some false := by kernel_rfl
theorem TF.agg_66 : aggB PG 66 = some true := by kernel_rfl
theorem TF.agg_69 : aggB PG 69 = some false := by kernel_rfl
theorem TF.agg_70 : aggB PG 70 = some false := by kernel_rfl
theorem TF.agg_73 : aggB PG 73 = some false := by kernel_rfl
theorem TF.agg_76 : aggB PG 76 = some false := by kernel_rfl
theorem TF.agg_83 : aggB PG 83 = some false := by kernel_rfl
theorem TF.agg_87 : aggB PG 87 = some true := by kernel_rfl
theorem TF.agg_9 : aggB PG 9 = some false := by kernel_rfl
theorem TF.agg_97 : aggB PG 97 = some false := by kernel_rfl
theorem TF.agg_99 : aggB PG 99 = some true := by kernel_rfl
theorem TF.arr_158 : arrB PG 158 = some (3, 124, 3, true) := by kernel_rfl
theorem TF.arr_47 : arrB PG 47 = some (4, 3, 1, false) := by kernel_rfl
theorem TF.arr_54 : arrB PG 54 = some (3, 9, 1, false) := by kernel_rfl
theorem TF.arr_82 : arrB PG 82 = some (2, 81, 2, true) := by kernel_rfl
theorem TF.bool_4 : boolT PG 4 = true := by kernel_rfl
theorem TF.eqg_47 : eqGB PG 47 = false := by kernel_rfl
theorem TF.eqg_66 : eqGB PG 66 = false := by kernel_rfl
theorem TF.flat_47 : flat6B PG 47 = some [.int .i64, .int .i64, .int .i64, .int .i64] := by kernel_rfl
theorem TF.flat_66 : flat6B PG 66 = some [.int .i64, .int .i64] := by kernel_rfl
theorem TF.goes_100 : Goes PG 100 := ⟨Try.f100, Try.func100, by kernel_rfl, by kernel_rfl⟩
theorem TF.goes_101 : Goes PG 101 := ⟨Try.f101, Try.func101, by kernel_rfl, by kernel_rfl⟩
theorem TF.goes_102 : Goes PG 102 := ⟨Try.f102, Try.func102, by kernel_rfl, by kernel_rfl⟩
theorem TF.goes_103 : Goes PG 103 := ⟨Try.f103, Try.func103, by kernel_rfl, by kernel_rfl⟩
theorem TF.goes_105 : Goes PG 105 := ⟨Try.f105, Try.func105, by kernel_rfl, by kernel_rfl⟩
theorem TF.goes_106 : Goes PG 106 := ⟨Try.f106, Try.func106, by kernel_rfl, by kernel_rfl⟩
theorem TF.goes_107 : Goes PG 107 := ⟨Try.f107, Try.func107, by kernel_rfl, by kernel_rfl⟩
theorem TF.goes_12 : Goes PG 12 := ⟨Try.f12, Try.func12, by kernel_rfl, by kernel_rfl⟩
theorem TF.goes_13 : Goes PG 13 := ⟨Try.f13, Try.func13, by kernel_rfl, by kernel_rfl⟩
theorem TF.goes_14 : Goes PG 14 := ⟨Try.f14, Try.func14, by kernel_rfl, by kernel_rfl⟩
theorem TF.goes_15 : Goes PG 15 := ⟨Try.f15, Try.func15, by kernel_rfl, by kernel_rfl⟩
theorem TF.goes_16 : Goes PG 16 := ⟨Try.f16, Try.func16, by kernel_rfl, by kernel_rfl⟩
theorem TF.goes_18 : Goes PG 18 := ⟨Try.f18, Try.func18, by kernel_rfl, by kernel_rfl⟩
theorem TF.goes_19 : Goes PG 19 := ⟨Try.f19, Try.func19, by kernel_rfl, by kernel_rfl⟩
theorem TF.goes_20 : Goes PG 20 := ⟨Try.f20, Try.func20, by kernel_rfl, by kernel_rfl⟩
theorem TF.goes_21 : Goes PG 21 := ⟨Try.f21, Try.func21, by kernel_rfl, by kernel_rfl⟩
theorem TF.goes_22 : Goes PG 22 := ⟨Try.f22, Try.func22, by kernel_rfl, by kernel_rfl⟩
theorem TF.goes_23 : Goes PG 23 := ⟨Try.f23, Try.func23, by kernel_rfl, by kernel_rfl⟩
theorem TF.goes_24 : Goes PG 24 := ⟨Try.f24, Try.func24, by kernel_rfl, by kernel_rfl⟩
theorem TF.goes_25 : Goes PG 25 := ⟨Try.f25, Try.func25, by kernel_rfl, by kernel_rfl⟩
theorem TF.goes_26 : Goes PG 26 := ⟨Try.f26, Try.func26, by kernel_rfl, by kernel_rfl⟩
theorem TF.goes_27 : Goes PG 27 := ⟨Try.f27, Try.func27, by kernel_rfl, by kernel_rfl⟩
theorem TF.goes_28 : Goes PG 28 := ⟨Try.f28, Try.func28, by kernel_rfl, by kernel_rfl⟩
theorem TF.goes_29 : Goes PG 29 := ⟨Try.f29, Try.func29, by kernel_rfl, by kernel_rfl⟩
theorem TF.goes_34 : Goes PG 34 := ⟨Try.f34, Try.func34, by kernel_rfl, by kernel_rfl⟩
theorem TF.goes_35 : Goes PG 35 := ⟨Try.f35, Try.func35, by kernel_rfl, by kernel_rfl⟩
theorem TF.goes_36 : Goes PG 36 := ⟨Try.f36, Try.func36, by kernel_rfl, by kernel_rfl⟩
theorem TF.goes_37 : Goes PG 37 := ⟨Try.f37, Try.func37, by kernel_rfl, by kernel_rfl⟩
theorem TF.goes_38 : Goes PG 38 := ⟨Try.f38, Try.func38, by kernel_rfl, by kernel_rfl⟩
theorem TF.goes_39 : Goes PG 39 := ⟨Try.f39, Try.func39, by kernel_rfl, by kernel_rfl⟩
theorem TF.goes_4 : Goes PG 4 := ⟨Try.f4, Try.func4, by kernel_rfl, by kernel_rfl⟩
theorem TF.goes_40 : Goes PG 40 := ⟨Try.f40, Try.func40, by kernel_rfl, by kernel_rfl⟩
theorem TF.goes_41 : Goes PG 41 := ⟨Try.f41, Try.func41, by kernel_rfl, by kernel_rfl⟩
theorem TF.goes_44 : Goes PG 44 := ⟨Try.f44, Try.func44, by kernel_rfl, by kernel_rfl⟩
theorem TF.goes_45 : Goes PG 45 := ⟨Try.f45, Try.func45, by kernel_rfl, by kernel_rfl⟩
theorem TF.goes_46 : Goes PG 46 := ⟨Try.f46, Try.func46, by kernel_rfl, by kernel_rfl⟩
theorem TF.goes_47 : Goes PG 47 := ⟨Try.f47, Try.func47, by kernel_rfl, by kernel_rfl⟩
theorem TF.goes_48 : Goes PG 48 := ⟨Try.f48, Try.func48, by kernel_rfl, by kernel_rfl⟩
theorem TF.goes_49 : Goes PG 49 := ⟨Try.f49, Try.func49, by kernel_rfl, by kernel_rfl⟩
theorem TF.goes_5 : Goes PG 5 := ⟨Try.f5, Try.func5, by kernel_rfl, by kernel_rfl⟩
theorem TF.goes_50 : Goes PG 50 := ⟨Try.f50, Try.func50, by kernel_rfl, by kernel_rfl⟩
theorem TF.goes_51 : Goes PG 51 := ⟨Try.f51, Try.func51, by kernel_rfl, by kernel_rfl⟩
theorem TF.goes_54 : Goes PG 54 := ⟨Try.f54, Try.func54, by kernel_rfl, by kernel_rfl⟩
theorem TF.goes_55 : Goes PG 55 := ⟨Try.f55, Try.func55, by kernel_rfl, by kernel_rfl⟩
theorem TF.goes_56 : Goes PG 56 := ⟨Try.f56, Try.func56, by kernel_rfl, by kernel_rfl⟩
theorem TF.goes_57 : Goes PG 57 := ⟨Try.f57, Try.func57, by kernel_rfl, by kernel_rfl⟩
theorem TF.goes_58 : Goes PG 58 := ⟨Try.f58, Try.func58, by kernel_rfl, by kernel_rfl⟩
theorem TF.goes_59 : Goes PG 59 := ⟨Try.f59, Try.func59, by kernel_rfl, by kernel_rfl⟩
theorem TF.goes_6 : Goes PG 6 := ⟨Try.f6, Try.func6, by kernel_rfl, by kernel_rfl⟩
theorem TF.goes_60 : Goes PG 60 := ⟨Try.f60, Try.func60, by kernel_rfl, by kernel_rfl⟩
theorem TF.goes_61 : Goes PG 61 := ⟨Try.f61, Try.func61, by kernel_rfl, by kernel_rfl⟩
theorem TF.goes_62 : Goes PG 62 := ⟨Try.f62, Try.func62, by kernel_rfl, by kernel_rfl⟩
theorem TF.goes_63 : Goes PG 63 := ⟨Try.f63, Try.func63, by kernel_rfl, by kernel_rfl⟩
theorem TF.goes_64 : Goes PG 64 := ⟨Try.f64, Try.func64, by kernel_rfl, by kernel_rfl⟩
theorem TF.goes_65 : Goes PG 65 := ⟨Try.f65, Try.func65, by kernel_rfl, by kernel_rfl⟩
theorem TF.goes_66 : Goes PG 66 := ⟨Try.f66, Try.func66, by kernel_rfl, by kernel_rfl⟩
theorem TF.goes_67 : Goes PG 67 := ⟨Try.f67, Try.func67, by kernel_rfl, by kernel_rfl⟩
theorem TF.goes_68 : Goes PG 68 := ⟨Try.f68, Try.func68, by kernel_rfl, by kernel_rfl⟩
theorem TF.goes_69 : Goes PG 69 := ⟨Try.f69, Try.func69, by kernel_rfl, by kernel_rfl⟩
theorem TF.goes_7 : Goes PG 7 := ⟨Try.f7, Try.func7, by kernel_rfl, by kernel_rfl⟩
theorem TF.goes_70 : Goes PG 70 := ⟨Try.f70, Try.func70, by kernel_rfl, by kernel_rfl⟩
theorem TF.goes_71 : Goes PG 71 := ⟨Try.f71, Try.func71, by kernel_rfl, by kernel_rfl⟩
theorem TF.goes_72 : Goes PG 72 := ⟨Try.f72, Try.func72, by kernel_rfl, by kernel_rfl⟩
theorem TF.goes_73 : Goes PG 73 := ⟨Try.f73, Try.func73, by kernel_rfl, by kernel_rfl⟩
theorem TF.goes_74 : Goes PG 74 := ⟨Try.f74, Try.func74, by kernel_rfl, by kernel_rfl⟩
theorem TF.goes_77 : Goes PG 77 := ⟨Try.f77, Try.func77, by kernel_rfl, by kernel_rfl⟩
theorem TF.goes_78 : Goes PG 78 := ⟨Try.f78, Try.func78, by kernel_rfl, by kernel_rfl⟩
theorem TF.goes_79 : Goes PG 79 := ⟨Try.f79, Try.func79, by kernel_rfl, by kernel_rfl⟩
theorem TF.goes_80 : Goes PG 80 := ⟨Try.f80, Try.func80, by kernel_rfl, by kernel_rfl⟩
theorem TF.goes_81 : Goes PG 81 := ⟨Try.f81, Try.func81, by kernel_rfl, by kernel_rfl⟩
theorem TF.goes_82 : Goes PG 82 := ⟨Try.f82, Try.func82, by kernel_rfl, by kernel_rfl⟩
theorem TF.goes_83 : Goes PG 83 := ⟨Try.f83, Try.func83, by kernel_rfl, by kernel_rfl⟩
theorem TF.goes_84 : Goes PG 84 := ⟨Try.f84, Try.func84, by kernel_rfl, by kernel_rfl⟩
theorem TF.goes_85 : Goes PG 85 := ⟨Try.f85, Try.func85, by kernel_rfl, by kernel_rfl⟩
theorem TF.goes_86 : Goes PG 86 := ⟨Try.f86, Try.func86, by kernel_rfl, by kernel_rfl⟩
theorem TF.goes_87 : Goes PG 87 := ⟨Try.f87, Try.func87, by kernel_rfl, by kernel_rfl⟩
theorem TF.goes_88 : Goes PG 88 := ⟨Try.f88, Try.func88, by kernel_rfl, by kernel_rfl⟩
theorem TF.goes_89 : Goes PG 89 := ⟨Try.f89, Try.func89, by kernel_rfl, by kernel_rfl⟩
theorem TF.goes_9 : Goes PG 9 := ⟨Try.f9, Try.func9, by kernel_rfl, by kernel_rfl⟩
theorem TF.goes_90 : Goes PG 90 := ⟨Try.f90, Try.func90, by kernel_rfl, by kernel_rfl⟩
theorem TF.goes_91 : Goes PG 91 := ⟨Try.f91, Try.func91, by kernel_rfl, by kernel_rfl⟩
theorem TF.goes_92 : Goes PG 92 := ⟨Try.f92, Try.func92, by kernel_rfl, by kernel_rfl⟩
theorem TF.goes_94 : Goes PG 94 := ⟨Try.f94, Try.func94, by kernel_rfl, by kernel_rfl⟩
theorem TF.goes_95 : Goes PG 95 := ⟨Try.f95, Try.func95, by kernel_rfl, by kernel_rfl⟩
theorem TF.goes_96 : Goes PG 96 := ⟨Try.f96, Try.func96, by kernel_rfl, by kernel_rfl⟩
theorem TF.goes_97 : Goes PG 97 := ⟨Try.f97, Try.func97, by kernel_rfl, by kernel_rfl⟩
theorem TF.goes_98 : Goes PG 98 := ⟨Try.f98, Try.func98, by kernel_rfl, by kernel_rfl⟩
theorem TF.goes_99 : Goes PG 99 := ⟨Try.f99, Try.func99, by kernel_rfl, by kernel_rfl⟩
theorem TF.int_207 : intB PG 207 = some .u32 := by kernel_rfl
theorem TF.int_3 : intB PG 3 = some .i64 := by kernel_rfl
theorem TF.int_5 : intB PG 5 = some .u8 := by kernel_rfl
theorem TF.int_88 : intB PG 88 = some .u64 := by kernel_rfl
theorem TF.isStr_9 : isStr PG 9 = true := by kernel_rfl
theorem TF.mixed : PG.follows .mixedOrders = true := by kernel_rfl
theorem TF.places_109 : strPlaces PG 109 = some [(0, 1), (1, 1), (2, 1), (3, 1), (4, 1), (5, 4), (9, 1), (10, 1), (11, 1)] := by kernel_rfl
theorem TF.places_111 : strPlaces PG 111 = some [(0, 1), (1, 1)] := by kernel_rfl
theorem TF.places_126 : strPlaces PG 126 = some [(0, 1), (1, 1), (2, 1)] := by kernel_rfl
theorem TF.places_135 : strPlaces PG 135 = some [(0, 1), (1, 1), (2, 1), (3, 1)] := by kernel_rfl
theorem TF.places_152 : strPlaces PG 152 = some [(0, 1)] := by kernel_rfl
theorem TF.places_160 : strPlaces PG 160 = some [(0, 9)] := by kernel_rfl
theorem TF.places_164 : strPlaces PG 164 = some [(0, 1)] := by kernel_rfl
theorem TF.places_171 : strPlaces PG 171 = some [(0, 1), (1, 1), (2, 1), (3, 1)] := by kernel_rfl
theorem TF.places_178 : strPlaces PG 178 = some [(0, 1), (1, 1)] := by kernel_rfl
theorem TF.places_182 : strPlaces PG 182 = some [(0, 1), (1, 2)] := by kernel_rfl
theorem TF.places_188 : strPlaces PG 188 = some [(0, 1)] := by kernel_rfl
theorem TF.places_190 : strPlaces PG 190 = some [(0, 1), (1, 1)] := by kernel_rfl
theorem TF.places_192 : strPlaces PG 192 = some [(0, 3), (3, 1)] := by kernel_rfl
theorem TF.places_196 : strPlaces PG 196 = some [(0, 2), (2, 1)] := by kernel_rfl
theorem TF.places_199 : strPlaces PG 199 = some [(0, 1)] := by kernel_rfl
theorem TF.places_44 : strPlaces PG 44 = some [(0, 1), (1, 1), (2, 1), (3, 1)] := by kernel_rfl
theorem TF.places_59 : strPlaces PG 59 = some [(0, 1), (1, 1)] := by kernel_rfl
theorem TF.places_62 : strPlaces PG 62 = some [(0, 1), (1, 1)] := by kernel_rfl
theorem TF.places_66 : strPlaces PG 66 = some [(0, 1), (1, 1)] := by kernel_rfl
theorem TF.places_72 : strPlaces PG 72 = some [(0, 1)] := by kernel_rfl
theorem TF.places_85 : strPlaces PG 85 = some [(0, 4), (4, 1)] := by kernel_rfl
theorem TF.places_87 : strPlaces PG 87 = some [(0, 1), (1, 1), (2, 1)] := by kernel_rfl
theorem TF.places_99 : strPlaces PG 99 = some [(0, 1), (1, 1)] := by kernel_rfl
theorem TF.ptr_121 : ptrB PG 121 = true := by kernel_rfl
theorem TF.ptr_133 : ptrB PG 133 = true := by kernel_rfl
theorem TF.ptr_141 : ptrB PG 141 = true := by kernel_rfl
theorem TF.ptr_162 : ptrB PG 162 = true := by kernel_rfl
theorem TF.ptr_23 : ptrB PG 23 = true := by kernel_rfl
theorem TF.ptr_32 : ptrB PG 32 = true := by kernel_rfl
theorem TF.ptr_41 : ptrB PG 41 = true := by kernel_rfl
theorem TF.ptr_45 : ptrB PG 45 = true := by kernel_rfl
theorem TF.ptr_69 : ptrB PG 69 = true := by kernel_rfl
theorem TF.ptr_73 : ptrB PG 73 = true := by kernel_rfl
theorem TF.ptr_76 : ptrB PG 76 = true := by kernel_rfl
theorem TF.ptr_97 : ptrB PG 97 = true := by kernel_rfl
theorem TF.sl_116 : slT PG 116 = true := by kernel_rfl
theorem TF.sl_117 : slT PG 117 = true := by kernel_rfl
theorem TF.sl_119 : slT PG 119 = true := by kernel_rfl
theorem TF.sl_146 : slT PG 146 = true := by kernel_rfl
theorem TF.sl_197 : slT PG 197 = true := by kernel_rfl
theorem TF.sl_35 : slT PG 35 = true := by kernel_rfl
theorem TF.sl_49 : slT PG 49 = true := by kernel_rfl
theorem TF.sl_53 : slT PG 53 = true := by kernel_rfl
theorem TF.sl_70 : slT PG 70 = true := by kernel_rfl
theorem TF.sl_83 : slT PG 83 = true := by kernel_rfl
theorem TF.slc_116 : slcB PG 116 = some (59, 2, 16) := by kernel_rfl
theorem TF.slc_117 : slcB PG 117 = some (62, 2, 16) := by kernel_rfl
theorem TF.slc_119 : slcB PG 119 = some (3, 1, 8) := by kernel_rfl
theorem TF.slc_146 : slcB PG 146 = some (182, 3, 32) := by kernel_rfl
theorem TF.slc_186 : slcB PG 186 = some (190, 2, 16) := by kernel_rfl
theorem TF.slc_197 : slcB PG 197 = some (196, 3, 32) := by kernel_rfl
theorem TF.slc_35 : slcB PG 35 = some (9, 1, 16) := by kernel_rfl
theorem TF.slc_49 : slcB PG 49 = some (66, 2, 16) := by kernel_rfl
theorem TF.slc_53 : slcB PG 53 = some (56, 3, 24) := by kernel_rfl
theorem TF.slc_63 : slcB PG 63 = some (5, 1, 1) := by kernel_rfl
theorem TF.slc_70 : slcB PG 70 = some (202, 3, 32) := by kernel_rfl
theorem TF.slc_83 : slcB PG 83 = some (87, 3, 32) := by kernel_rfl
theorem TF.sz_111 : szB PG 111 = some 2 := by kernel_rfl
theorem TF.sz_133 : szB PG 133 = some 1 := by kernel_rfl
theorem TF.sz_150 : szB PG 150 = some 1 := by kernel_rfl
theorem TF.sz_182 : szB PG 182 = some 3 := by kernel_rfl
theorem TF.sz_186 : szB PG 186 = some 1 := by kernel_rfl
theorem TF.sz_196 : szB PG 196 = some 3 := by kernel_rfl
theorem TF.sz_197 : szB PG 197 = some 1 := by kernel_rfl
theorem TF.sz_202 : szB PG 202 = some 3 := by kernel_rfl
theorem TF.sz_3 : szB PG 3 = some 1 := by kernel_rfl
theorem TF.sz_35 : szB PG 35 = some 1 := by kernel_rfl
theorem TF.sz_4 : szB PG 4 = some 1 := by kernel_rfl
theorem TF.sz_41 : szB PG 41 = some 1 := by kernel_rfl
theorem TF.sz_47 : szB PG 47 = some 4 := by kernel_rfl
theorem TF.sz_49 : szB PG 49 = some 1 := by kernel_rfl
theorem TF.sz_56 : szB PG 56 = some 3 := by kernel_rfl
theorem TF.sz_59 : szB PG 59 = some 2 := by kernel_rfl
theorem TF.sz_62 : szB PG 62 = some 2 := by kernel_rfl
theorem TF.sz_63 : szB PG 63 = some 1 := by kernel_rfl
theorem TF.sz_66 : szB PG 66 = some 2 := by kernel_rfl
theorem TF.sz_83 : szB PG 83 = some 1 := by kernel_rfl
theorem TF.sz_87 : szB PG 87 = some 3 := by kernel_rfl
theorem TF.sz_9 : szB PG 9 = some 1 := by kernel_rfl
theorem TF.sz_99 : szB PG 99 = some 2 := by kernel_rfl
theorem TF.zero_109 : zeroB PG 109 = some [(Value.pointer none), (Value.pointer none), (Value.pointer none), (Value.pointer none), (Value.pointer none), (Value.int .i64 (0)), (Value.int .i64 (0)), (Value.int .i64 (0)), (Value.int .i64 (0)), (Value.slice none 0 0), (Value.int .i64 (0)), (Value.int .i64 (0))] := by kernel_rfl
theorem TF.zero_111 : zeroB PG 111 = some [(Value.bool false), (Value.string ByteArray.empty)] := by kernel_rfl
theorem TF.zero_126 : zeroB PG 126 = some [(Value.int .i64 (0)), (Value.bool false), (Value.int .i64 (0))] := by kernel_rfl
theorem TF.zero_135 : zeroB PG 135 = some [(Value.pointer none), (Value.pointer none), (Value.int .i64 (0)), (Value.bool false)] := by kernel_rfl
theorem TF.zero_150 : zeroB PG 150 = some [(Value.pointer none)] := by kernel_rfl
theorem TF.zero_152 : zeroB PG 152 = some [(Value.slice none 0 0)] := by kernel_rfl
theorem TF.zero_160 : zeroB PG 160 = some [(Value.string ByteArray.empty), (Value.string ByteArray.empty), (Value.string ByteArray.empty), (Value.string ByteArray.empty), (Value.string ByteArray.empty), (Value.string ByteArray.empty), (Value.string ByteArray.empty), (Value.string ByteArray.empty), (Value.string ByteArray.empty)] := by kernel_rfl
theorem TF.zero_164 : zeroB PG 164 = some [(Value.pointer none)] := by kernel_rfl
theorem TF.zero_171 : zeroB PG 171 = some [(Value.pointer none), (Value.int .i64 (0)), (Value.int .i64 (0)), (Value.bool false)] := by kernel_rfl
theorem TF.zero_178 : zeroB PG 178 = some [(Value.string ByteArray.empty), (Value.bool false)] := by kernel_rfl
theorem TF.zero_182 : zeroB PG 182 = some [(Value.int .i64 (0)), (Value.bool false), (Value.string ByteArray.empty)] := by kernel_rfl
theorem TF.zero_188 : zeroB PG 188 = some [(Value.slice none 0 0)] := by kernel_rfl
theorem TF.zero_190 : zeroB PG 190 = some [(Value.int .i64 (0)), (Value.int .i64 (0))] := by kernel_rfl
theorem TF.zero_192 : zeroB PG 192 = some [(Value.string ByteArray.empty), (Value.string ByteArray.empty), (Value.string ByteArray.empty), (Value.pointer none)] := by kernel_rfl
theorem TF.zero_196 : zeroB PG 196 = some [(Value.bool false), (Value.string ByteArray.empty), (Value.int .i64 (0))] := by kernel_rfl
theorem TF.zero_199 : zeroB PG 199 = some [(Value.slice none 0 0)] := by kernel_rfl
theorem TF.zero_202 : zeroB PG 202 = some [(Value.int .i64 (0)), (Value.bool false), (Value.string ByteArray.empty)] := by kernel_rfl
theorem TF.zero_3 : zeroB PG 3 = some [(Value.int .i64 (0))] := by kernel_rfl
theorem TF.zero_44 : zeroB PG 44 = some [(Value.pointer none), (Value.pointer none), (Value.pointer none), (Value.int .i64 (0))] := by kernel_rfl
theorem TF.zero_47 : zeroB PG 47 = some [(Value.int .i64 (0)), (Value.int .i64 (0)), (Value.int .i64 (0)), (Value.int .i64 (0))] := by kernel_rfl
theorem TF.zero_5 : zeroB PG 5 = some [(Value.int .u8 (0))] := by kernel_rfl
theorem TF.zero_54 : zeroB PG 54 = some [(Value.string ByteArray.empty), (Value.string ByteArray.empty), (Value.string ByteArray.empty)] := by kernel_rfl
theorem TF.zero_56 : zeroB PG 56 = some [(Value.int .i64 (0)), (Value.int .i64 (0)), (Value.int .i64 (0))] := by kernel_rfl
theorem TF.zero_59 : zeroB PG 59 = some [(Value.int .i64 (0)), (Value.int .i64 (0))] := by kernel_rfl
theorem TF.zero_62 : zeroB PG 62 = some [(Value.int .i64 (0)), (Value.int .u8 (0))] := by kernel_rfl
theorem TF.zero_66 : zeroB PG 66 = some [(Value.int .i64 (0)), (Value.int .i64 (0))] := by kernel_rfl
theorem TF.zero_72 : zeroB PG 72 = some [(Value.slice none 0 0)] := by kernel_rfl
theorem TF.zero_85 : zeroB PG 85 = some [(Value.string ByteArray.empty), (Value.string ByteArray.empty), (Value.string ByteArray.empty), (Value.string ByteArray.empty), (Value.slice none 0 0)] := by kernel_rfl
theorem TF.zero_87 : zeroB PG 87 = some [(Value.int .i64 (0)), (Value.bool false), (Value.string ByteArray.empty)] := by kernel_rfl
theorem TF.zero_9 : zeroB PG 9 = some [(Value.string ByteArray.empty)] := by kernel_rfl
theorem TF.zero_99 : zeroB PG 99 = some [(Value.string ByteArray.empty), (Value.slice none 0 0)] := by kernel_rfl
def FT0 : FT := [(109, 0, 0), (109, 1, 1), (109, 2, 2), (109, 3, 3), (109, 4, 4), (109, 5, 5), (109, 6, 9), (109, 7, 10), (109, 8, 11), (111, 0, 0), (111, 1, 1), (124, 0, 0), (124, 1, 1), (124, 2, 2), (126, 0, 0), (126, 2, 2), (132, 0, 0), (132, 1, 1), (135, 0, 0), (135, 1, 1), (135, 2, 2), (135, 3, 3), (152, 0, 0), (160, 0, 0), (164, 0, 0), (171, 0, 0), (171, 1, 1), (171, 2, 2), (171, 3, 3), (178, 0, 0), (178, 1, 1), (182, 0, 0), (182, 1, 1), (188, 0, 0), (196, 0, 0), (196, 1, 2), (199, 0, 0), (202, 0, 0), (202, 1, 1), (28, 0, 0), (44, 1, 1), (44, 3, 3), (56, 0, 0), (56, 1, 1), (56, 2, 2), (59, 0, 0), (59, 1, 1), (62, 0, 0), (62, 1, 1), (72, 0, 0), (81, 0, 0), (81, 1, 1), (85, 0, 0), (85, 1, 4), (87, 0, 0), (87, 1, 1), (87, 2, 2), (99, 0, 0), (99, 1, 1)]
theorem FT0_ok : FTok PG FT0 := ftB_ok (by kernel_rfl)
theorem au {B : RO} {N : Nat} {e : Env} {h : Heap} {Φ : Lv → Env → Heap → Prop} (n : Nat) {t t' : List Item} {L L' : LE} (ha : aut FT0 N n t L = some (t', L')) (hr : Run PG B N t' (updL L' e) h Φ) : Run PG B N t (updL L e) h Φ := aut_run FT0_ok n ha hr
theorem auT {B : RO} {N : Nat} {k : List Item} {e : Env} {h : Heap} {Φ : Lv → Env → Heap → Prop} {ops : Array Oper} {C : Heap → Prop} {z : List Nat} (n : Nat) {t t' : Ord} {L L' : LE} (ha : autT FT0 N ops.toList n t L = some (t', L')) (hr : RunT PG B N ops k Φ C z t' (updL L' e) h) : RunT PG B N ops k Φ C z t (updL L e) h := autT_run FT0_ok n ha hr
abbrev FN.countermandlaw21_WorldDoes : FuncId := 4
abbrev FN.draft_Draft_file_File_All_1 : FuncId := 95
abbrev FN.wal_Log_All_1 : FuncId := 97
abbrev FN.tome_Tome_All_1 : FuncId := 102
abbrev FN.wafer_All_1 : FuncId := 105
abbrev FN.cell_Row_file_File_All_1 : FuncId := 107
theorem TG.countermandlaw21_WorldDoes : Goes PG FN.countermandlaw21_WorldDoes := TF.goes_4
theorem TG.draft_Draft_file_File_All_1 : Goes PG FN.draft_Draft_file_File_All_1 := TF.goes_95
theorem TG.wal_Log_All_1 : Goes PG FN.wal_Log_All_1 := TF.goes_97
theorem TG.tome_Tome_All_1 : Goes PG FN.tome_Tome_All_1 := TF.goes_102
theorem TG.wafer_All_1 : Goes PG FN.wafer_All_1 := TF.goes_105
theorem TG.cell_Row_file_File_All_1 : Goes PG FN.cell_Row_file_File_All_1 := TF.goes_107
def C_countermandlaw21_WorldDoes (B : RO) (a1 : Option Addr) (n2 : Nat) (c3 : Nat) (h : Heap) (Q : Bool → Heap → Prop) : Prop :=
  Spec PG B 4 #[(Value.slice a1 n2 c3)] h (fun v h' => ∃ b4 : Bool, v = (Value.bool b4) ∧ Q b4 h')
def C_countermandlaw21_alive (B : RO) (h : Heap) (Q : Bool → Heap → Prop) : Prop :=
  Spec PG B 5 #[] h (fun v h' => ∃ b1 : Bool, v = (Value.bool b1) ∧ Q b1 h')
def C_disk_New (B : RO) (h : Heap) (Q : Option Addr → Heap → Prop) : Prop :=
  Spec PG B 6 #[] h (fun v h' => ∃ p1 : Option Addr, v = (Value.pointer p1) ∧ Q p1 h')
def C_disk_Disk_Append (B : RO) (p1 : Option Addr) (i2 : Int) (s3 : ByteArray) (h : Heap) (Q : Int → Heap → Prop) : Prop :=
  Spec PG B 7 #[(Value.pointer p1), (Value.int .i64 (i2)), (Value.string s3)] h (fun v h' => ∃ i4 : Int, v = (Value.int .i64 (i4)) ∧ Q i4 h')
def C_world_Open (B : RO) (p1 : Option Addr) (h : Heap) (Q : Option Addr → Int → Heap → Prop) : Prop :=
  Spec PG B 9 #[(Value.pointer p1)] h (fun v h' => ∃ p2 : Option Addr, ∃ i3 : Int, v = Value.tuple #[(Value.pointer p2), (Value.int .i64 (i3))] ∧ Q p2 i3 h')
def C_world_World_Blocks (B : RO) (p1 : Option Addr) (h : Heap) (Q : Int → Heap → Prop) : Prop :=
  Spec PG B 12 #[(Value.pointer p1)] h (fun v h' => ∃ i2 : Int, v = (Value.int .i64 (i2)) ∧ Q i2 h')
def C_world_World_View (B : RO) (p1 : Option Addr) (h : Heap) (Q : Option Addr → Heap → Prop) : Prop :=
  Spec PG B 13 #[(Value.pointer p1)] h (fun v h' => ∃ p2 : Option Addr, v = (Value.pointer p2) ∧ Q p2 h')
def C_world_World_Tallies (B : RO) (p1 : Option Addr) (h : Heap) (Q : Int → Int → Int → Int → Heap → Prop) : Prop :=
  Spec PG B 14 #[(Value.pointer p1)] h (fun v h' => ∃ i2 : Int, ∃ i3 : Int, ∃ i4 : Int, ∃ i5 : Int, v = (Value.agg #[(Value.int .i64 (i2)), (Value.int .i64 (i3)), (Value.int .i64 (i4)), (Value.int .i64 (i5))]) ∧ Q i2 i3 i4 i5 h')
def C_world_World_Notes (B : RO) (p1 : Option Addr) (h : Heap) (Q : Option Addr → Nat → Nat → Heap → Prop) : Prop :=
  Spec PG B 15 #[(Value.pointer p1)] h (fun v h' => ∃ a2 : Option Addr, ∃ n3 : Nat, ∃ c4 : Nat, v = (Value.slice a2 n3 c4) ∧ Q a2 n3 c4 h')
def C_world_World_Disk (B : RO) (p1 : Option Addr) (h : Heap) (Q : Option Addr → Heap → Prop) : Prop :=
  Spec PG B 16 #[(Value.pointer p1)] h (fun v h' => ∃ p2 : Option Addr, v = (Value.pointer p2) ∧ Q p2 h')
def C_world_World_Add (B : RO) (p1 : Option Addr) (a2 : Option Addr) (n3 : Nat) (c4 : Nat) (h : Heap) (Q : Heap → Prop) : Prop :=
  Spec PG B 18 #[(Value.pointer p1), (Value.slice a2 n3 c4)] h (fun v h' => v = Value.tuple #[] ∧ Q  h')
def C_world_World_Send (B : RO) (p1 : Option Addr) (a2 : Option Addr) (n3 : Nat) (c4 : Nat) (h : Heap) (Q : Heap → Prop) : Prop :=
  Spec PG B 19 #[(Value.pointer p1), (Value.slice a2 n3 c4)] h (fun v h' => v = Value.tuple #[] ∧ Q  h')
def C_world_World_Tell (B : RO) (p1 : Option Addr) (i2 : Int) (a3 : Option Addr) (n4 : Nat) (c5 : Nat) (h : Heap) (Q : Heap → Prop) : Prop :=
  Spec PG B 20 #[(Value.pointer p1), (Value.int .i64 (i2)), (Value.slice a3 n4 c5)] h (fun v h' => v = Value.tuple #[] ∧ Q  h')
def C_world_World_Fail (B : RO) (p1 : Option Addr) (i2 : Int) (h : Heap) (Q : Heap → Prop) : Prop :=
  Spec PG B 21 #[(Value.pointer p1), (Value.int .i64 (i2))] h (fun v h' => v = Value.tuple #[] ∧ Q  h')
def C_world_World_Write (B : RO) (p1 : Option Addr) (p2 : Option Addr) (h : Heap) (Q : Int → Heap → Prop) : Prop :=
  Spec PG B 22 #[(Value.pointer p1), (Value.pointer p2)] h (fun v h' => ∃ i3 : Int, v = (Value.int .i64 (i3)) ∧ Q i3 h')
def C_world_World_Done (B : RO) (p1 : Option Addr) (h : Heap) (Q : Heap → Prop) : Prop :=
  Spec PG B 23 #[(Value.pointer p1)] h (fun v h' => v = Value.tuple #[] ∧ Q  h')
def C_world_World_Wire (B : RO) (p1 : Option Addr) (h : Heap) (Q : Option Addr → Heap → Prop) : Prop :=
  Spec PG B 24 #[(Value.pointer p1)] h (fun v h' => ∃ p2 : Option Addr, v = (Value.pointer p2) ∧ Q p2 h')
def C_wire_Wire_All (B : RO) (p1 : Option Addr) (i2 : Int) (h : Heap) (Q : ByteArray → Heap → Prop) : Prop :=
  Spec PG B 25 #[(Value.pointer p1), (Value.int .i64 (i2))] h (fun v h' => ∃ s3 : ByteArray, v = (Value.string s3) ∧ Q s3 h')
def C_world_World_Force (B : RO) (p1 : Option Addr) (h : Heap) (Q : Heap → Prop) : Prop :=
  Spec PG B 26 #[(Value.pointer p1)] h (fun v h' => v = Value.tuple #[] ∧ Q  h')
def C_world_World_Token (B : RO) (p1 : Option Addr) (h : Heap) (Q : Option Addr → Heap → Prop) : Prop :=
  Spec PG B 27 #[(Value.pointer p1)] h (fun v h' => ∃ p2 : Option Addr, v = (Value.pointer p2) ∧ Q p2 h')
def C_token_Token_Free (B : RO) (p1 : Option Addr) (i2 : Int) (h : Heap) (Q : Bool → Heap → Prop) : Prop :=
  Spec PG B 28 #[(Value.pointer p1), (Value.int .i64 (i2))] h (fun v h' => ∃ b3 : Bool, v = (Value.bool b3) ∧ Q b3 h')
def C_disk_good (B : RO) (i1 : Int) (h : Heap) (Q : Bool → Heap → Prop) : Prop :=
  Spec PG B 29 #[(Value.int .i64 (i1))] h (fun v h' => ∃ b2 : Bool, v = (Value.bool b2) ∧ Q b2 h')
def C_vault_Open (B : RO) (p1 : Option Addr) (h : Heap) (Q : Option Addr → ByteArray → Option Addr → Nat → Nat → Int → Heap → Prop) : Prop :=
  Spec PG B 34 #[(Value.pointer p1)] h (fun v h' => ∃ p2 : Option Addr, ∃ s3 : ByteArray, ∃ a4 : Option Addr, ∃ n5 : Nat, ∃ c6 : Nat, ∃ i7 : Int, v = Value.tuple #[(Value.pointer p2), (Value.agg #[(Value.string s3), (Value.slice a4 n5 c6)]), (Value.int .i64 (i7))] ∧ Q p2 s3 a4 n5 c6 i7 h')
def C_world_read (B : RO) (s1 : ByteArray) (h : Heap) (Q : Int → Option Addr → Bool → Heap → Prop) : Prop :=
  Spec PG B 35 #[(Value.string s1)] h (fun v h' => ∃ i2 : Int, ∃ p3 : Option Addr, ∃ b4 : Bool, v = Value.tuple #[(Value.int .i64 (i2)), (Value.pointer p3), (Value.bool b4)] ∧ Q i2 p3 b4 h')
def C_redo_Replay (B : RO) (p1 : Option Addr) (a2 : Option Addr) (n3 : Nat) (c4 : Nat) (h : Heap) (Q : Int → Int → Heap → Prop) : Prop :=
  Spec PG B 36 #[(Value.pointer p1), (Value.slice a2 n3 c4)] h (fun v h' => ∃ i5 : Int, ∃ i6 : Int, v = Value.tuple #[(Value.int .i64 (i5)), (Value.int .i64 (i6))] ∧ Q i5 i6 h')
def C_vault_Vault_Settle (B : RO) (p1 : Option Addr) (s2 : ByteArray) (h : Heap) (Q : Int → Heap → Prop) : Prop :=
  Spec PG B 37 #[(Value.pointer p1), (Value.string s2)] h (fun v h' => ∃ i3 : Int, v = (Value.int .i64 (i3)) ∧ Q i3 h')
def C_world_image (B : RO) (i1 : Int) (p2 : Option Addr) (h : Heap) (Q : ByteArray → Heap → Prop) : Prop :=
  Spec PG B 38 #[(Value.int .i64 (i1)), (Value.pointer p2)] h (fun v h' => ∃ s3 : ByteArray, v = (Value.string s3) ∧ Q s3 h')
def C_attempt_NewView (B : RO) (h : Heap) (Q : Option Addr → Heap → Prop) : Prop :=
  Spec PG B 39 #[] h (fun v h' => ∃ p1 : Option Addr, v = (Value.pointer p1) ∧ Q p1 h')
def C_wire_New (B : RO) (h : Heap) (Q : Option Addr → Heap → Prop) : Prop :=
  Spec PG B 40 #[] h (fun v h' => ∃ p1 : Option Addr, v = (Value.pointer p1) ∧ Q p1 h')
def C_token_New (B : RO) (h : Heap) (Q : Option Addr → Heap → Prop) : Prop :=
  Spec PG B 41 #[] h (fun v h' => ∃ p1 : Option Addr, v = (Value.pointer p1) ∧ Q p1 h')
def C_slices_Clone_s_world_Note_world_Note (B : RO) (a1 : Option Addr) (n2 : Nat) (c3 : Nat) (h : Heap) (Q : Option Addr → Nat → Nat → Heap → Prop) : Prop :=
  Spec PG B 44 #[(Value.slice a1 n2 c3)] h (fun v h' => ∃ a4 : Option Addr, ∃ n5 : Nat, ∃ c6 : Nat, v = (Value.slice a4 n5 c6) ∧ Q a4 n5 c6 h')
def C_disk_Disk_land (B : RO) (p1 : Option Addr) (i2 : Int) (b3 : Bool) (s4 : ByteArray) (h : Heap) (Q : Heap → Prop) : Prop :=
  Spec PG B 45 #[(Value.pointer p1), (Value.agg #[(Value.int .i64 (i2)), (Value.bool b3), (Value.string s4)])] h (fun v h' => v = Value.tuple #[] ∧ Q  h')
def C_wire_Wire_Push (B : RO) (p1 : Option Addr) (i2 : Int) (s3 : ByteArray) (h : Heap) (Q : Bool → Heap → Prop) : Prop :=
  Spec PG B 46 #[(Value.pointer p1), (Value.int .i64 (i2)), (Value.string s3)] h (fun v h' => ∃ b4 : Bool, v = (Value.bool b4) ∧ Q b4 h')
def C_vault_Vault_Size (B : RO) (p1 : Option Addr) (h : Heap) (Q : Int → Heap → Prop) : Prop :=
  Spec PG B 47 #[(Value.pointer p1)] h (fun v h' => ∃ i2 : Int, v = (Value.int .i64 (i2)) ∧ Q i2 h')
def C_vault_Vault_Append (B : RO) (p1 : Option Addr) (s2 : ByteArray) (h : Heap) (Q : Int → Heap → Prop) : Prop :=
  Spec PG B 48 #[(Value.pointer p1), (Value.string s2)] h (fun v h' => ∃ i3 : Int, v = (Value.int .i64 (i3)) ∧ Q i3 h')
def C_redo_Bytes (B : RO) (i1 : Int) (p2 : Option Addr) (h : Heap) (Q : ByteArray → Heap → Prop) : Prop :=
  Spec PG B 49 #[(Value.int .i64 (i1)), (Value.pointer p2)] h (fun v h' => ∃ s3 : ByteArray, v = (Value.string s3) ∧ Q s3 h')
def C_wire_Wire_at (B : RO) (p1 : Option Addr) (i2 : Int) (h : Heap) (Q : Option Addr → Heap → Prop) : Prop :=
  Spec PG B 50 #[(Value.pointer p1), (Value.int .i64 (i2))] h (fun v h' => ∃ p3 : Option Addr, v = (Value.pointer p3) ∧ Q p3 h')
def C_vault_Vault_Force (B : RO) (p1 : Option Addr) (h : Heap) (Q : Heap → Prop) : Prop :=
  Spec PG B 51 #[(Value.pointer p1)] h (fun v h' => v = Value.tuple #[] ∧ Q  h')
def C_wal_Open (B : RO) (p1 : Option Addr) (i2 : Int) (h : Heap) (Q : Option Addr → Int → Heap → Prop) : Prop :=
  Spec PG B 54 #[(Value.pointer p1), (Value.int .i64 (i2))] h (fun v h' => ∃ p3 : Option Addr, ∃ i4 : Int, v = Value.tuple #[(Value.pointer p3), (Value.int .i64 (i4))] ∧ Q p3 i4 h')
def C_vault_look (B : RO) (p1 : Option Addr) (h : Heap) (Q : Int → ByteArray → Option Addr → Nat → Nat → Heap → Prop) : Prop :=
  Spec PG B 55 #[(Value.pointer p1)] h (fun v h' => ∃ i2 : Int, ∃ s3 : ByteArray, ∃ a4 : Option Addr, ∃ n5 : Nat, ∃ c6 : Nat, v = Value.tuple #[(Value.int .i64 (i2)), (Value.agg #[(Value.string s3), (Value.slice a4 n5 c6)])] ∧ Q i2 s3 a4 n5 c6 h')
def C_tome_New (B : RO) (h : Heap) (Q : Option Addr → Heap → Prop) : Prop :=
  Spec PG B 56 #[] h (fun v h' => ∃ p1 : Option Addr, v = (Value.pointer p1) ∧ Q p1 h')
def C_stylus_Of (B : RO) (s1 : ByteArray) (h : Heap) (Q : Option Addr → Heap → Prop) : Prop :=
  Spec PG B 57 #[(Value.string s1)] h (fun v h' => ∃ p2 : Option Addr, v = (Value.pointer p2) ∧ Q p2 h')
def C_stylus_Reader_Nat (B : RO) (p1 : Option Addr) (i2 : Int) (h : Heap) (Q : Int → Heap → Prop) : Prop :=
  Spec PG B 58 #[(Value.pointer p1), (Value.int .i64 (i2))] h (fun v h' => ∃ i3 : Int, v = (Value.int .i64 (i3)) ∧ Q i3 h')
def C_stylus_Reader_Bad (B : RO) (p1 : Option Addr) (h : Heap) (Q : Bool → Heap → Prop) : Prop :=
  Spec PG B 59 #[(Value.pointer p1)] h (fun v h' => ∃ b2 : Bool, v = (Value.bool b2) ∧ Q b2 h')
def C_tome_Read (B : RO) (s1 : ByteArray) (h : Heap) (Q : Option Addr → Bool → Heap → Prop) : Prop :=
  Spec PG B 60 #[(Value.string s1)] h (fun v h' => ∃ p2 : Option Addr, ∃ b3 : Bool, v = Value.tuple #[(Value.pointer p2), (Value.bool b3)] ∧ Q p2 b3 h')
def C_stylus_Reader_Raw (B : RO) (p1 : Option Addr) (i2 : Int) (h : Heap) (Q : ByteArray → Heap → Prop) : Prop :=
  Spec PG B 61 #[(Value.pointer p1), (Value.int .i64 (i2))] h (fun v h' => ∃ s3 : ByteArray, v = (Value.string s3) ∧ Q s3 h')
def C_stylus_Reader_Left (B : RO) (p1 : Option Addr) (h : Heap) (Q : Int → Heap → Prop) : Prop :=
  Spec PG B 62 #[(Value.pointer p1)] h (fun v h' => ∃ i2 : Int, v = (Value.int .i64 (i2)) ∧ Q i2 h')
def C_redo_Read (B : RO) (s1 : ByteArray) (h : Heap) (Q : Int → Option Addr → Nat → Nat → Bool → Heap → Prop) : Prop :=
  Spec PG B 63 #[(Value.string s1)] h (fun v h' => ∃ i2 : Int, ∃ a3 : Option Addr, ∃ n4 : Nat, ∃ c5 : Nat, ∃ b6 : Bool, v = Value.tuple #[(Value.int .i64 (i2)), (Value.slice a3 n4 c5), (Value.bool b6)] ∧ Q i2 a3 n4 c5 b6 h')
def C_redo_Apply (B : RO) (p1 : Option Addr) (a2 : Option Addr) (n3 : Nat) (c4 : Nat) (i5 : Int) (h : Heap) (Q : Heap → Prop) : Prop :=
  Spec PG B 64 #[(Value.pointer p1), (Value.slice a2 n3 c4), (Value.int .i64 (i5))] h (fun v h' => v = Value.tuple #[] ∧ Q  h')
def C_stylus_Stylus_Nat (B : RO) (p1 : Option Addr) (a2 : Option Addr) (n3 : Nat) (c4 : Nat) (h : Heap) (Q : Heap → Prop) : Prop :=
  Spec PG B 65 #[(Value.pointer p1), (Value.slice a2 n3 c4)] h (fun v h' => v = Value.tuple #[] ∧ Q  h')
def C_stylus_Stylus_Raw (B : RO) (p1 : Option Addr) (s2 : ByteArray) (h : Heap) (Q : Heap → Prop) : Prop :=
  Spec PG B 66 #[(Value.pointer p1), (Value.string s2)] h (fun v h' => v = Value.tuple #[] ∧ Q  h')
def C_stylus_Stylus_Bytes (B : RO) (p1 : Option Addr) (h : Heap) (Q : ByteArray → Heap → Prop) : Prop :=
  Spec PG B 67 #[(Value.pointer p1)] h (fun v h' => ∃ s2 : ByteArray, v = (Value.string s2) ∧ Q s2 h')
def C_wal_Log_Area (B : RO) (p1 : Option Addr) (h : Heap) (Q : Int → Heap → Prop) : Prop :=
  Spec PG B 68 #[(Value.pointer p1)] h (fun v h' => ∃ i2 : Int, v = (Value.int .i64 (i2)) ∧ Q i2 h')
def C_wal_Log_Clear (B : RO) (p1 : Option Addr) (h : Heap) (Q : Heap → Prop) : Prop :=
  Spec PG B 69 #[(Value.pointer p1)] h (fun v h' => v = Value.tuple #[] ∧ Q  h')
def C_wal_Log_Force (B : RO) (p1 : Option Addr) (h : Heap) (Q : Heap → Prop) : Prop :=
  Spec PG B 70 #[(Value.pointer p1)] h (fun v h' => v = Value.tuple #[] ∧ Q  h')
def C_wal_Log_Append (B : RO) (p1 : Option Addr) (s2 : ByteArray) (h : Heap) (Q : Int → Heap → Prop) : Prop :=
  Spec PG B 71 #[(Value.pointer p1), (Value.string s2)] h (fun v h' => ∃ i3 : Int, v = (Value.int .i64 (i3)) ∧ Q i3 h')
def C_tome_Tome_Bytes (B : RO) (p1 : Option Addr) (h : Heap) (Q : ByteArray → Heap → Prop) : Prop :=
  Spec PG B 72 #[(Value.pointer p1)] h (fun v h' => ∃ s2 : ByteArray, v = (Value.string s2) ∧ Q s2 h')
def C_cell_New_int (B : RO) (i1 : Int) (i2 : Int) (h : Heap) (Q : Option Addr → Heap → Prop) : Prop :=
  Spec PG B 73 #[(Value.int .i64 (i1)), (Value.int .i64 (i2))] h (fun v h' => ∃ p3 : Option Addr, v = (Value.pointer p3) ∧ Q p3 h')
def C_feed_New (B : RO) (h : Heap) (Q : Option Addr → Heap → Prop) : Prop :=
  Spec PG B 74 #[] h (fun v h' => ∃ p1 : Option Addr, v = (Value.pointer p1) ∧ Q p1 h')
def C_wal_Log_Size (B : RO) (p1 : Option Addr) (h : Heap) (Q : Int → Heap → Prop) : Prop :=
  Spec PG B 77 #[(Value.pointer p1)] h (fun v h' => ∃ i2 : Int, v = (Value.int .i64 (i2)) ∧ Q i2 h')
def C_draft_Draft_file_File_All (B : RO) (p1 : Option Addr) (h : Heap) (Q : Value → Heap → Prop) : Prop :=
  Spec PG B 78 #[(Value.pointer p1)] h (fun v h' => ∃ v2 : Value, v = v2 ∧ Q v2 h')
def C_stylus_Stylus_Text (B : RO) (p1 : Option Addr) (a2 : Option Addr) (n3 : Nat) (c4 : Nat) (h : Heap) (Q : Heap → Prop) : Prop :=
  Spec PG B 79 #[(Value.pointer p1), (Value.slice a2 n3 c4)] h (fun v h' => v = Value.tuple #[] ∧ Q  h')
def C_disk_Disk_Read (B : RO) (p1 : Option Addr) (i2 : Int) (h : Heap) (Q : ByteArray → Heap → Prop) : Prop :=
  Spec PG B 80 #[(Value.pointer p1), (Value.int .i64 (i2))] h (fun v h' => ∃ s3 : ByteArray, v = (Value.string s3) ∧ Q s3 h')
def C_wafer_Whole (B : RO) (s1 : ByteArray) (h : Heap) (Q : Int → Heap → Prop) : Prop :=
  Spec PG B 81 #[(Value.string s1)] h (fun v h' => ∃ i2 : Int, v = (Value.int .i64 (i2)) ∧ Q i2 h')
def C_wal_Log_All (B : RO) (p1 : Option Addr) (h : Heap) (Q : Value → Heap → Prop) : Prop :=
  Spec PG B 82 #[(Value.pointer p1)] h (fun v h' => ∃ v2 : Value, v = v2 ∧ Q v2 h')
def C_vault_first (B : RO) (s1 : ByteArray) (h : Heap) (Q : Int → ByteArray → Bool → Heap → Prop) : Prop :=
  Spec PG B 83 #[(Value.string s1)] h (fun v h' => ∃ i2 : Int, ∃ s3 : ByteArray, ∃ b4 : Bool, v = Value.tuple #[(Value.int .i64 (i2)), (Value.string s3), (Value.bool b4)] ∧ Q i2 s3 b4 h')
def C_cell_New_file_File (B : RO) (i1 : Int) (b2 : Bool) (s3 : ByteArray) (h : Heap) (Q : Option Addr → Heap → Prop) : Prop :=
  Spec PG B 84 #[(Value.int .i64 (i1)), (Value.agg #[(Value.bool b2), (Value.string s3)])] h (fun v h' => ∃ p4 : Option Addr, v = (Value.pointer p4) ∧ Q p4 h')
def C_stylus_Reader_word (B : RO) (p1 : Option Addr) (h : Heap) (Q : Int → Heap → Prop) : Prop :=
  Spec PG B 85 #[(Value.pointer p1)] h (fun v h' => ∃ i2 : Int, v = (Value.int .u64 (i2)) ∧ Q i2 h')
def C_stylus_Reader_Spoil (B : RO) (p1 : Option Addr) (h : Heap) (Q : Heap → Prop) : Prop :=
  Spec PG B 86 #[(Value.pointer p1)] h (fun v h' => v = Value.tuple #[] ∧ Q  h')
def C_stylus_Reader_Text (B : RO) (p1 : Option Addr) (i2 : Int) (h : Heap) (Q : ByteArray → Heap → Prop) : Prop :=
  Spec PG B 87 #[(Value.pointer p1), (Value.int .i64 (i2))] h (fun v h' => ∃ s3 : ByteArray, v = (Value.string s3) ∧ Q s3 h')
def C_tome_Tome_Set (B : RO) (p1 : Option Addr) (i2 : Int) (b3 : Bool) (s4 : ByteArray) (i5 : Int) (h : Heap) (Q : Bool → Heap → Prop) : Prop :=
  Spec PG B 88 #[(Value.pointer p1), (Value.int .i64 (i2)), (Value.agg #[(Value.bool b3), (Value.string s4)]), (Value.int .i64 (i5))] h (fun v h' => ∃ b6 : Bool, v = (Value.bool b6) ∧ Q b6 h')
def C_disk_Disk_Reset (B : RO) (p1 : Option Addr) (i2 : Int) (h : Heap) (Q : Int → Heap → Prop) : Prop :=
  Spec PG B 89 #[(Value.pointer p1), (Value.int .i64 (i2))] h (fun v h' => ∃ i3 : Int, v = (Value.int .i64 (i3)) ∧ Q i3 h')
def C_disk_Disk_Sync (B : RO) (p1 : Option Addr) (h : Heap) (Q : Heap → Prop) : Prop :=
  Spec PG B 90 #[(Value.pointer p1)] h (fun v h' => v = Value.tuple #[] ∧ Q  h')
def C_wafer_Close (B : RO) (s1 : ByteArray) (h : Heap) (Q : ByteArray → Heap → Prop) : Prop :=
  Spec PG B 91 #[(Value.string s1)] h (fun v h' => ∃ s2 : ByteArray, v = (Value.string s2) ∧ Q s2 h')
def C_tome_Tome_All (B : RO) (p1 : Option Addr) (h : Heap) (Q : Value → Heap → Prop) : Prop :=
  Spec PG B 92 #[(Value.pointer p1)] h (fun v h' => ∃ v2 : Value, v = v2 ∧ Q v2 h')
def C_cell_Row_file_File_is (B : RO) (p1 : Option Addr) (i2 : Int) (h : Heap) (Q : Bool → Heap → Prop) : Prop :=
  Spec PG B 94 #[(Value.pointer p1), (Value.int .i64 (i2))] h (fun v h' => ∃ b3 : Bool, v = (Value.bool b3) ∧ Q b3 h')
def C_draft_Draft_file_File_All_1 (B : RO) (v1 : Value) (A2 : Addr) (h : Heap) (Q : Heap → Prop) : Prop :=
  Spec PG B 95 #[v1, (Value.pointer (some A2))] h (fun v h' => v = Value.tuple #[] ∧ Q  h')
def C_wafer_All (B : RO) (s1 : ByteArray) (h : Heap) (Q : Value → Heap → Prop) : Prop :=
  Spec PG B 96 #[(Value.string s1)] h (fun v h' => ∃ v2 : Value, v = v2 ∧ Q v2 h')
def C_wal_Log_All_1 (B : RO) (v1 : Value) (A2 : Addr) (h : Heap) (Q : Heap → Prop) : Prop :=
  Spec PG B 97 #[v1, (Value.pointer (some A2))] h (fun v h' => v = Value.tuple #[] ∧ Q  h')
def C_file_Good (B : RO) (b1 : Bool) (s2 : ByteArray) (h : Heap) (Q : Bool → Heap → Prop) : Prop :=
  Spec PG B 98 #[(Value.agg #[(Value.bool b1), (Value.string s2)])] h (fun v h' => ∃ b3 : Bool, v = (Value.bool b3) ∧ Q b3 h')
def C_cell_Row_file_File_Set (B : RO) (p1 : Option Addr) (i2 : Int) (b3 : Bool) (s4 : ByteArray) (i5 : Int) (h : Heap) (Q : Bool → Heap → Prop) : Prop :=
  Spec PG B 99 #[(Value.pointer p1), (Value.int .i64 (i2)), (Value.agg #[(Value.bool b3), (Value.string s4)]), (Value.int .i64 (i5))] h (fun v h' => ∃ b6 : Bool, v = (Value.bool b6) ∧ Q b6 h')
def C_wafer_foots (B : RO) (i1 : Int) (h : Heap) (Q : ByteArray → Heap → Prop) : Prop :=
  Spec PG B 100 #[(Value.int .u32 (i1))] h (fun v h' => ∃ s2 : ByteArray, v = (Value.string s2) ∧ Q s2 h')
def C_wafer_Sum (B : RO) (s1 : ByteArray) (h : Heap) (Q : Int → Heap → Prop) : Prop :=
  Spec PG B 101 #[(Value.string s1)] h (fun v h' => ∃ i2 : Int, v = (Value.int .u32 (i2)) ∧ Q i2 h')
def C_tome_Tome_All_1 (B : RO) (v1 : Value) (A2 : Addr) (h : Heap) (Q : Heap → Prop) : Prop :=
  Spec PG B 102 #[v1, (Value.pointer (some A2))] h (fun v h' => v = Value.tuple #[] ∧ Q  h')
def C_cell_Row_file_File_All (B : RO) (p1 : Option Addr) (h : Heap) (Q : Value → Heap → Prop) : Prop :=
  Spec PG B 103 #[(Value.pointer p1)] h (fun v h' => ∃ v2 : Value, v = v2 ∧ Q v2 h')
def C_wafer_All_1 (B : RO) (v1 : Value) (A2 : Addr) (h : Heap) (Q : Heap → Prop) : Prop :=
  Spec PG B 105 #[v1, (Value.pointer (some A2))] h (fun v h' => v = Value.tuple #[] ∧ Q  h')
def C_wafer_Open (B : RO) (s1 : ByteArray) (h : Heap) (Q : ByteArray → Int → Heap → Prop) : Prop :=
  Spec PG B 106 #[(Value.string s1)] h (fun v h' => ∃ s2 : ByteArray, ∃ i3 : Int, v = Value.tuple #[(Value.string s2), (Value.int .i64 (i3))] ∧ Q s2 i3 h')
def C_cell_Row_file_File_All_1 (B : RO) (v1 : Value) (A2 : Addr) (h : Heap) (Q : Heap → Prop) : Prop :=
  Spec PG B 107 #[v1, (Value.pointer (some A2))] h (fun v h' => v = Value.tuple #[] ∧ Q  h')
end Go.Proofs.Ytlehephbflgblaa.H
namespace Go.Proofs.Ytlehephbflgblaa.H
open Go
set_option linter.unusedVariables false
set_option maxRecDepth 100000
set_option maxHeartbeats 4000000
def S_countermandlaw21_WorldDoes_J1 (B : RO) (p10 : Option Addr) (h17 : Heap) (Q : Bool → Heap → Prop) : Prop :=
 C_world_World_Fail B none (1) h17 (fun h18 =>
 C_world_World_Force B none h18 (fun h19 =>
 ∀ k20 : Nat, h19 k20 = none → B k20 = none → ∀ h21 : Heap, h21 = Heap.set h19 k20 (.vec 59 (plains [(.int .i64 (0)), (.int .i64 (0))]) 2) →
 C_world_World_Add B none (some ⟨k20, 0, none⟩) 1 1 h21 (fun h22 =>
 ∀ k23 : Nat, h22 k23 = none → B k23 = none → ∀ h24 : Heap, h24 = Heap.set h22 k23 (.vec 62 (plains [(.int .i64 (0)), (.int .u8 (0))]) 2) →
 C_world_World_Send B none (some ⟨k23, 0, none⟩) 1 1 h24 (fun h25 =>
 ∀ k26 : Nat, h25 k26 = none → B k26 = none → ∀ h27 : Heap, h27 = Heap.set h25 k26 (.vec 3 (plains [(.int .i64 (1))]) 1) →
 C_world_World_Tell B none (1) (some ⟨k26, 0, none⟩) 1 1 h27 (fun h28 =>
 C_world_World_Done B none h28 (fun h29 =>
 C_world_Open B none h29 (fun p31 i32 h30 =>
 ((i32 : Int) = 2 →
 C_world_World_Write B none none h30 (fun i34 h33 =>
 ((i34 : Int) = 2 →
 C_world_World_View B none h33 (fun p36 h35 =>
 (p36 = none →
 C_world_World_Wire B none h35 (fun p39 h38 =>
 (p39 = none →
 C_world_World_Token B none h38 (fun p42 h41 =>
 (p42 = none →
 C_world_World_Disk B none h41 (fun p45 h44 =>
 (p45 = none →
 C_world_World_Tallies B none h44 (fun i48 i49 i50 i51 h47 =>
 (eqL [(.int .i64 (i48)), (.int .i64 (i49)), (.int .i64 (i50)), (.int .i64 (i51))] [(.int .i64 (0)), (.int .i64 (0)), (.int .i64 (0)), (.int .i64 (0))] = true →
 C_world_World_Notes B none h47 (fun a54 n55 c56 h53 =>
 C_world_World_Blocks B none h53 (fun i58 h57 =>
 ((IntKind.wrap .i64 (((n55 : Nat)) + (i58)) : Int) = 0 →
 C_world_World_Token B p10 h57 (fun p60 h59 =>
 C_token_Token_Free B p60 (0) h59 (fun b62 h61 =>
 Fin B h61 (Q (b62))))) ∧ (¬ ((IntKind.wrap .i64 (((n55 : Nat)) + (i58)) : Int) = 0) →
 Fin B h57 (Q (false)))))) ∧ (¬ (eqL [(.int .i64 (i48)), (.int .i64 (i49)), (.int .i64 (i50)), (.int .i64 (i51))] [(.int .i64 (0)), (.int .i64 (0)), (.int .i64 (0)), (.int .i64 (0))] = true) →
 Fin B h47 (Q (false))))) ∧ (¬ (p45 = none) →
 Fin B h44 (Q (false))))) ∧ (¬ (p42 = none) →
 Fin B h41 (Q (false))))) ∧ (¬ (p39 = none) →
 Fin B h38 (Q (false))))) ∧ (¬ (p36 = none) →
 Fin B h35 (Q (false))))) ∧ (¬ ((i34 : Int) = 2) →
 Fin B h33 (Q (false))))) ∧ (¬ ((i32 : Int) = 2) →
 Fin B h30 (Q (false))))))))))
def S_countermandlaw21_WorldDoes_J4 (B : RO) (a1 : Option Addr) (n2 : Nat) (c3 : Nat) (p10 : Option Addr) (k12 : Nat) (k14 : Nat) (i68 : Int) (m70 : Nat) (J73 : Option Addr → Nat → Nat → Int → Int → Int → Nat → Heap → Prop) (a83 : Option Addr) (n84 : Nat) (c85 : Nat) (i86 : Int) (i87 : Int) (h96 : Heap) (Q : Bool → Heap → Prop) : Prop :=
 ∃ (J102 : Int → Nat → Heap → Prop) (m100 : Nat), Fin B h96 (J102 (0) m100) ∧
 ∀ (i97 : Int) (m99 : Nat) (h98 : Heap), J102 i97 m99 h98 →
 ((i97 : Int) < (3) →
 0 ≤ (i97 : Int) ∧ (i97 : Int) < (3 : Nat) ∧
 ∃ s109 : ByteArray, cellH B h98 (Addr.add ⟨k14, 0, none⟩ (Int.toNat (i97) * 1)) = some (.string s109) ∧
 C_world_World_Wire B p10 h98 (fun p112 h111 =>
 cellH B h111 (Addr.add ⟨k14, 0, none⟩ (Int.toNat (i97) * 1)) = some (.string s109) ∧
 C_wire_Wire_All B p112 (i97) h111 (fun s115 h114 =>
 cellH B h114 (Addr.add ⟨k14, 0, none⟩ (Int.toNat (i97) * 1)) = some (.string s109) ∧
 (s115 = s109 →
 Fin B h114 (fun h' => ∃ m', m' < m99 ∧ J102 (IntKind.wrap .i64 ((i97) + (1))) m' h')) ∧ (¬ (s115 = s109) →
 Fin B h114 (Q (false)))))) ∧ (¬ ((i97 : Int) < (3)) →
 Fin B h98 (fun h' => ∃ m', m' < m70 ∧ J73 a83 n84 c85 (i86) (i87) (IntKind.wrap .i64 ((i68) + (1))) m' h'))
def S_countermandlaw21_WorldDoes_J3 (B : RO) (a1 : Option Addr) (n2 : Nat) (c3 : Nat) (p10 : Option Addr) (k12 : Nat) (k14 : Nat) (i68 : Int) (m70 : Nat) (J73 : Option Addr → Nat → Nat → Int → Int → Int → Nat → Heap → Prop) (a83 : Option Addr) (n84 : Nat) (c85 : Nat) (i86 : Int) (i87 : Int) (a90 : Option Addr) (n91 : Nat) (c92 : Nat) (h94 : Heap) (Q : Bool → Heap → Prop) : Prop :=
 ∃ (J123 : Int → Nat → Heap → Prop) (m121 : Nat), Fin B h94 (J123 (0) m121) ∧
 ∀ (i118 : Int) (m120 : Nat) (h119 : Heap), J123 i118 m120 h119 →
 ((i118 : Int) < ((n91 : Nat)) →
 ∃ A124 : Addr, a90 = some A124 ∧ 0 ≤ (i118 : Int) ∧ (i118 : Int) < (n91 : Nat) ∧
 ∃ i126 : Int, ∃ i127 : Int, CellsAt B h119 (Addr.add A124 (Int.toNat (i118) * 2)) 0 [(.int .i64 (i126)), (.int .i64 (i127))] ∧
 ∃ A128 : Addr, a83 = some A128 ∧ 0 ≤ (i118 : Int) ∧ (i118 : Int) < (n84 : Nat) ∧
 ∃ i130 : Int, ∃ i131 : Int, CellsAt B h119 (Addr.add A128 (Int.toNat (i118) * 2)) 0 [(.int .i64 (i130)), (.int .i64 (i131))] ∧
 (eqL [(.int .i64 (i126)), (.int .i64 (i127))] [(.int .i64 (i130)), (.int .i64 (i131))] = true →
 Fin B h119 (fun h' => ∃ m', m' < m120 ∧ J123 (IntKind.wrap .i64 ((i118) + (1))) m' h')) ∧ (¬ (eqL [(.int .i64 (i126)), (.int .i64 (i127))] [(.int .i64 (i130)), (.int .i64 (i131))] = true) →
 Fin B h119 (Q (false)))) ∧ (¬ ((i118 : Int) < ((n91 : Nat))) →
 Fin B h119 (fun h' => S_countermandlaw21_WorldDoes_J4 B a1 n2 c3 p10 k12 k14 i68 m70 J73 a83 n84 c85 i86 i87 h' Q))
def S_countermandlaw21_WorldDoes_J2 (B : RO) (a1 : Option Addr) (n2 : Nat) (c3 : Nat) (p10 : Option Addr) (k12 : Nat) (k14 : Nat) (i68 : Int) (m70 : Nat) (J73 : Option Addr → Nat → Nat → Int → Int → Int → Nat → Heap → Prop) (a83 : Option Addr) (n84 : Nat) (c85 : Nat) (i86 : Int) (i87 : Int) (h88 : Heap) (Q : Bool → Heap → Prop) : Prop :=
 C_world_World_Notes B p10 h88 (fun a90 n91 c92 h89 =>
 ∃ i134 : Int, ∃ i135 : Int, ∃ i136 : Int, ∃ i137 : Int, CellsAt B h89 ⟨k12, 0, none⟩ 0 [(.int .i64 (i134)), (.int .i64 (i135)), (.int .i64 (i136)), (.int .i64 (i137))] ∧
 C_world_World_Tallies B p10 h89 (fun i140 i141 i142 i143 h139 =>
 CellsAt B h139 ⟨k12, 0, none⟩ 0 [(.int .i64 (i134)), (.int .i64 (i135)), (.int .i64 (i136)), (.int .i64 (i137))] ∧
 (eqL [(.int .i64 (i140)), (.int .i64 (i141)), (.int .i64 (i142)), (.int .i64 (i143))] [(.int .i64 (i134)), (.int .i64 (i135)), (.int .i64 (i136)), (.int .i64 (i137))] = true →
 (((n91 : Nat) : Int) = (n84 : Nat) →
 C_world_World_Blocks B p10 h139 (fun i148 h147 =>
 CellsAt B h147 ⟨k12, 0, none⟩ 0 [(.int .i64 (i134)), (.int .i64 (i135)), (.int .i64 (i136)), (.int .i64 (i137))] ∧
 ((i148 : Int) = i87 →
 Fin B h147 (fun h' => S_countermandlaw21_WorldDoes_J3 B a1 n2 c3 p10 k12 k14 i68 m70 J73 a83 n84 c85 i86 i87 a90 n91 c92 h' Q)) ∧ (¬ ((i148 : Int) = i87) →
 Fin B h147 (Q (false))))) ∧ (¬ (((n91 : Nat) : Int) = (n84 : Nat)) →
 Fin B h139 (Q (false)))) ∧ (¬ (eqL [(.int .i64 (i140)), (.int .i64 (i141)), (.int .i64 (i142)), (.int .i64 (i143))] [(.int .i64 (i134)), (.int .i64 (i135)), (.int .i64 (i136)), (.int .i64 (i137))] = true) →
 Fin B h139 (Q (false)))))
def S_countermandlaw21_WorldDoes_J6 (B : RO) (a1 : Option Addr) (n2 : Nat) (c3 : Nat) (p10 : Option Addr) (k12 : Nat) (k14 : Nat) (a63 : Option Addr) (n64 : Nat) (c65 : Nat) (i66 : Int) (i67 : Int) (i68 : Int) (m70 : Nat) (J73 : Option Addr → Nat → Nat → Int → Int → Int → Nat → Heap → Prop) (k79 : Nat) (b160 : Bool) (h161 : Heap) (Q : Bool → Heap → Prop) : Prop :=
 (b160 = true →
 ∃ i162 : Int, cellH B h161 ⟨k79, 1, none⟩ = some (.int .i64 (i162)) ∧
 0 ≤ (i162 : Int) ∧ (i162 : Int) < (4 : Nat) ∧
 ∃ i163 : Int, cellH B h161 (Addr.add ⟨k12, 0, none⟩ (Int.toNat (i162) * 1)) = some (.int .i64 (i163)) ∧
 ∃ i164 : Int, cellH B h161 ⟨k79, 2, none⟩ = some (.int .i64 (i164)) ∧
 0 ≤ (i162 : Int) ∧ (i162 : Int) < (4 : Nat) ∧
 ∃ h165 : Heap, storeH h161 (Addr.add ⟨k12, 0, none⟩ (Int.toNat (i162) * 1)) (.int .i64 (IntKind.wrap .i64 ((i163) + (i164)))) = some h165 ∧
 Fin B h165 (fun h' => S_countermandlaw21_WorldDoes_J2 B a1 n2 c3 p10 k12 k14 i68 m70 J73 a63 n64 c65 (i66) (i67) h' Q)) ∧ (b160 = false →
 Fin B h161 (fun h' => S_countermandlaw21_WorldDoes_J2 B a1 n2 c3 p10 k12 k14 i68 m70 J73 a63 n64 c65 (i66) (i67) h' Q))
def S_countermandlaw21_WorldDoes_J5 (B : RO) (a1 : Option Addr) (n2 : Nat) (c3 : Nat) (p10 : Option Addr) (k12 : Nat) (k14 : Nat) (a63 : Option Addr) (n64 : Nat) (c65 : Nat) (i66 : Int) (i67 : Int) (i68 : Int) (m70 : Nat) (J73 : Option Addr → Nat → Nat → Int → Int → Int → Nat → Heap → Prop) (k79 : Nat) (h153 : Heap) (Q : Bool → Heap → Prop) : Prop :=
 ∃ i154 : Int, cellH B h153 ⟨k79, 1, none⟩ = some (.int .i64 (i154)) ∧
 ∃ i155 : Int, cellH B h153 ⟨k79, 2, none⟩ = some (.int .i64 (i155)) ∧
 ∀ k156 : Nat, h153 k156 = none → B k156 = none → ∀ h157 : Heap, h157 = Heap.set h153 k156 (.vec 59 (plains [(.int .i64 (i154)), (.int .i64 (i155))]) 2) →
 C_world_World_Add B p10 (some ⟨k156, 0, none⟩) 1 1 h157 (fun h158 =>
 ∃ i166 : Int, cellH B h158 ⟨k79, 1, none⟩ = some (.int .i64 (i166)) ∧
 ((i166 : Int) ≥ (0) →
 ∃ i167 : Int, cellH B h158 ⟨k79, 1, none⟩ = some (.int .i64 (i167)) ∧
 ((i167 : Int) < (4) →
 Fin B h158 (fun h' => S_countermandlaw21_WorldDoes_J6 B a1 n2 c3 p10 k12 k14 a63 n64 c65 i66 i67 i68 m70 J73 k79 (true) h' Q)) ∧ (¬ ((i167 : Int) < (4)) →
 Fin B h158 (fun h' => S_countermandlaw21_WorldDoes_J6 B a1 n2 c3 p10 k12 k14 a63 n64 c65 i66 i67 i68 m70 J73 k79 (false) h' Q))) ∧ (¬ ((i166 : Int) ≥ (0)) →
 Fin B h158 (fun h' => S_countermandlaw21_WorldDoes_J6 B a1 n2 c3 p10 k12 k14 a63 n64 c65 i66 i67 i68 m70 J73 k79 (false) h' Q)))
def S_countermandlaw21_WorldDoes_J7 (B : RO) (a1 : Option Addr) (n2 : Nat) (c3 : Nat) (p10 : Option Addr) (k12 : Nat) (k14 : Nat) (a63 : Option Addr) (n64 : Nat) (c65 : Nat) (i66 : Int) (i67 : Int) (i68 : Int) (m70 : Nat) (J73 : Option Addr → Nat → Nat → Int → Int → Int → Nat → Heap → Prop) (k79 : Nat) (b176 : Bool) (h177 : Heap) (Q : Bool → Heap → Prop) : Prop :=
 (b176 = true →
 ∃ i179 : Int, cellH B h177 ⟨k79, 1, none⟩ = some (.int .i64 (i179)) ∧
 ∃ i182 : Int, cellH B h177 ⟨k79, 1, none⟩ = some (.int .i64 (i182)) ∧
 0 ≤ (i182 : Int) ∧ (i182 : Int) < (3 : Nat) ∧
 ∃ s187 : ByteArray, cellH B h177 (Addr.add ⟨k14, 0, none⟩ (Int.toNat (i182) * 1)) = some (.string s187) ∧
 ∃ i190 : Int, cellH B h177 ⟨k79, 2, none⟩ = some (.int .i64 (i190)) ∧
 ∀ k193 : Nat, h177 k193 = none → B k193 = none → ∀ h194 : Heap, h194 = Heap.set h177 k193 (.vec 5 (plains [(.int .u8 (IntKind.wrap .u8 (i190)))]) 1) →
 cellH B h194 ⟨k79, 1, none⟩ = some (.int .i64 (i179)) ∧ cellH B h194 ⟨k79, 1, none⟩ = some (.int .i64 (i182)) ∧ cellH B h194 (Addr.add ⟨k14, 0, none⟩ (Int.toNat (i182) * 1)) = some (.string s187) ∧ cellH B h194 ⟨k79, 2, none⟩ = some (.int .i64 (i190)) ∧
 semH PG B (convert 63 9 (.slice (some ⟨k193, 0, none⟩) 1 1)) h194 (fun v h200 => ∃ s199 : ByteArray, v = (.string s199) ∧
 cellH B h200 ⟨k79, 1, none⟩ = some (.int .i64 (i179)) ∧ cellH B h200 ⟨k79, 1, none⟩ = some (.int .i64 (i182)) ∧ cellH B h200 (Addr.add ⟨k14, 0, none⟩ (Int.toNat (i182) * 1)) = some (.string s187) ∧ cellH B h200 ⟨k79, 2, none⟩ = some (.int .i64 (i190)) ∧
 ByteArray.size s187 + ByteArray.size s199 ≤ 4611686018427387904 ∧
 0 ≤ (i179 : Int) ∧ (i179 : Int) < (3 : Nat) ∧
 ∃ h205 : Heap, storeH h200 (Addr.add ⟨k14, 0, none⟩ (Int.toNat (i179) * 1)) (.string (s187 ++ s199)) = some h205 ∧
 Fin B h205 (fun h' => S_countermandlaw21_WorldDoes_J2 B a1 n2 c3 p10 k12 k14 i68 m70 J73 a63 n64 c65 (i66) (i67) h' Q))) ∧ (b176 = false →
 Fin B h177 (fun h' => S_countermandlaw21_WorldDoes_J2 B a1 n2 c3 p10 k12 k14 i68 m70 J73 a63 n64 c65 (i66) (i67) h' Q))
def S_countermandlaw21_WorldDoes (B : RO) (a1 : Option Addr) (n2 : Nat) (c3 : Nat) (h : Heap) (Q : Bool → Heap → Prop) : Prop :=
 C_countermandlaw21_alive B h (fun b6 h5 =>
 (b6 = true →
 (((n2 : Nat) : Int) > (60) →
 Fin B h5 (Q (true))) ∧ (¬ (((n2 : Nat) : Int) > (60)) →
 C_disk_New B h5 (fun p8 h7 =>
 C_world_Open B p8 h7 (fun p10 i11 h9 =>
 ∀ k12 : Nat, h9 k12 = none → B k12 = none → ∀ h13 : Heap, h13 = Heap.set h9 k12 (.vec 47 (plains [(.int .i64 (0)), (.int .i64 (0)), (.int .i64 (0)), (.int .i64 (0))]) 4) →
 ∀ k14 : Nat, h13 k14 = none → B k14 = none → ∀ h15 : Heap, h15 = Heap.set h13 k14 (.vec 54 (plains [(.string ByteArray.empty), (.string ByteArray.empty), (.string ByteArray.empty)]) 3) →
 ∃ (J73 : Option Addr → Nat → Nat → Int → Int → Int → Nat → Heap → Prop) (m71 : Nat), Fin B h15 (J73 none 0 0 (0) (0) (0) m71) ∧
 ∀ (a63 : Option Addr) (n64 : Nat) (c65 : Nat) (i66 : Int) (i67 : Int) (i68 : Int) (m70 : Nat) (h69 : Heap), J73 a63 n64 c65 i66 i67 i68 m70 h69 →
 ((i68 : Int) < ((n2 : Nat)) →
 ∃ A74 : Addr, a1 = some A74 ∧ 0 ≤ (i68 : Int) ∧ (i68 : Int) < (n2 : Nat) ∧
 ∃ i76 : Int, ∃ i77 : Int, ∃ i78 : Int, CellsAt B h69 (Addr.add A74 (Int.toNat (i68) * 3)) 0 [(.int .i64 (i76)), (.int .i64 (i77)), (.int .i64 (i78))] ∧
 ∀ k79 : Nat, h69 k79 = none → B k79 = none → ∀ h80 : Heap, h80 = Heap.set h69 k79 (.vec 56 (plains [(.int .i64 (0)), (.int .i64 (0)), (.int .i64 (0))]) 3) →
 ∃ h81 : Heap, StoresAt ⟨k79, 0, none⟩ h80 0 [(.int .i64 (i76)), (.int .i64 (i77)), (.int .i64 (i78))] h81 ∧
 ∃ i151 : Int, cellH B h81 ⟨k79, 0, none⟩ = some (.int .i64 (i151)) ∧
 ((i151 : Int) = 0 →
 ∃ i168 : Int, cellH B h81 ⟨k79, 2, none⟩ = some (.int .i64 (i168)) ∧
 ((i168 : Int) > (1099511627776) →
 Fin B h81 (Q (true))) ∧ (¬ ((i168 : Int) > (1099511627776)) →
 ∃ i169 : Int, cellH B h81 ⟨k79, 2, none⟩ = some (.int .i64 (i169)) ∧
 ((i169 : Int) < ((-1099511627776)) →
 Fin B h81 (Q (true))) ∧ (¬ ((i169 : Int) < ((-1099511627776))) →
 Fin B h81 (fun h' => S_countermandlaw21_WorldDoes_J5 B a1 n2 c3 p10 k12 k14 a63 n64 c65 i66 i67 i68 m70 J73 k79 h' Q)))) ∧ (¬ ((i151 : Int) = 0) →
 ((i151 : Int) = 1 →
 ∃ i170 : Int, cellH B h81 ⟨k79, 1, none⟩ = some (.int .i64 (i170)) ∧
 ∃ i171 : Int, cellH B h81 ⟨k79, 2, none⟩ = some (.int .i64 (i171)) ∧
 ∀ k172 : Nat, h81 k172 = none → B k172 = none → ∀ h173 : Heap, h173 = Heap.set h81 k172 (.vec 62 (plains [(.int .i64 (i170)), (.int .u8 (IntKind.wrap .u8 (i171)))]) 2) →
 C_world_World_Send B p10 (some ⟨k172, 0, none⟩) 1 1 h173 (fun h174 =>
 ∃ i206 : Int, cellH B h174 ⟨k79, 1, none⟩ = some (.int .i64 (i206)) ∧
 ((i206 : Int) ≥ (0) →
 ∃ i207 : Int, cellH B h174 ⟨k79, 1, none⟩ = some (.int .i64 (i207)) ∧
 ((i207 : Int) < (3) →
 Fin B h174 (fun h' => S_countermandlaw21_WorldDoes_J7 B a1 n2 c3 p10 k12 k14 a63 n64 c65 i66 i67 i68 m70 J73 k79 (true) h' Q)) ∧ (¬ ((i207 : Int) < (3)) →
 Fin B h174 (fun h' => S_countermandlaw21_WorldDoes_J7 B a1 n2 c3 p10 k12 k14 a63 n64 c65 i66 i67 i68 m70 J73 k79 (false) h' Q))) ∧ (¬ ((i206 : Int) ≥ (0)) →
 Fin B h174 (fun h' => S_countermandlaw21_WorldDoes_J7 B a1 n2 c3 p10 k12 k14 a63 n64 c65 i66 i67 i68 m70 J73 k79 (false) h' Q)))) ∧ (¬ ((i151 : Int) = 1) →
 ((i151 : Int) = 2 →
 ∃ i208 : Int, cellH B h81 ⟨k79, 1, none⟩ = some (.int .i64 (i208)) ∧
 ∃ i209 : Int, cellH B h81 ⟨k79, 2, none⟩ = some (.int .i64 (i209)) ∧
 ∀ k210 : Nat, h81 k210 = none → B k210 = none → ∀ h211 : Heap, h211 = Heap.set h81 k210 (.vec 3 (plains [(.int .i64 (i209))]) 1) →
 C_world_World_Tell B p10 (i208) (some ⟨k210, 0, none⟩) 1 1 h211 (fun h212 =>
 ∃ i213 : Int, cellH B h212 ⟨k79, 1, none⟩ = some (.int .i64 (i213)) ∧
 ∃ i214 : Int, cellH B h212 ⟨k79, 2, none⟩ = some (.int .i64 (i214)) ∧
 ∀ k215 : Nat, h212 k215 = none → B k215 = none → ∀ h216 : Heap, h216 = Heap.set h212 k215 (.vec 66 (plains [(.int .i64 (i213)), (.int .i64 (i214))]) 2) →
 semH PG B (Builtin.append_ #[49, 49] 49 #[(.slice a63 n64 c65), (.slice (some ⟨k215, 0, none⟩) 1 1)]) h216 (fun v h217 => ∃ a218 : Option Addr, ∃ n219 : Nat, ∃ c220 : Nat, v = (.slice a218 n219 c220) ∧
 Fin B h217 (fun h' => S_countermandlaw21_WorldDoes_J2 B a1 n2 c3 p10 k12 k14 i68 m70 J73 a218 n219 c220 (i66) (i67) h' Q)))) ∧ (¬ ((i151 : Int) = 2) →
 ((i151 : Int) = 3 →
 ∃ i221 : Int, cellH B h81 ⟨k79, 1, none⟩ = some (.int .i64 (i221)) ∧
 C_world_World_Fail B p10 (i221) h81 (fun h222 =>
 ∃ i223 : Int, cellH B h222 ⟨k79, 1, none⟩ = some (.int .i64 (i223)) ∧
 Fin B h222 (fun h' => S_countermandlaw21_WorldDoes_J2 B a1 n2 c3 p10 k12 k14 i68 m70 J73 a63 n64 c65 (if (0 : Int) > (i223) then (0 : Int) else (i223)) (i67) h' Q))) ∧ (¬ ((i151 : Int) = 3) →
 ((i151 : Int) = 4 →
 ∀ k224 : Nat, h81 k224 = none → B k224 = none → ∀ h225 : Heap, h225 = Heap.set h81 k224 (.vec 72 (plains [(.slice none 0 0)]) 1) →
 C_world_World_Write B p10 (some ⟨k224, 0, none⟩) h225 (fun i227 h226 =>
 (((i227 : Int) == (7)) = (decide ((i66 : Int) > (0))) →
 ((i227 : Int) = 0 →
 Fin B h226 (fun h' => S_countermandlaw21_WorldDoes_J2 B a1 n2 c3 p10 k12 k14 i68 m70 J73 a63 n64 c65 (if (0 : Int) > (IntKind.wrap .i64 ((i66) - (1))) then (0 : Int) else (IntKind.wrap .i64 ((i66) - (1)))) (i67) h' Q)) ∧ (¬ ((i227 : Int) = 0) →
 ((i227 : Int) = 7 →
 Fin B h226 (fun h' => S_countermandlaw21_WorldDoes_J2 B a1 n2 c3 p10 k12 k14 i68 m70 J73 a63 n64 c65 (if (0 : Int) > (IntKind.wrap .i64 ((i66) - (1))) then (0 : Int) else (IntKind.wrap .i64 ((i66) - (1)))) (i67) h' Q)) ∧ (¬ ((i227 : Int) = 7) →
 Fin B h226 (Q (false))))) ∧ (¬ (((i227 : Int) == (7)) = (decide ((i66 : Int) > (0)))) →
 Fin B h226 (Q (false))))) ∧ (¬ ((i151 : Int) = 4) →
 ((i151 : Int) = 5 →
 C_world_World_Done B p10 h81 (fun h229 =>
 Fin B h229 (fun h' => S_countermandlaw21_WorldDoes_J2 B a1 n2 c3 p10 k12 k14 i68 m70 J73 a63 n64 c65 (i66) (IntKind.wrap .i64 ((i67) + (1))) h' Q))) ∧ (¬ ((i151 : Int) = 5) →
 Fin B h81 (fun h' => S_countermandlaw21_WorldDoes_J2 B a1 n2 c3 p10 k12 k14 i68 m70 J73 a63 n64 c65 (i66) (i67) h' Q)))))))) ∧ (¬ ((i68 : Int) < ((n2 : Nat))) →
 Fin B h69 (fun h' => S_countermandlaw21_WorldDoes_J1 B p10 h' Q)))))) ∧ (b6 = false →
 Fin B h5 (Q (false))))
def S_countermandlaw21_alive (B : RO) (h : Heap) (Q : Bool → Heap → Prop) : Prop :=
 C_disk_New B h (fun p3 h2 =>
 C_world_Open B p3 h2 (fun p5 i6 h4 =>
 ((i6 : Int) = 0 →
 ∀ k7 : Nat, h4 k7 = none → B k7 = none → ∀ h8 : Heap, h8 = Heap.set h4 k7 (.vec 59 (plains [(.int .i64 (1)), (.int .i64 (5))]) 2) →
 C_world_World_Add B p5 (some ⟨k7, 0, none⟩) 1 1 h8 (fun h9 =>
 C_world_World_Done B p5 h9 (fun h10 =>
 C_world_World_Tallies B p5 h10 (fun i12 i13 i14 i15 h11 =>
 0 ≤ (1 : Int) ∧ (1 : Int) < (4 : Nat) ∧ ∃ i16 : Int, (#[(.int .i64 (i12)), (.int .i64 (i13)), (.int .i64 (i14)), (.int .i64 (i15))] : Array Value)[Int.toNat (1) * 1]? = some (.int .i64 (i16)) ∧
 ((i16 : Int) = 5 →
 C_world_World_Blocks B p5 h11 (fun i18 h17 =>
 ((i18 : Int) = 1 →
 C_world_World_View B p5 h17 (fun p20 h19 =>
 ∃ A21 : Addr, p20 = some A21 ∧
 ∃ i23 : Int, cellH B h19 (Addr.add A21 3) = some (.int .i64 (i23)) ∧
 Fin B h19 (Q (((i23 : Int) == (0)))))) ∧ (¬ ((i18 : Int) = 1) →
 Fin B h17 (Q (false))))) ∧ (¬ ((i16 : Int) = 5) →
 Fin B h11 (Q (false))))))) ∧ (¬ ((i6 : Int) = 0) →
 Fin B h4 (Q (false)))))
def S_disk_New (B : RO) (h : Heap) (Q : Option Addr → Heap → Prop) : Prop :=
 ∀ k2 : Nat, h k2 = none → B k2 = none → ∀ h3 : Heap, h3 = Heap.set h k2 (.vec 85 (plains [(.string ByteArray.empty), (.string ByteArray.empty), (.string ByteArray.empty), (.string ByteArray.empty), (.slice none 0 0)]) 5) →
 Fin B h3 (Q (some ⟨k2, 0, none⟩))
def S_disk_Disk_Append_J1 (B : RO) (p1 : Option Addr) (i2 : Int) (s3 : ByteArray) (h6 : Heap) (Q : Int → Heap → Prop) : Prop :=
 ∃ A7 : Addr, p1 = some A7 ∧
 0 ≤ (i2 : Int) ∧ (i2 : Int) < (2 : Nat) ∧
 ∃ s9 : ByteArray, cellH B h6 (Addr.add A7 (Int.toNat (i2) * 2)) = some (.string s9) ∧
 ByteArray.size s9 + ByteArray.size s3 ≤ 4611686018427387904 ∧
 ∃ A10 : Addr, p1 = some A10 ∧
 0 ≤ (i2 : Int) ∧ (i2 : Int) < (2 : Nat) ∧
 ∃ h12 : Heap, storeH h6 (Addr.add A10 (Int.toNat (i2) * 2)) (.string (s9 ++ s3)) = some h12 ∧
 ∃ A13 : Addr, p1 = some A13 ∧
 LdSl B h12 (Addr.add A13 4) fun a15 n16 c17 h18 =>
 ∀ k19 : Nat, h18 k19 = none → B k19 = none → ∀ h20 : Heap, h20 = Heap.set h18 k19 (.vec 87 (plains [(.int .i64 (i2)), (.bool false), (.string s3)]) 3) →
 semH PG B (Builtin.append_ #[83, 83] 83 #[(.slice a15 n16 c17), (.slice (some ⟨k19, 0, none⟩) 1 1)]) h20 (fun v h21 => ∃ a22 : Option Addr, ∃ n23 : Nat, ∃ c24 : Nat, v = (.slice a22 n23 c24) ∧
 ∃ A25 : Addr, p1 = some A25 ∧
 ∃ h27 : Heap, storeH h21 (Addr.add A25 4) (.slice a22 n23 c24) = some h27 ∧
 Fin B h27 (Q (0)))
def S_disk_Disk_Append (B : RO) (p1 : Option Addr) (i2 : Int) (s3 : ByteArray) (h : Heap) (Q : Int → Heap → Prop) : Prop :=
 (p1 = none →
 Fin B h (Q (2))) ∧ (¬ (p1 = none) →
 C_disk_good B (i2) h (fun b30 h29 =>
 (b30 = true →
 ∃ A31 : Addr, p1 = some A31 ∧
 0 ≤ (i2 : Int) ∧ (i2 : Int) < (2 : Nat) ∧
 ∃ s33 : ByteArray, cellH B h29 (Addr.add A31 (Int.toNat (i2) * 2)) = some (.string s33) ∧
 (((ByteArray.size s3 : Nat) : Int) > (IntKind.wrap .i64 ((16384) - ((ByteArray.size s33 : Nat)))) →
 Fin B h29 (Q (6))) ∧ (¬ (((ByteArray.size s3 : Nat) : Int) > (IntKind.wrap .i64 ((16384) - ((ByteArray.size s33 : Nat))))) →
 Fin B h29 (fun h' => S_disk_Disk_Append_J1 B p1 i2 s3 h' Q))) ∧ (b30 = false →
 Fin B h29 (Q (1)))))
def S_world_Open (B : RO) (p1 : Option Addr) (h : Heap) (Q : Option Addr → Int → Heap → Prop) : Prop :=
 C_vault_Open B p1 h (fun p5 s6 a7 n8 c9 i10 h4 =>
 ∀ k11 : Nat, h4 k11 = none → B k11 = none → ∀ h12 : Heap, h12 = Heap.set h4 k11 (.vec 99 (plains [(.string ByteArray.empty), (.slice none 0 0)]) 2) →
 ∃ h13 : Heap, StoresAt ⟨k11, 0, none⟩ h12 0 [(.string s6), (.slice a7 n8 c9)] h13 ∧
 ((i10 : Int) = 0 →
 ∃ s14 : ByteArray, cellH B h13 ⟨k11, 0, none⟩ = some (.string s14) ∧
 C_world_read B s14 h13 (fun i16 p17 b18 h15 =>
 (b18 = true →
 LdSl B h15 ⟨k11, 1, none⟩ fun a19 n20 c21 h22 =>
 C_redo_Replay B p17 a19 n20 c21 h22 (fun i24 i25 h23 =>
 LdSl B h23 ⟨k11, 1, none⟩ fun a26 n27 c28 h29 =>
 ((i25 : Int) < ((n27 : Nat)) →
 Fin B h29 (Q none (4))) ∧ (¬ ((i25 : Int) < ((n27 : Nat))) →
 C_world_image B (if (i24 : Int) > (i16) then (i24 : Int) else (i16)) p17 h29 (fun s31 h30 =>
 C_vault_Vault_Settle B p5 s31 h30 (fun i33 h32 =>
 ((i33 : Int) = 0 →
 C_attempt_NewView B h32 (fun p35 h34 =>
 C_wire_New B h34 (fun p37 h36 =>
 C_token_New B h36 (fun p39 h38 =>
 ∀ k40 : Nat, h38 k40 = none → B k40 = none → ∀ h41 : Heap, h41 = Heap.set h38 k40 (.vec 109 (plains [(.pointer p35), (.pointer p37), (.pointer p39), (.pointer p1), (.pointer p5), (.int .i64 (0)), (.int .i64 (0)), (.int .i64 (0)), (.int .i64 (0)), (.slice none 0 0), (.int .i64 (if (i24 : Int) > (i16) then (i24 : Int) else (i16))), (.int .i64 (0))]) 12) →
 ∃ p42 : Option Addr, cellH B h41 ⟨k40, 0, none⟩ = some (.pointer p42) ∧
 ∃ A43 : Addr, p42 = some A43 ∧
 ∃ h45 : Heap, storeH h41 (Addr.add A43 1) (.pointer p17) = some h45 ∧
 Fin B h45 (Q (some ⟨k40, 0, none⟩) (0)))))) ∧ (¬ ((i33 : Int) = 0) →
 Fin B h32 (Q none (i33)))))))) ∧ (b18 = false →
 Fin B h15 (Q none (4))))) ∧ (¬ ((i10 : Int) = 0) →
 Fin B h13 (Q none (i10))))
def S_world_World_Blocks (B : RO) (p1 : Option Addr) (h : Heap) (Q : Int → Heap → Prop) : Prop :=
 (p1 = none →
 Fin B h (Q (0))) ∧ (¬ (p1 = none) →
 ∃ A4 : Addr, p1 = some A4 ∧
 ∃ i6 : Int, cellH B h (Addr.add A4 10) = some (.int .i64 (i6)) ∧
 Fin B h (Q (i6)))
def S_world_World_View (B : RO) (p1 : Option Addr) (h : Heap) (Q : Option Addr → Heap → Prop) : Prop :=
 (p1 = none →
 Fin B h (Q none)) ∧ (¬ (p1 = none) →
 ∃ A4 : Addr, p1 = some A4 ∧
 ∃ p6 : Option Addr, cellH B h A4 = some (.pointer p6) ∧
 Fin B h (Q p6))
def S_world_World_Tallies (B : RO) (p1 : Option Addr) (h : Heap) (Q : Int → Int → Int → Int → Heap → Prop) : Prop :=
 ∀ k6 : Nat, h k6 = none → B k6 = none → ∀ h7 : Heap, h7 = Heap.set h k6 (.vec 47 (plains [(.int .i64 (0)), (.int .i64 (0)), (.int .i64 (0)), (.int .i64 (0))]) 4) →
 (p1 = none →
 ∃ h9 : Heap, StoresAt ⟨k6, 0, none⟩ h7 0 [(.int .i64 (0)), (.int .i64 (0)), (.int .i64 (0)), (.int .i64 (0))] h9 ∧
 ∃ i10 : Int, ∃ i11 : Int, ∃ i12 : Int, ∃ i13 : Int, CellsAt B h9 ⟨k6, 0, none⟩ 0 [(.int .i64 (i10)), (.int .i64 (i11)), (.int .i64 (i12)), (.int .i64 (i13))] ∧ Fin B h9 (Q (i10) (i11) (i12) (i13))) ∧ (¬ (p1 = none) →
 ∃ A14 : Addr, p1 = some A14 ∧
 ∃ i16 : Int, ∃ i17 : Int, ∃ i18 : Int, ∃ i19 : Int, CellsAt B h7 (Addr.add A14 5) 0 [(.int .i64 (i16)), (.int .i64 (i17)), (.int .i64 (i18)), (.int .i64 (i19))] ∧
 ∃ h20 : Heap, StoresAt ⟨k6, 0, none⟩ h7 0 [(.int .i64 (i16)), (.int .i64 (i17)), (.int .i64 (i18)), (.int .i64 (i19))] h20 ∧
 ∃ i21 : Int, ∃ i22 : Int, ∃ i23 : Int, ∃ i24 : Int, CellsAt B h20 ⟨k6, 0, none⟩ 0 [(.int .i64 (i21)), (.int .i64 (i22)), (.int .i64 (i23)), (.int .i64 (i24))] ∧ Fin B h20 (Q (i21) (i22) (i23) (i24)))
def S_world_World_Notes (B : RO) (p1 : Option Addr) (h : Heap) (Q : Option Addr → Nat → Nat → Heap → Prop) : Prop :=
 (p1 = none →
 Fin B h (Q none 0 0)) ∧ (¬ (p1 = none) →
 ∃ A6 : Addr, p1 = some A6 ∧
 LdSl B h (Addr.add A6 9) fun a8 n9 c10 h11 =>
 C_slices_Clone_s_world_Note_world_Note B a8 n9 c10 h11 (fun a13 n14 c15 h12 =>
 Fin B h12 (Q a13 n14 c15)))
def S_world_World_Disk (B : RO) (p1 : Option Addr) (h : Heap) (Q : Option Addr → Heap → Prop) : Prop :=
 (p1 = none →
 Fin B h (Q none)) ∧ (¬ (p1 = none) →
 ∃ A4 : Addr, p1 = some A4 ∧
 ∃ p6 : Option Addr, cellH B h (Addr.add A4 3) = some (.pointer p6) ∧
 Fin B h (Q p6))
def S_world_World_Add_J1 (B : RO) (p1 : Option Addr) (a2 : Option Addr) (n3 : Nat) (c4 : Nat) (i6 : Int) (m8 : Nat) (J11 : Int → Nat → Heap → Prop) (k16 : Nat) (b20 : Bool) (h21 : Heap) (Q : Heap → Prop) : Prop :=
 (b20 = true →
 ∃ i22 : Int, cellH B h21 ⟨k16, 0, none⟩ = some (.int .i64 (i22)) ∧
 ∃ A23 : Addr, p1 = some A23 ∧
 0 ≤ (i22 : Int) ∧ (i22 : Int) < (4 : Nat) ∧
 ∃ i25 : Int, cellH B h21 (Addr.add (Addr.add A23 5) (Int.toNat (i22) * 1)) = some (.int .i64 (i25)) ∧
 ∃ i26 : Int, cellH B h21 ⟨k16, 1, none⟩ = some (.int .i64 (i26)) ∧
 ∃ A27 : Addr, p1 = some A27 ∧
 0 ≤ (i22 : Int) ∧ (i22 : Int) < (4 : Nat) ∧
 ∃ h29 : Heap, storeH h21 (Addr.add (Addr.add A27 5) (Int.toNat (i22) * 1)) (.int .i64 (IntKind.wrap .i64 ((i25) + (i26)))) = some h29 ∧
 Fin B h29 (fun h' => ∃ m', m' < m8 ∧ J11 (IntKind.wrap .i64 ((i6) + (1))) m' h')) ∧ (b20 = false →
 Fin B h21 (fun h' => ∃ m', m' < m8 ∧ J11 (IntKind.wrap .i64 ((i6) + (1))) m' h'))
def S_world_World_Add (B : RO) (p1 : Option Addr) (a2 : Option Addr) (n3 : Nat) (c4 : Nat) (h : Heap) (Q : Heap → Prop) : Prop :=
 (p1 = none →
 Fin B h (Q)) ∧ (¬ (p1 = none) →
 ∃ (J11 : Int → Nat → Heap → Prop) (m9 : Nat), Fin B h (J11 (0) m9) ∧
 ∀ (i6 : Int) (m8 : Nat) (h7 : Heap), J11 i6 m8 h7 →
 ((i6 : Int) < ((n3 : Nat)) →
 ∃ A12 : Addr, a2 = some A12 ∧ 0 ≤ (i6 : Int) ∧ (i6 : Int) < (n3 : Nat) ∧
 ∃ i14 : Int, ∃ i15 : Int, CellsAt B h7 (Addr.add A12 (Int.toNat (i6) * 2)) 0 [(.int .i64 (i14)), (.int .i64 (i15))] ∧
 ∀ k16 : Nat, h7 k16 = none → B k16 = none → ∀ h17 : Heap, h17 = Heap.set h7 k16 (.vec 59 (plains [(.int .i64 (0)), (.int .i64 (0))]) 2) →
 ∃ h18 : Heap, StoresAt ⟨k16, 0, none⟩ h17 0 [(.int .i64 (i14)), (.int .i64 (i15))] h18 ∧
 ∃ i30 : Int, cellH B h18 ⟨k16, 0, none⟩ = some (.int .i64 (i30)) ∧
 ((i30 : Int) ≥ (0) →
 ∃ i31 : Int, cellH B h18 ⟨k16, 0, none⟩ = some (.int .i64 (i31)) ∧
 ((i31 : Int) < (4) →
 Fin B h18 (fun h' => S_world_World_Add_J1 B p1 a2 n3 c4 i6 m8 J11 k16 (true) h' Q)) ∧ (¬ ((i31 : Int) < (4)) →
 Fin B h18 (fun h' => S_world_World_Add_J1 B p1 a2 n3 c4 i6 m8 J11 k16 (false) h' Q))) ∧ (¬ ((i30 : Int) ≥ (0)) →
 Fin B h18 (fun h' => S_world_World_Add_J1 B p1 a2 n3 c4 i6 m8 J11 k16 (false) h' Q))) ∧ (¬ ((i6 : Int) < ((n3 : Nat))) →
 Fin B h7 (Q)))
def S_world_World_Send (B : RO) (p1 : Option Addr) (a2 : Option Addr) (n3 : Nat) (c4 : Nat) (h : Heap) (Q : Heap → Prop) : Prop :=
 (p1 = none →
 Fin B h (Q)) ∧ (¬ (p1 = none) →
 ∃ (J11 : Int → Nat → Heap → Prop) (m9 : Nat), Fin B h (J11 (0) m9) ∧
 ∀ (i6 : Int) (m8 : Nat) (h7 : Heap), J11 i6 m8 h7 →
 ((i6 : Int) < ((n3 : Nat)) →
 ∃ A12 : Addr, a2 = some A12 ∧ 0 ≤ (i6 : Int) ∧ (i6 : Int) < (n3 : Nat) ∧
 ∃ i14 : Int, ∃ i15 : Int, CellsAt B h7 (Addr.add A12 (Int.toNat (i6) * 2)) 0 [(.int .i64 (i14)), (.int .u8 (i15))] ∧
 ∀ k16 : Nat, h7 k16 = none → B k16 = none → ∀ h17 : Heap, h17 = Heap.set h7 k16 (.vec 62 (plains [(.int .i64 (0)), (.int .u8 (0))]) 2) →
 ∃ h18 : Heap, StoresAt ⟨k16, 0, none⟩ h17 0 [(.int .i64 (i14)), (.int .u8 (i15))] h18 ∧
 ∃ A20 : Addr, p1 = some A20 ∧
 ∃ p24 : Option Addr, cellH B h18 (Addr.add A20 1) = some (.pointer p24) ∧
 ∃ i27 : Int, cellH B h18 ⟨k16, 0, none⟩ = some (.int .i64 (i27)) ∧
 ∃ i30 : Int, cellH B h18 ⟨k16, 1, none⟩ = some (.int .u8 (i30)) ∧
 ∀ k32 : Nat, h18 k32 = none → B k32 = none → ∀ h33 : Heap, h33 = Heap.set h18 k32 (.vec 5 (plains [(.int .u8 (i30))]) 1) →
 cellH B h33 (Addr.add A20 1) = some (.pointer p24) ∧ cellH B h33 ⟨k16, 0, none⟩ = some (.int .i64 (i27)) ∧ cellH B h33 ⟨k16, 1, none⟩ = some (.int .u8 (i30)) ∧
 semH PG B (convert 63 9 (.slice (some ⟨k32, 0, none⟩) 1 1)) h33 (fun v h38 => ∃ s37 : ByteArray, v = (.string s37) ∧
 cellH B h38 (Addr.add A20 1) = some (.pointer p24) ∧ cellH B h38 ⟨k16, 0, none⟩ = some (.int .i64 (i27)) ∧ cellH B h38 ⟨k16, 1, none⟩ = some (.int .u8 (i30)) ∧
 C_wire_Wire_Push B p24 (i27) s37 h38 (fun b43 h42 =>
 Fin B h42 (fun h' => ∃ m', m' < m8 ∧ J11 (IntKind.wrap .i64 ((i6) + (1))) m' h')))) ∧ (¬ ((i6 : Int) < ((n3 : Nat))) →
 Fin B h7 (Q)))
def S_world_World_Tell (B : RO) (p1 : Option Addr) (i2 : Int) (a3 : Option Addr) (n4 : Nat) (c5 : Nat) (h : Heap) (Q : Heap → Prop) : Prop :=
 (p1 = none →
 Fin B h (Q)) ∧ (¬ (p1 = none) →
 ∃ (J12 : Int → Nat → Heap → Prop) (m10 : Nat), Fin B h (J12 (0) m10) ∧
 ∀ (i7 : Int) (m9 : Nat) (h8 : Heap), J12 i7 m9 h8 →
 ((i7 : Int) < ((n4 : Nat)) →
 ∃ A13 : Addr, a3 = some A13 ∧ 0 ≤ (i7 : Int) ∧ (i7 : Int) < (n4 : Nat) ∧
 ∃ i15 : Int, cellH B h8 (Addr.add A13 (Int.toNat (i7) * 1)) = some (.int .i64 (i15)) ∧
 ∃ A16 : Addr, p1 = some A16 ∧
 LdSl B h8 (Addr.add A16 9) fun a18 n19 c20 h21 =>
 ∀ k22 : Nat, h21 k22 = none → B k22 = none → ∀ h23 : Heap, h23 = Heap.set h21 k22 (.vec 66 (plains [(.int .i64 (i2)), (.int .i64 (i15))]) 2) →
 semH PG B (Builtin.append_ #[49, 49] 49 #[(.slice a18 n19 c20), (.slice (some ⟨k22, 0, none⟩) 1 1)]) h23 (fun v h24 => ∃ a25 : Option Addr, ∃ n26 : Nat, ∃ c27 : Nat, v = (.slice a25 n26 c27) ∧
 ∃ A28 : Addr, p1 = some A28 ∧
 ∃ h30 : Heap, storeH h24 (Addr.add A28 9) (.slice a25 n26 c27) = some h30 ∧
 Fin B h30 (fun h' => ∃ m', m' < m9 ∧ J12 (IntKind.wrap .i64 ((i7) + (1))) m' h'))) ∧ (¬ ((i7 : Int) < ((n4 : Nat))) →
 Fin B h8 (Q)))
def S_world_World_Fail (B : RO) (p1 : Option Addr) (i2 : Int) (h : Heap) (Q : Heap → Prop) : Prop :=
 (p1 = none →
 Fin B h (Q)) ∧ (¬ (p1 = none) →
 ∃ A4 : Addr, p1 = some A4 ∧
 ∃ h6 : Heap, storeH h (Addr.add A4 11) (.int .i64 (if (0 : Int) > (i2) then (0 : Int) else (i2))) = some h6 ∧
 Fin B h6 (Q))
def S_world_World_Write_J1 (B : RO) (p1 : Option Addr) (p2 : Option Addr) (h18 : Heap) (Q : Int → Heap → Prop) : Prop :=
 ∃ A20 : Addr, p1 = some A20 ∧
 ∃ p24 : Option Addr, cellH B h18 (Addr.add A20 4) = some (.pointer p24) ∧
 ∃ A27 : Addr, p1 = some A27 ∧
 ∃ i31 : Int, cellH B h18 (Addr.add A27 10) = some (.int .i64 (i31)) ∧
 C_redo_Bytes B (IntKind.wrap .i64 ((i31) + (1))) p2 h18 (fun s36 h35 =>
 cellH B h35 (Addr.add A20 4) = some (.pointer p24) ∧ cellH B h35 (Addr.add A27 10) = some (.int .i64 (i31)) ∧
 C_vault_Vault_Append B p24 s36 h35 (fun i40 h39 =>
 cellH B h39 (Addr.add A20 4) = some (.pointer p24) ∧ cellH B h39 (Addr.add A27 10) = some (.int .i64 (i31)) ∧
 Fin B h39 (Q (i40))))
def S_world_World_Write (B : RO) (p1 : Option Addr) (p2 : Option Addr) (h : Heap) (Q : Int → Heap → Prop) : Prop :=
 (p1 = none →
 Fin B h (Q (2))) ∧ (¬ (p1 = none) →
 ∃ A5 : Addr, p1 = some A5 ∧
 ∃ i7 : Int, cellH B h (Addr.add A5 11) = some (.int .i64 (i7)) ∧
 ((i7 : Int) > (0) →
 ∃ A8 : Addr, p1 = some A8 ∧
 ∃ i10 : Int, cellH B h (Addr.add A8 11) = some (.int .i64 (i10)) ∧
 ∃ A11 : Addr, p1 = some A11 ∧
 ∃ h13 : Heap, storeH h (Addr.add A11 11) (.int .i64 (IntKind.wrap .i64 ((i10) - (1)))) = some h13 ∧
 Fin B h13 (Q (7))) ∧ (¬ ((i7 : Int) > (0)) →
 ∃ A14 : Addr, p1 = some A14 ∧
 ∃ i16 : Int, cellH B h (Addr.add A14 10) = some (.int .i64 (i16)) ∧
 ((i16 : Int) ≥ (1099511627776) →
 Fin B h (Q (6))) ∧ (¬ ((i16 : Int) ≥ (1099511627776)) →
 ∃ A43 : Addr, p1 = some A43 ∧
 ∃ p45 : Option Addr, cellH B h (Addr.add A43 4) = some (.pointer p45) ∧
 C_vault_Vault_Size B p45 h (fun i47 h46 =>
 ((i47 : Int) > (2048) →
 ∃ A49 : Addr, p1 = some A49 ∧
 ∃ p53 : Option Addr, cellH B h46 (Addr.add A49 4) = some (.pointer p53) ∧
 ∃ A56 : Addr, p1 = some A56 ∧
 ∃ i60 : Int, cellH B h46 (Addr.add A56 10) = some (.int .i64 (i60)) ∧
 ∃ A63 : Addr, p1 = some A63 ∧
 ∃ p67 : Option Addr, cellH B h46 A63 = some (.pointer p67) ∧
 ∃ A69 : Addr, p67 = some A69 ∧
 ∃ p73 : Option Addr, cellH B h46 (Addr.add A69 1) = some (.pointer p73) ∧
 C_world_image B (i60) p73 h46 (fun s76 h75 =>
 cellH B h75 (Addr.add A49 4) = some (.pointer p53) ∧ cellH B h75 (Addr.add A56 10) = some (.int .i64 (i60)) ∧ cellH B h75 A63 = some (.pointer p67) ∧ cellH B h75 (Addr.add A69 1) = some (.pointer p73) ∧
 C_vault_Vault_Settle B p53 s76 h75 (fun i82 h81 =>
 cellH B h81 (Addr.add A49 4) = some (.pointer p53) ∧ cellH B h81 (Addr.add A56 10) = some (.int .i64 (i60)) ∧ cellH B h81 A63 = some (.pointer p67) ∧ cellH B h81 (Addr.add A69 1) = some (.pointer p73) ∧
 ((i82 : Int) = 0 →
 Fin B h81 (fun h' => S_world_World_Write_J1 B p1 p2 h' Q)) ∧ (¬ ((i82 : Int) = 0) →
 Fin B h81 (Q (i82)))))) ∧ (¬ ((i47 : Int) > (2048)) →
 Fin B h46 (fun h' => S_world_World_Write_J1 B p1 p2 h' Q))))))
def S_world_World_Done (B : RO) (p1 : Option Addr) (h : Heap) (Q : Heap → Prop) : Prop :=
 (p1 = none →
 Fin B h (Q)) ∧ (¬ (p1 = none) →
 ∃ A3 : Addr, p1 = some A3 ∧
 ∃ i5 : Int, cellH B h (Addr.add A3 10) = some (.int .i64 (i5)) ∧
 ∃ A6 : Addr, p1 = some A6 ∧
 ∃ h8 : Heap, storeH h (Addr.add A6 10) (.int .i64 (IntKind.wrap .i64 ((i5) + (1)))) = some h8 ∧
 Fin B h8 (Q))
def S_world_World_Wire (B : RO) (p1 : Option Addr) (h : Heap) (Q : Option Addr → Heap → Prop) : Prop :=
 (p1 = none →
 Fin B h (Q none)) ∧ (¬ (p1 = none) →
 ∃ A4 : Addr, p1 = some A4 ∧
 ∃ p6 : Option Addr, cellH B h (Addr.add A4 1) = some (.pointer p6) ∧
 Fin B h (Q p6))
def S_wire_Wire_All (B : RO) (p1 : Option Addr) (i2 : Int) (h : Heap) (Q : ByteArray → Heap → Prop) : Prop :=
 C_wire_Wire_at B p1 (i2) h (fun p5 h4 =>
 (p5 = none →
 Fin B h4 (Q (ByteArray.mk #[]))) ∧ (¬ (p5 = none) →
 ∃ A7 : Addr, p5 = some A7 ∧
 ∃ s9 : ByteArray, cellH B h4 (Addr.add A7 2) = some (.string s9) ∧
 ∃ A10 : Addr, p5 = some A10 ∧
 ∃ s12 : ByteArray, cellH B h4 (Addr.add A10 1) = some (.string s12) ∧
 ByteArray.size s9 + ByteArray.size s12 ≤ 4611686018427387904 ∧
 ∃ A13 : Addr, p5 = some A13 ∧
 ∃ s15 : ByteArray, cellH B h4 A13 = some (.string s15) ∧
 ByteArray.size (s9 ++ s12) + ByteArray.size s15 ≤ 4611686018427387904 ∧
 Fin B h4 (Q ((s9 ++ s12) ++ s15))))
def S_world_World_Force (B : RO) (p1 : Option Addr) (h : Heap) (Q : Heap → Prop) : Prop :=
 (p1 = none →
 Fin B h (Q)) ∧ (¬ (p1 = none) →
 ∃ A3 : Addr, p1 = some A3 ∧
 ∃ p5 : Option Addr, cellH B h (Addr.add A3 4) = some (.pointer p5) ∧
 C_vault_Vault_Force B p5 h (fun h6 =>
 Fin B h6 (Q)))
def S_world_World_Token (B : RO) (p1 : Option Addr) (h : Heap) (Q : Option Addr → Heap → Prop) : Prop :=
 (p1 = none →
 Fin B h (Q none)) ∧ (¬ (p1 = none) →
 ∃ A4 : Addr, p1 = some A4 ∧
 ∃ p6 : Option Addr, cellH B h (Addr.add A4 2) = some (.pointer p6) ∧
 Fin B h (Q p6))
def S_token_Token_Free (B : RO) (p1 : Option Addr) (i2 : Int) (h : Heap) (Q : Bool → Heap → Prop) : Prop :=
 (p1 = none →
 Fin B h (Q (false))) ∧ (¬ (p1 = none) →
 ((i2 : Int) ≥ (0) →
 ∃ A5 : Addr, p1 = some A5 ∧
 ∃ i7 : Int, cellH B h A5 = some (.int .i64 (i7)) ∧
 ((i7 : Int) = (-1) →
 ∃ A8 : Addr, p1 = some A8 ∧
 ∃ i10 : Int, cellH B h (Addr.add A8 2) = some (.int .i64 (i10)) ∧
 ((i10 : Int) = (-1) →
 Fin B h (Q (true))) ∧ (¬ ((i10 : Int) = (-1)) →
 ∃ A11 : Addr, p1 = some A11 ∧
 ∃ i13 : Int, cellH B h (Addr.add A11 2) = some (.int .i64 (i13)) ∧
 Fin B h (Q (((i13 : Int) == (i2)))))) ∧ (¬ ((i7 : Int) = (-1)) →
 ∃ A14 : Addr, p1 = some A14 ∧
 ∃ i16 : Int, cellH B h A14 = some (.int .i64 (i16)) ∧
 ((i16 : Int) = i2 →
 ∃ A17 : Addr, p1 = some A17 ∧
 ∃ i19 : Int, cellH B h (Addr.add A17 2) = some (.int .i64 (i19)) ∧
 ((i19 : Int) = (-1) →
 Fin B h (Q (true))) ∧ (¬ ((i19 : Int) = (-1)) →
 ∃ A20 : Addr, p1 = some A20 ∧
 ∃ i22 : Int, cellH B h (Addr.add A20 2) = some (.int .i64 (i22)) ∧
 Fin B h (Q (((i22 : Int) == (i2)))))) ∧ (¬ ((i16 : Int) = i2) →
 Fin B h (Q (false))))) ∧ (¬ ((i2 : Int) ≥ (0)) →
 Fin B h (Q (false))))
def S_disk_good (B : RO) (i1 : Int) (h : Heap) (Q : Bool → Heap → Prop) : Prop :=
 ((i1 : Int) = 0 →
 Fin B h (Q (true))) ∧ (¬ ((i1 : Int) = 0) →
 Fin B h (Q (((i1 : Int) == (1)))))
def S_vault_Open_J1 (B : RO) (p1 : Option Addr) (k8 : Nat) (k16 : Nat) (k18 : Nat) (i20 : Int) (m22 : Nat) (J25 : Int → Nat → Heap → Prop) (p27 : Option Addr) (i30 : Int) (k35 : Nat) (b39 : Bool) (h40 : Heap) (Q : Option Addr → ByteArray → Option Addr → Nat → Nat → Int → Heap → Prop) : Prop :=
 (b39 = true →
 ∃ s45 : ByteArray, ∃ a46 : Option Addr, ∃ n47 : Nat, ∃ c48 : Nat, CellsAt B h40 ⟨k35, 0, none⟩ 0 [(.string s45), (.slice a46 n47 c48)] ∧
 ∃ h52 : Heap, storeH h40 ⟨k16, 1, none⟩ (.pointer p27) = some h52 ∧
 CellsAt B h52 ⟨k35, 0, none⟩ 0 [(.string s45), (.slice a46 n47 c48)] ∧
 ∃ h54 : Heap, storeH h52 ⟨k16, 2, none⟩ (.int .i64 (i30)) = some h54 ∧
 CellsAt B h54 ⟨k35, 0, none⟩ 0 [(.string s45), (.slice a46 n47 c48)] ∧
 ∃ h56 : Heap, StoresAt ⟨k18, 0, none⟩ h54 0 [(.string s45), (.slice a46 n47 c48)] h56 ∧
 Fin B h56 (fun h' => ∃ m', m' < m22 ∧ J25 (IntKind.wrap .i64 ((i20) + (1))) m' h')) ∧ (b39 = false →
 Fin B h40 (fun h' => ∃ m', m' < m22 ∧ J25 (IntKind.wrap .i64 ((i20) + (1))) m' h'))
def S_vault_Open (B : RO) (p1 : Option Addr) (h : Heap) (Q : Option Addr → ByteArray → Option Addr → Nat → Nat → Int → Heap → Prop) : Prop :=
 ∀ k8 : Nat, h k8 = none → B k8 = none → ∀ h9 : Heap, h9 = Heap.set h k8 (.vec 99 (plains [(.string ByteArray.empty), (.slice none 0 0)]) 2) →
 (p1 = none →
 ∃ h11 : Heap, StoresAt ⟨k8, 0, none⟩ h9 0 [(.string ByteArray.empty), (.slice none 0 0)] h11 ∧
 ∃ s12 : ByteArray, ∃ a13 : Option Addr, ∃ n14 : Nat, ∃ c15 : Nat, CellsAt B h11 ⟨k8, 0, none⟩ 0 [(.string s12), (.slice a13 n14 c15)] ∧ Fin B h11 (Q none s12 a13 n14 c15 (2))) ∧ (¬ (p1 = none) →
 ∀ k16 : Nat, h9 k16 = none → B k16 = none → ∀ h17 : Heap, h17 = Heap.set h9 k16 (.vec 135 (plains [(.pointer p1), (.pointer none), (.int .i64 (0)), (.bool false)]) 4) →
 ∀ k18 : Nat, h17 k18 = none → B k18 = none → ∀ h19 : Heap, h19 = Heap.set h17 k18 (.vec 99 (plains [(.string ByteArray.empty), (.slice none 0 0)]) 2) →
 ∃ (J25 : Int → Nat → Heap → Prop) (m23 : Nat), Fin B h19 (J25 (0) m23) ∧
 ∀ (i20 : Int) (m22 : Nat) (h21 : Heap), J25 i20 m22 h21 →
 ((i20 : Int) < (2) →
 C_wal_Open B p1 (i20) h21 (fun p27 i28 h26 =>
 C_vault_look B p27 h26 (fun i30 s31 a32 n33 c34 h29 =>
 ∀ k35 : Nat, h29 k35 = none → B k35 = none → ∀ h36 : Heap, h36 = Heap.set h29 k35 (.vec 99 (plains [(.string ByteArray.empty), (.slice none 0 0)]) 2) →
 ∃ h37 : Heap, StoresAt ⟨k35, 0, none⟩ h36 0 [(.string s31), (.slice a32 n33 c34)] h37 ∧
 ∃ p57 : Option Addr, cellH B h37 ⟨k16, 1, none⟩ = some (.pointer p57) ∧
 (p57 = none →
 Fin B h37 (fun h' => S_vault_Open_J1 B p1 k8 k16 k18 i20 m22 J25 p27 i30 k35 (true) h' Q)) ∧ (¬ (p57 = none) →
 ∃ i59 : Int, cellH B h37 ⟨k16, 2, none⟩ = some (.int .i64 (i59)) ∧
 ((i30 : Int) > (i59) →
 Fin B h37 (fun h' => S_vault_Open_J1 B p1 k8 k16 k18 i20 m22 J25 p27 i30 k35 (true) h' Q)) ∧ (¬ ((i30 : Int) > (i59)) →
 Fin B h37 (fun h' => S_vault_Open_J1 B p1 k8 k16 k18 i20 m22 J25 p27 i30 k35 (false) h' Q)))))) ∧ (¬ ((i20 : Int) < (2)) →
 ∃ s61 : ByteArray, ∃ a62 : Option Addr, ∃ n63 : Nat, ∃ c64 : Nat, CellsAt B h21 ⟨k18, 0, none⟩ 0 [(.string s61), (.slice a62 n63 c64)] ∧
 ∃ h67 : Heap, StoresAt ⟨k8, 0, none⟩ h21 0 [(.string s61), (.slice a62 n63 c64)] h67 ∧
 CellsAt B h67 ⟨k18, 0, none⟩ 0 [(.string s61), (.slice a62 n63 c64)] ∧
 ∃ s69 : ByteArray, ∃ a70 : Option Addr, ∃ n71 : Nat, ∃ c72 : Nat, CellsAt B h67 ⟨k8, 0, none⟩ 0 [(.string s69), (.slice a70 n71 c72)] ∧ Fin B h67 (Q (some ⟨k16, 0, none⟩) s69 a70 n71 c72 (0))))
def S_world_read (B : RO) (s1 : ByteArray) (h : Heap) (Q : Int → Option Addr → Bool → Heap → Prop) : Prop :=
 (s1 = (ByteArray.mk #[]) →
 C_tome_New B h (fun p7 h6 =>
 Fin B h6 (Q (0) p7 (true)))) ∧ (¬ (s1 = (ByteArray.mk #[])) →
 C_stylus_Of B s1 h (fun p9 h8 =>
 C_stylus_Reader_Nat B p9 (1099511627776) h8 (fun i11 h10 =>
 C_stylus_Reader_Bad B p9 h10 (fun b13 h12 =>
 (b13 = true →
 Fin B h12 (Q (0) none (false))) ∧ (b13 = false →
 C_stylus_Reader_Left B p9 h12 (fun i15 h14 =>
 C_stylus_Reader_Raw B p9 (i15) h14 (fun s17 h16 =>
 C_tome_Read B s17 h16 (fun p19 b20 h18 =>
 Fin B h18 (Q (i11) p19 (b20))))))))))
def S_redo_Replay (B : RO) (p1 : Option Addr) (a2 : Option Addr) (n3 : Nat) (c4 : Nat) (h : Heap) (Q : Int → Int → Heap → Prop) : Prop :=
 ∃ (J13 : Int → Int → Nat → Heap → Prop) (m11 : Nat), Fin B h (J13 (0) (0) m11) ∧
 ∀ (i7 : Int) (i8 : Int) (m10 : Nat) (h9 : Heap), J13 i7 i8 m10 h9 →
 ((i8 : Int) < ((n3 : Nat)) →
 ∃ A14 : Addr, a2 = some A14 ∧ 0 ≤ (i8 : Int) ∧ (i8 : Int) < (n3 : Nat) ∧
 ∃ s16 : ByteArray, cellH B h9 (Addr.add A14 (Int.toNat (i8) * 1)) = some (.string s16) ∧
 C_redo_Read B s16 h9 (fun i18 a19 n20 c21 b22 h17 =>
 (b22 = true →
 C_redo_Apply B p1 a19 n20 c21 (0) h17 (fun h23 =>
 Fin B h23 (fun h' => ∃ m', m' < m10 ∧ J13 (if (i18 : Int) > (i7) then (i18 : Int) else (i7)) (IntKind.wrap .i64 ((i8) + (1))) m' h'))) ∧ (b22 = false →
 Fin B h17 (Q (i7) (i8))))) ∧ (¬ ((i8 : Int) < ((n3 : Nat))) →
 Fin B h9 (Q (i7) ((n3 : Nat))))
def S_vault_Vault_Settle_J1 (B : RO) (p1 : Option Addr) (s2 : ByteArray) (h5 : Heap) (Q : Int → Heap → Prop) : Prop :=
 ∀ k6 : Nat, h5 k6 = none → B k6 = none → ∀ h7 : Heap, h7 = Heap.set h5 k6 (.vec 152 (plains [(.slice none 0 0)]) 1) →
 ∃ A8 : Addr, p1 = some A8 ∧
 ∃ i10 : Int, cellH B h7 (Addr.add A8 2) = some (.int .i64 (i10)) ∧
 ∀ k11 : Nat, h7 k11 = none → B k11 = none → ∀ h12 : Heap, h12 = Heap.set h7 k11 (.vec 3 (plains [(.int .i64 (0)), (.int .i64 (IntKind.wrap .i64 ((i10) + (1))))]) 2) →
 C_stylus_Stylus_Nat B (some ⟨k6, 0, none⟩) (some ⟨k11, 0, none⟩) 2 2 h12 (fun h13 =>
 C_stylus_Stylus_Raw B (some ⟨k6, 0, none⟩) s2 h13 (fun h14 =>
 C_stylus_Stylus_Bytes B (some ⟨k6, 0, none⟩) h14 (fun s16 h15 =>
 (((ByteArray.size s16 : Nat) : Int) > (1024) →
 Fin B h15 (Q (3))) ∧ (¬ (((ByteArray.size s16 : Nat) : Int) > (1024)) →
 ∃ A17 : Addr, p1 = some A17 ∧
 ∃ p19 : Option Addr, cellH B h15 (Addr.add A17 1) = some (.pointer p19) ∧
 ∃ A21 : Addr, p1 = some A21 ∧
 ∃ p25 : Option Addr, cellH B h15 A21 = some (.pointer p25) ∧
 C_wal_Log_Area B p19 h15 (fun i29 h28 =>
 cellH B h28 A21 = some (.pointer p25) ∧
 C_wal_Open B p25 (IntKind.wrap .i64 ((1) - (i29))) h28 (fun p32 i33 h31 =>
 cellH B h31 A21 = some (.pointer p25) ∧
 C_wal_Log_Clear B p32 h31 (fun h35 =>
 C_wal_Log_Force B p32 h35 (fun h36 =>
 C_stylus_Stylus_Bytes B (some ⟨k6, 0, none⟩) h36 (fun s38 h37 =>
 C_wal_Log_Append B p32 s38 h37 (fun i40 h39 =>
 C_wal_Log_Force B p32 h39 (fun h41 =>
 C_wal_Log_Clear B p19 h41 (fun h42 =>
 C_wal_Log_Force B p19 h42 (fun h43 =>
 ∃ A44 : Addr, p1 = some A44 ∧
 ∃ i46 : Int, cellH B h43 (Addr.add A44 2) = some (.int .i64 (i46)) ∧
 ∃ A47 : Addr, p1 = some A47 ∧
 ∃ h49 : Heap, storeH h43 (Addr.add A47 1) (.pointer p32) = some h49 ∧
 ∃ A50 : Addr, p1 = some A50 ∧
 ∃ h52 : Heap, storeH h49 (Addr.add A50 2) (.int .i64 (IntKind.wrap .i64 ((i46) + (1)))) = some h52 ∧
 ∃ A53 : Addr, p1 = some A53 ∧
 ∃ h55 : Heap, storeH h52 (Addr.add A53 3) (.bool true) = some h55 ∧
 Fin B h55 (Q (0)))))))))))))))
def S_vault_Vault_Settle (B : RO) (p1 : Option Addr) (s2 : ByteArray) (h : Heap) (Q : Int → Heap → Prop) : Prop :=
 (p1 = none →
 Fin B h (Q (2))) ∧ (¬ (p1 = none) →
 ∃ A57 : Addr, p1 = some A57 ∧
 ∃ i59 : Int, cellH B h (Addr.add A57 2) = some (.int .i64 (i59)) ∧
 ((i59 : Int) ≥ (1099511627776) →
 Fin B h (Q (6))) ∧ (¬ ((i59 : Int) ≥ (1099511627776)) →
 Fin B h (fun h' => S_vault_Vault_Settle_J1 B p1 s2 h' Q)))
def S_world_image (B : RO) (i1 : Int) (p2 : Option Addr) (h : Heap) (Q : ByteArray → Heap → Prop) : Prop :=
 ∀ k4 : Nat, h k4 = none → B k4 = none → ∀ h5 : Heap, h5 = Heap.set h k4 (.vec 152 (plains [(.slice none 0 0)]) 1) →
 ∀ k6 : Nat, h5 k6 = none → B k6 = none → ∀ h7 : Heap, h7 = Heap.set h5 k6 (.vec 3 (plains [(.int .i64 (i1))]) 1) →
 C_stylus_Stylus_Nat B (some ⟨k4, 0, none⟩) (some ⟨k6, 0, none⟩) 1 1 h7 (fun h8 =>
 C_tome_Tome_Bytes B p2 h8 (fun s10 h9 =>
 C_stylus_Stylus_Raw B (some ⟨k4, 0, none⟩) s10 h9 (fun h11 =>
 C_stylus_Stylus_Bytes B (some ⟨k4, 0, none⟩) h11 (fun s13 h12 =>
 Fin B h12 (Q s13)))))
def S_attempt_NewView (B : RO) (h : Heap) (Q : Option Addr → Heap → Prop) : Prop :=
 C_cell_New_int B (8) (0) h (fun p3 h2 =>
 C_tome_New B h2 (fun p5 h4 =>
 C_feed_New B h4 (fun p7 h6 =>
 ∀ k8 : Nat, h6 k8 = none → B k8 = none → ∀ h9 : Heap, h9 = Heap.set h6 k8 (.vec 44 (plains [(.pointer p3), (.pointer p5), (.pointer p7), (.int .i64 (0))]) 4) →
 Fin B h9 (Q (some ⟨k8, 0, none⟩)))))
def S_wire_New (B : RO) (h : Heap) (Q : Option Addr → Heap → Prop) : Prop :=
 ∀ k2 : Nat, h k2 = none → B k2 = none → ∀ h3 : Heap, h3 = Heap.set h k2 (.vec 160 (plains [(.string ByteArray.empty), (.string ByteArray.empty), (.string ByteArray.empty), (.string ByteArray.empty), (.string ByteArray.empty), (.string ByteArray.empty), (.string ByteArray.empty), (.string ByteArray.empty), (.string ByteArray.empty)]) 9) →
 Fin B h3 (Q (some ⟨k2, 0, none⟩))
def S_token_New (B : RO) (h : Heap) (Q : Option Addr → Heap → Prop) : Prop :=
 ∀ k2 : Nat, h k2 = none → B k2 = none → ∀ h3 : Heap, h3 = Heap.set h k2 (.vec 126 (plains [(.int .i64 ((-1))), (.bool false), (.int .i64 ((-1)))]) 3) →
 Fin B h3 (Q (some ⟨k2, 0, none⟩))
def S_slices_Clone_s_world_Note_world_Note (B : RO) (a1 : Option Addr) (n2 : Nat) (c3 : Nat) (h : Heap) (Q : Option Addr → Nat → Nat → Heap → Prop) : Prop :=
 (a1 = none →
 Fin B h (Q none 0 0)) ∧ (¬ (a1 = none) →
 ∀ k8 : Nat, h k8 = none → B k8 = none → ∀ h9 : Heap, h9 = Heap.set h k8 (.vec 66 [] 0) →
 semH PG B (Builtin.append_ #[49, 49] 49 #[(.slice (some ⟨k8, 0, none⟩) 0 0), (.slice a1 n2 c3)]) h9 (fun v h10 => ∃ a11 : Option Addr, ∃ n12 : Nat, ∃ c13 : Nat, v = (.slice a11 n12 c13) ∧
 Fin B h10 (Q a11 n12 c13)))
def S_disk_Disk_land (B : RO) (p1 : Option Addr) (i2 : Int) (b3 : Bool) (s4 : ByteArray) (h : Heap) (Q : Heap → Prop) : Prop :=
 ∀ k5 : Nat, h k5 = none → B k5 = none → ∀ h6 : Heap, h6 = Heap.set h k5 (.vec 87 (plains [(.int .i64 (i2)), (.bool b3), (.string s4)]) 3) →
 ∃ b7 : Bool, cellH B h6 ⟨k5, 1, none⟩ = some (.bool b7) ∧ (b7 = true →
 ∃ i16 : Int, cellH B h6 ⟨k5, 0, none⟩ = some (.int .i64 (i16)) ∧
 ∃ A17 : Addr, p1 = some A17 ∧
 0 ≤ (i16 : Int) ∧ (i16 : Int) < (2 : Nat) ∧
 ∃ h19 : Heap, storeH h6 (Addr.add (Addr.add A17 (Int.toNat (i16) * 2)) 1) (.string (ByteArray.mk #[])) = some h19 ∧
 Fin B h19 (Q)) ∧ (b7 = false →
 ∃ i8 : Int, cellH B h6 ⟨k5, 0, none⟩ = some (.int .i64 (i8)) ∧
 ∃ A9 : Addr, p1 = some A9 ∧
 0 ≤ (i8 : Int) ∧ (i8 : Int) < (2 : Nat) ∧
 ∃ s11 : ByteArray, cellH B h6 (Addr.add (Addr.add A9 (Int.toNat (i8) * 2)) 1) = some (.string s11) ∧
 ∃ s12 : ByteArray, cellH B h6 ⟨k5, 2, none⟩ = some (.string s12) ∧
 ByteArray.size s11 + ByteArray.size s12 ≤ 4611686018427387904 ∧
 ∃ A13 : Addr, p1 = some A13 ∧
 0 ≤ (i8 : Int) ∧ (i8 : Int) < (2 : Nat) ∧
 ∃ h15 : Heap, storeH h6 (Addr.add (Addr.add A13 (Int.toNat (i8) * 2)) 1) (.string (s11 ++ s12)) = some h15 ∧
 Fin B h15 (Q))
def S_wire_Wire_Push (B : RO) (p1 : Option Addr) (i2 : Int) (s3 : ByteArray) (h : Heap) (Q : Bool → Heap → Prop) : Prop :=
 C_wire_Wire_at B p1 (i2) h (fun p6 h5 =>
 (p6 = none →
 Fin B h5 (Q (false))) ∧ (¬ (p6 = none) →
 ∃ A8 : Addr, p6 = some A8 ∧
 ∃ s10 : ByteArray, cellH B h5 A8 = some (.string s10) ∧
 ByteArray.size s10 + ByteArray.size s3 ≤ 4611686018427387904 ∧
 ∃ A11 : Addr, p6 = some A11 ∧
 ∃ h13 : Heap, storeH h5 A11 (.string (s10 ++ s3)) = some h13 ∧
 Fin B h13 (Q (true))))
def S_vault_Vault_Size (B : RO) (p1 : Option Addr) (h : Heap) (Q : Int → Heap → Prop) : Prop :=
 (p1 = none →
 Fin B h (Q (0))) ∧ (¬ (p1 = none) →
 ∃ A4 : Addr, p1 = some A4 ∧
 ∃ p6 : Option Addr, cellH B h (Addr.add A4 1) = some (.pointer p6) ∧
 C_wal_Log_Size B p6 h (fun i8 h7 =>
 Fin B h7 (Q (i8))))
def S_vault_Vault_Append_J1 (B : RO) (p1 : Option Addr) (s2 : ByteArray) (h5 : Heap) (Q : Int → Heap → Prop) : Prop :=
 ∃ A7 : Addr, p1 = some A7 ∧
 ∃ p11 : Option Addr, cellH B h5 (Addr.add A7 1) = some (.pointer p11) ∧
 ∀ k14 : Nat, h5 k14 = none → B k14 = none → ∀ h15 : Heap, h15 = Heap.set h5 k14 (.vec 5 (plains [(.int .u8 (1))]) 1) →
 cellH B h15 (Addr.add A7 1) = some (.pointer p11) ∧
 semH PG B (convert 63 9 (.slice (some ⟨k14, 0, none⟩) 1 1)) h15 (fun v h18 => ∃ s17 : ByteArray, v = (.string s17) ∧
 cellH B h18 (Addr.add A7 1) = some (.pointer p11) ∧
 ByteArray.size s17 + ByteArray.size s2 ≤ 4611686018427387904 ∧
 C_wal_Log_Append B p11 (s17 ++ s2) h18 (fun i21 h20 =>
 cellH B h20 (Addr.add A7 1) = some (.pointer p11) ∧
 Fin B h20 (Q (i21))))
def S_vault_Vault_Append (B : RO) (p1 : Option Addr) (s2 : ByteArray) (h : Heap) (Q : Int → Heap → Prop) : Prop :=
 (p1 = none →
 Fin B h (Q (2))) ∧ (¬ (p1 = none) →
 ∃ A24 : Addr, p1 = some A24 ∧
 ∃ b26 : Bool, cellH B h (Addr.add A24 3) = some (.bool b26) ∧ (b26 = true →
 Fin B h (fun h' => S_vault_Vault_Append_J1 B p1 s2 h' Q)) ∧ (b26 = false →
 Fin B h (Q (9))))
def S_redo_Bytes (B : RO) (i1 : Int) (p2 : Option Addr) (h : Heap) (Q : ByteArray → Heap → Prop) : Prop :=
 ∀ k4 : Nat, h k4 = none → B k4 = none → ∀ h5 : Heap, h5 = Heap.set h k4 (.vec 152 (plains [(.slice none 0 0)]) 1) →
 ∀ k6 : Nat, h5 k6 = none → B k6 = none → ∀ h7 : Heap, h7 = Heap.set h5 k6 (.vec 150 (plains [(.pointer none)]) 1) →
 ∃ h8 : Heap, storeH h7 ⟨k6, 0, none⟩ (.pointer (some ⟨k4, 0, none⟩)) = some h8 ∧
 ∃ p9 : Option Addr, cellH B h8 ⟨k6, 0, none⟩ = some (.pointer p9) ∧
 ∀ k10 : Nat, h8 k10 = none → B k10 = none → ∀ h11 : Heap, h11 = Heap.set h8 k10 (.vec 3 (plains [(.int .i64 (i1))]) 1) →
 C_stylus_Stylus_Nat B p9 (some ⟨k10, 0, none⟩) 1 1 h11 (fun h12 =>
 C_draft_Draft_file_File_All B p2 h12 (fun v14 h13 =>
 ∃ (xs22 : List (Int × Bool × ByteArray)) (G18 : Heap → Prop) (J21 : Nat → Heap → Prop), Iter PG B v14 (xs22.map (fun x : Int × Bool × ByteArray => [(.int .i64 (x.1)), (.agg #[(.bool x.2.1), (.string x.2.2)])])) G18 ∧ Ins G18 ∧ (∀ i h, J21 i h → G18 h) ∧ Fin B h13 (J21 0) ∧
 (∀ (q20 : Nat) (h19 : Heap) (i15 : Int) (b16 : Bool) (s17 : ByteArray), xs22[q20]? = some (i15, b16, s17) → J21 q20 h19 →
 ∀ k23 : Nat, h19 k23 = none → B k23 = none → ∀ h24 : Heap, h24 = Heap.set h19 k23 (.vec 111 (plains [(.bool false), (.string ByteArray.empty)]) 2) →
 ∃ h25 : Heap, StoresAt ⟨k23, 0, none⟩ h24 0 [(.bool b16), (.string s17)] h25 ∧
 ∃ b26 : Bool, cellH B h25 ⟨k23, 0, none⟩ = some (.bool b26) ∧ (b26 = true →
 ∃ p31 : Option Addr, cellH B h25 ⟨k6, 0, none⟩ = some (.pointer p31) ∧
 ∀ k32 : Nat, h25 k32 = none → B k32 = none → ∀ h33 : Heap, h33 = Heap.set h25 k32 (.vec 3 (plains [(.int .i64 (i15)), (.int .i64 (1))]) 2) →
 C_stylus_Stylus_Nat B p31 (some ⟨k32, 0, none⟩) 2 2 h33 (fun h34 =>
 ∃ p35 : Option Addr, cellH B h34 ⟨k6, 0, none⟩ = some (.pointer p35) ∧
 ∃ s36 : ByteArray, cellH B h34 ⟨k23, 1, none⟩ = some (.string s36) ∧
 ∀ k37 : Nat, h34 k37 = none → B k37 = none → ∀ h38 : Heap, h38 = Heap.set h34 k37 (.vec 9 (plains [(.string s36)]) 1) →
 C_stylus_Stylus_Text B p35 (some ⟨k37, 0, none⟩) 1 1 h38 (fun h39 =>
 Fin B h39 (J21 (q20 + 1))))) ∧ (b26 = false →
 ∃ p27 : Option Addr, cellH B h25 ⟨k6, 0, none⟩ = some (.pointer p27) ∧
 ∀ k28 : Nat, h25 k28 = none → B k28 = none → ∀ h29 : Heap, h29 = Heap.set h25 k28 (.vec 3 (plains [(.int .i64 (i15)), (.int .i64 (0))]) 2) →
 C_stylus_Stylus_Nat B p27 (some ⟨k28, 0, none⟩) 2 2 h29 (fun h30 =>
 Fin B h30 (J21 (q20 + 1))))) ∧
 (∀ (h19 : Heap), J21 xs22.length h19 →
 ∃ p40 : Option Addr, cellH B h19 ⟨k6, 0, none⟩ = some (.pointer p40) ∧
 C_stylus_Stylus_Bytes B p40 h19 (fun s42 h41 =>
 Fin B h41 (Q s42)))))
def S_wire_Wire_at_J1 (B : RO) (p1 : Option Addr) (i2 : Int) (b5 : Bool) (h6 : Heap) (Q : Option Addr → Heap → Prop) : Prop :=
 (b5 = true →
 Fin B h6 (Q none)) ∧ (b5 = false →
 ∃ A7 : Addr, p1 = some A7 ∧
 0 ≤ (i2 : Int) ∧ (i2 : Int) < (3 : Nat) ∧
 Fin B h6 (Q (some (Addr.add A7 (Int.toNat (i2) * 3)))))
def S_wire_Wire_at (B : RO) (p1 : Option Addr) (i2 : Int) (h : Heap) (Q : Option Addr → Heap → Prop) : Prop :=
 (p1 = none →
 Fin B h (fun h' => S_wire_Wire_at_J1 B p1 i2 (true) h' Q)) ∧ (¬ (p1 = none) →
 ((i2 : Int) < (0) →
 Fin B h (fun h' => S_wire_Wire_at_J1 B p1 i2 (true) h' Q)) ∧ (¬ ((i2 : Int) < (0)) →
 ((i2 : Int) ≥ (3) →
 Fin B h (fun h' => S_wire_Wire_at_J1 B p1 i2 (true) h' Q)) ∧ (¬ ((i2 : Int) ≥ (3)) →
 Fin B h (fun h' => S_wire_Wire_at_J1 B p1 i2 (false) h' Q))))
def S_wal_Open_J1 (B : RO) (p1 : Option Addr) (i2 : Int) (h6 : Heap) (Q : Option Addr → Int → Heap → Prop) : Prop :=
 C_disk_Disk_Read B p1 (i2) h6 (fun s8 h7 =>
 C_wafer_Whole B s8 h7 (fun i10 h9 =>
 ∀ k11 : Nat, h9 k11 = none → B k11 = none → ∀ h12 : Heap, h12 = Heap.set h9 k11 (.vec 171 (plains [(.pointer p1), (.int .i64 (i2)), (.int .i64 (i10)), (.bool (decide ((i10 : Int) < ((ByteArray.size s8 : Nat)))))]) 4) →
 Fin B h12 (Q (some ⟨k11, 0, none⟩) (0))))
def S_wal_Open (B : RO) (p1 : Option Addr) (i2 : Int) (h : Heap) (Q : Option Addr → Int → Heap → Prop) : Prop :=
 (p1 = none →
 Fin B h (Q none (2))) ∧ (¬ (p1 = none) →
 ((i2 : Int) = 0 →
 Fin B h (fun h' => S_wal_Open_J1 B p1 i2 h' Q)) ∧ (¬ ((i2 : Int) = 0) →
 ((i2 : Int) = 1 →
 Fin B h (fun h' => S_wal_Open_J1 B p1 i2 h' Q)) ∧ (¬ ((i2 : Int) = 1) →
 Fin B h (Q none (1)))))
def S_vault_look_J1 (B : RO) (k11 : Nat) (s21 : ByteArray) (q24 : Nat) (J25 : Nat → Heap → Prop) (h44 : Heap) (Q : Int → ByteArray → Option Addr → Nat → Nat → Heap → Prop) : Prop :=
 ∃ a46 : Option Addr, ∃ n47 : Nat, ∃ c48 : Nat, cellH B h44 ⟨k11, 1, none⟩ = some (.slice a46 n47 c48) ∧
 0 ≤ (1 : Int) ∧ (1 : Int) ≤ ((ByteArray.size s21 : Nat) : Int) ∧ ((ByteArray.size s21 : Nat) : Int) ≤ (ByteArray.size s21 : Nat) ∧
 ∀ k55 : Nat, h44 k55 = none → B k55 = none → ∀ h56 : Heap, h56 = Heap.set h44 k55 (.vec 9 (plains [(.string (ByteArray.extract s21 (Int.toNat (1)) (Int.toNat ((ByteArray.size s21 : Nat)))))]) 1) →
 cellH B h56 ⟨k11, 1, none⟩ = some (.slice a46 n47 c48) ∧
 semH PG B (Builtin.append_ #[35, 35] 35 #[(.slice a46 n47 c48), (.slice (some ⟨k55, 0, none⟩) 1 1)]) h56 (fun v h58 => ∃ a59 : Option Addr, ∃ n60 : Nat, ∃ c61 : Nat, v = (.slice a59 n60 c61) ∧
 cellH B h58 ⟨k11, 1, none⟩ = some (.slice a46 n47 c48) ∧
 ∃ h63 : Heap, storeH h58 ⟨k11, 1, none⟩ (.slice a59 n60 c61) = some h63 ∧
 Fin B h63 (J25 (q24 + 1)))
def S_vault_look (B : RO) (p1 : Option Addr) (h : Heap) (Q : Int → ByteArray → Option Addr → Nat → Nat → Heap → Prop) : Prop :=
 ∀ k7 : Nat, h k7 = none → B k7 = none → ∀ h8 : Heap, h8 = Heap.set h k7 (.vec 3 (plains [(.int .i64 (0))]) 1) →
 ∀ k9 : Nat, h8 k9 = none → B k9 = none → ∀ h10 : Heap, h10 = Heap.set h8 k9 (.vec 99 (plains [(.string ByteArray.empty), (.slice none 0 0)]) 2) →
 ∀ k11 : Nat, h10 k11 = none → B k11 = none → ∀ h12 : Heap, h12 = Heap.set h10 k11 (.vec 99 (plains [(.string ByteArray.empty), (.slice none 0 0)]) 2) →
 ∀ k13 : Nat, h12 k13 = none → B k13 = none → ∀ h14 : Heap, h14 = Heap.set h12 k13 (.vec 3 (plains [(.int .i64 (0))]) 1) →
 ∀ k15 : Nat, h14 k15 = none → B k15 = none → ∀ h16 : Heap, h16 = Heap.set h14 k15 (.vec 3 (plains [(.int .i64 (0))]) 1) →
 ∃ h17 : Heap, storeH h16 ⟨k13, 0, none⟩ (.int .i64 (0)) = some h17 ∧
 ∃ h18 : Heap, storeH h17 ⟨k15, 0, none⟩ (.int .i64 (0)) = some h18 ∧
 C_wal_Log_All B p1 h18 (fun v20 h19 =>
 ∃ (xs26 : List (ByteArray)) (G22 : Heap → Prop) (J25 : Nat → Heap → Prop), Iter PG B v20 (xs26.map (fun x : ByteArray => [(.string x)])) G22 ∧ Ins G22 ∧ (∀ i h, J25 i h → G22 h) ∧ Fin B h19 (J25 0) ∧
 (∀ (q24 : Nat) (h23 : Heap) (s21 : ByteArray), xs26[q24]? = some (s21) → J25 q24 h23 →
 ∃ i27 : Int, cellH B h23 ⟨k15, 0, none⟩ = some (.int .i64 (i27)) ∧
 ∃ h28 : Heap, storeH h23 ⟨k15, 0, none⟩ (.int .i64 (IntKind.wrap .i64 ((i27) + (1)))) = some h28 ∧
 ∃ i29 : Int, cellH B h28 ⟨k15, 0, none⟩ = some (.int .i64 (i29)) ∧
 ((i29 : Int) = 1 →
 C_vault_first B s21 h28 (fun i31 s32 b33 h30 =>
 (b33 = true →
 ∃ h41 : Heap, storeH h30 ⟨k13, 0, none⟩ (.int .i64 (i31)) = some h41 ∧
 ∃ h42 : Heap, storeH h41 ⟨k11, 0, none⟩ (.string s32) = some h42 ∧
 Fin B h42 (J25 (q24 + 1))) ∧ (b33 = false →
 ∃ h34 : Heap, storeH h30 ⟨k7, 0, none⟩ (.int .i64 (0)) = some h34 ∧
 ∃ h35 : Heap, StoresAt ⟨k9, 0, none⟩ h34 0 [(.string ByteArray.empty), (.slice none 0 0)] h35 ∧
 ∃ i36 : Int, cellH B h35 ⟨k7, 0, none⟩ = some (.int .i64 (i36)) ∧ ∃ s37 : ByteArray, ∃ a38 : Option Addr, ∃ n39 : Nat, ∃ c40 : Nat, CellsAt B h35 ⟨k9, 0, none⟩ 0 [(.string s37), (.slice a38 n39 c40)] ∧ Fin B h35 (Q (i36) s37 a38 n39 c40)))) ∧ (¬ ((i29 : Int) = 1) →
 (s21 = (ByteArray.mk #[]) →
 ∃ i65 : Int, cellH B h28 ⟨k13, 0, none⟩ = some (.int .i64 (i65)) ∧
 ∃ s67 : ByteArray, ∃ a68 : Option Addr, ∃ n69 : Nat, ∃ c70 : Nat, CellsAt B h28 ⟨k11, 0, none⟩ 0 [(.string s67), (.slice a68 n69 c70)] ∧
 ∃ h72 : Heap, storeH h28 ⟨k7, 0, none⟩ (.int .i64 (i65)) = some h72 ∧
 cellH B h72 ⟨k13, 0, none⟩ = some (.int .i64 (i65)) ∧ CellsAt B h72 ⟨k11, 0, none⟩ 0 [(.string s67), (.slice a68 n69 c70)] ∧
 ∃ h75 : Heap, StoresAt ⟨k9, 0, none⟩ h72 0 [(.string s67), (.slice a68 n69 c70)] h75 ∧
 ∃ i76 : Int, cellH B h75 ⟨k7, 0, none⟩ = some (.int .i64 (i76)) ∧ ∃ s77 : ByteArray, ∃ a78 : Option Addr, ∃ n79 : Nat, ∃ c80 : Nat, CellsAt B h75 ⟨k9, 0, none⟩ 0 [(.string s77), (.slice a78 n79 c80)] ∧ Fin B h75 (Q (i76) s77 a78 n79 c80)) ∧ (¬ (s21 = (ByteArray.mk #[])) →
 0 ≤ (0 : Int) ∧ (0 : Int) < (ByteArray.size s21 : Nat) ∧
 ((byteAt s21 (Int.toNat (0)) : Int) = 1 →
 Fin B h28 (fun h' => S_vault_look_J1 B k11 s21 q24 J25 h' Q)) ∧ (¬ ((byteAt s21 (Int.toNat (0)) : Int) = 1) →
 ∃ i81 : Int, cellH B h28 ⟨k13, 0, none⟩ = some (.int .i64 (i81)) ∧
 ∃ s83 : ByteArray, ∃ a84 : Option Addr, ∃ n85 : Nat, ∃ c86 : Nat, CellsAt B h28 ⟨k11, 0, none⟩ 0 [(.string s83), (.slice a84 n85 c86)] ∧
 ∃ h88 : Heap, storeH h28 ⟨k7, 0, none⟩ (.int .i64 (i81)) = some h88 ∧
 cellH B h88 ⟨k13, 0, none⟩ = some (.int .i64 (i81)) ∧ CellsAt B h88 ⟨k11, 0, none⟩ 0 [(.string s83), (.slice a84 n85 c86)] ∧
 ∃ h91 : Heap, StoresAt ⟨k9, 0, none⟩ h88 0 [(.string s83), (.slice a84 n85 c86)] h91 ∧
 ∃ i92 : Int, cellH B h91 ⟨k7, 0, none⟩ = some (.int .i64 (i92)) ∧ ∃ s93 : ByteArray, ∃ a94 : Option Addr, ∃ n95 : Nat, ∃ c96 : Nat, CellsAt B h91 ⟨k9, 0, none⟩ 0 [(.string s93), (.slice a94 n95 c96)] ∧ Fin B h91 (Q (i92) s93 a94 n95 c96))))) ∧
 (∀ (h23 : Heap), J25 xs26.length h23 →
 ∃ i97 : Int, cellH B h23 ⟨k13, 0, none⟩ = some (.int .i64 (i97)) ∧
 ∃ s99 : ByteArray, ∃ a100 : Option Addr, ∃ n101 : Nat, ∃ c102 : Nat, CellsAt B h23 ⟨k11, 0, none⟩ 0 [(.string s99), (.slice a100 n101 c102)] ∧
 ∃ h104 : Heap, storeH h23 ⟨k7, 0, none⟩ (.int .i64 (i97)) = some h104 ∧
 cellH B h104 ⟨k13, 0, none⟩ = some (.int .i64 (i97)) ∧ CellsAt B h104 ⟨k11, 0, none⟩ 0 [(.string s99), (.slice a100 n101 c102)] ∧
 ∃ h107 : Heap, StoresAt ⟨k9, 0, none⟩ h104 0 [(.string s99), (.slice a100 n101 c102)] h107 ∧
 ∃ i108 : Int, cellH B h107 ⟨k7, 0, none⟩ = some (.int .i64 (i108)) ∧ ∃ s109 : ByteArray, ∃ a110 : Option Addr, ∃ n111 : Nat, ∃ c112 : Nat, CellsAt B h107 ⟨k9, 0, none⟩ 0 [(.string s109), (.slice a110 n111 c112)] ∧ Fin B h107 (Q (i108) s109 a110 n111 c112)))
def S_tome_New (B : RO) (h : Heap) (Q : Option Addr → Heap → Prop) : Prop :=
 C_cell_New_file_File B (6) (false) ByteArray.empty h (fun p3 h2 =>
 ∀ k4 : Nat, h2 k4 = none → B k4 = none → ∀ h5 : Heap, h5 = Heap.set h2 k4 (.vec 164 (plains [(.pointer p3)]) 1) →
 Fin B h5 (Q (some ⟨k4, 0, none⟩)))
def S_stylus_Of (B : RO) (s1 : ByteArray) (h : Heap) (Q : Option Addr → Heap → Prop) : Prop :=
 ∀ k3 : Nat, h k3 = none → B k3 = none → ∀ h4 : Heap, h4 = Heap.set h k3 (.vec 178 (plains [(.string s1), (.bool false)]) 2) →
 Fin B h4 (Q (some ⟨k3, 0, none⟩))
def S_stylus_Reader_Nat (B : RO) (p1 : Option Addr) (i2 : Int) (h : Heap) (Q : Int → Heap → Prop) : Prop :=
 C_stylus_Reader_word B p1 h (fun i5 h4 =>
 ((i2 : Int) < (0) →
 C_stylus_Reader_Spoil B p1 h4 (fun h6 =>
 Fin B h6 (Q (0)))) ∧ (¬ ((i2 : Int) < (0)) →
 ((i5 : Int) > (IntKind.wrap .u64 (i2)) →
 C_stylus_Reader_Spoil B p1 h4 (fun h7 =>
 Fin B h7 (Q (0)))) ∧ (¬ ((i5 : Int) > (IntKind.wrap .u64 (i2))) →
 Fin B h4 (Q (IntKind.wrap .i64 (i5))))))
def S_stylus_Reader_Bad (B : RO) (p1 : Option Addr) (h : Heap) (Q : Bool → Heap → Prop) : Prop :=
 (p1 = none →
 Fin B h (Q (true))) ∧ (¬ (p1 = none) →
 ∃ A4 : Addr, p1 = some A4 ∧
 ∃ b6 : Bool, cellH B h (Addr.add A4 1) = some (.bool b6) ∧
 Fin B h (Q (b6)))
def S_tome_Read_J1 (B : RO) (p5 : Option Addr) (p7 : Option Addr) (m10 : Nat) (J13 : Int → Nat → Heap → Prop) (i17 : Int) (s19 : ByteArray) (h21 : Heap) (Q : Option Addr → Bool → Heap → Prop) : Prop :=
 C_tome_Tome_Set B p5 (i17) (true) s19 (0) h21 (fun b23 h22 =>
 Fin B h22 (fun h' => ∃ m', m' < m10 ∧ J13 (i17) m' h'))
def S_tome_Read (B : RO) (s1 : ByteArray) (h : Heap) (Q : Option Addr → Bool → Heap → Prop) : Prop :=
 C_tome_New B h (fun p5 h4 =>
 C_stylus_Of B s1 h4 (fun p7 h6 =>
 ∃ (J13 : Int → Nat → Heap → Prop) (m11 : Nat), Fin B h6 (J13 ((-1)) m11) ∧
 ∀ (i8 : Int) (m10 : Nat) (h9 : Heap), J13 i8 m10 h9 →
 C_stylus_Reader_Left B p7 h9 (fun i15 h14 =>
 ((i15 : Int) > (0) →
 C_stylus_Reader_Nat B p7 (5) h14 (fun i17 h16 =>
 C_stylus_Reader_Text B p7 (32) h16 (fun s19 h18 =>
 C_stylus_Reader_Bad B p7 h18 (fun b25 h24 =>
 (b25 = true →
 Fin B h24 (Q none (false))) ∧ (b25 = false →
 ((i17 : Int) ≤ (i8) →
 Fin B h24 (Q none (false))) ∧ (¬ ((i17 : Int) ≤ (i8)) →
 Fin B h24 (fun h' => S_tome_Read_J1 B p5 p7 m10 J13 i17 s19 h' Q))))))) ∧ (¬ ((i15 : Int) > (0)) →
 Fin B h14 (Q p5 (true))))))
def S_stylus_Reader_Raw_J1 (B : RO) (p1 : Option Addr) (i2 : Int) (h5 : Heap) (Q : ByteArray → Heap → Prop) : Prop :=
 ∃ A6 : Addr, p1 = some A6 ∧
 ∃ s8 : ByteArray, cellH B h5 A6 = some (.string s8) ∧
 0 ≤ (0 : Int) ∧ (0 : Int) ≤ (i2 : Int) ∧ (i2 : Int) ≤ (ByteArray.size s8 : Nat) ∧
 ∃ A9 : Addr, p1 = some A9 ∧
 ∃ s11 : ByteArray, cellH B h5 A9 = some (.string s11) ∧
 0 ≤ (i2 : Int) ∧ (i2 : Int) ≤ ((ByteArray.size s11 : Nat) : Int) ∧ ((ByteArray.size s11 : Nat) : Int) ≤ (ByteArray.size s11 : Nat) ∧
 ∃ A12 : Addr, p1 = some A12 ∧
 ∃ h14 : Heap, storeH h5 A12 (.string (ByteArray.extract s11 (Int.toNat (i2)) (Int.toNat ((ByteArray.size s11 : Nat))))) = some h14 ∧
 Fin B h14 (Q (ByteArray.extract s8 (Int.toNat (0)) (Int.toNat (i2))))
def S_stylus_Reader_Raw (B : RO) (p1 : Option Addr) (i2 : Int) (h : Heap) (Q : ByteArray → Heap → Prop) : Prop :=
 (p1 = none →
 C_stylus_Reader_Spoil B p1 h (fun h16 =>
 Fin B h16 (Q (ByteArray.mk #[])))) ∧ (¬ (p1 = none) →
 ∃ A17 : Addr, p1 = some A17 ∧
 ∃ b19 : Bool, cellH B h (Addr.add A17 1) = some (.bool b19) ∧ (b19 = true →
 C_stylus_Reader_Spoil B p1 h (fun h25 =>
 Fin B h25 (Q (ByteArray.mk #[])))) ∧ (b19 = false →
 ((i2 : Int) < (0) →
 C_stylus_Reader_Spoil B p1 h (fun h20 =>
 Fin B h20 (Q (ByteArray.mk #[])))) ∧ (¬ ((i2 : Int) < (0)) →
 ∃ A21 : Addr, p1 = some A21 ∧
 ∃ s23 : ByteArray, cellH B h A21 = some (.string s23) ∧
 ((i2 : Int) > ((ByteArray.size s23 : Nat)) →
 C_stylus_Reader_Spoil B p1 h (fun h24 =>
 Fin B h24 (Q (ByteArray.mk #[])))) ∧ (¬ ((i2 : Int) > ((ByteArray.size s23 : Nat))) →
 Fin B h (fun h' => S_stylus_Reader_Raw_J1 B p1 i2 h' Q)))))
def S_stylus_Reader_Left (B : RO) (p1 : Option Addr) (h : Heap) (Q : Int → Heap → Prop) : Prop :=
 (p1 = none →
 Fin B h (Q (0))) ∧ (¬ (p1 = none) →
 ∃ A4 : Addr, p1 = some A4 ∧
 ∃ s6 : ByteArray, cellH B h A4 = some (.string s6) ∧
 Fin B h (Q ((ByteArray.size s6 : Nat))))
def S_redo_Read_J1 (B : RO) (p8 : Option Addr) (i10 : Int) (a12 : Option Addr) (n13 : Nat) (c14 : Nat) (h15 : Heap) (Q : Int → Option Addr → Nat → Nat → Bool → Heap → Prop) : Prop :=
 C_stylus_Reader_Bad B p8 h15 (fun b17 h16 =>
 (b17 = true →
 Fin B h16 (Q (0) none 0 0 (false))) ∧ (b17 = false →
 Fin B h16 (Q (i10) a12 n13 c14 (true))))
def S_redo_Read_J3 (B : RO) (p8 : Option Addr) (i10 : Int) (a18 : Option Addr) (n19 : Nat) (c20 : Nat) (m23 : Nat) (J26 : Option Addr → Nat → Nat → Int → Nat → Heap → Prop) (k31 : Nat) (h37 : Heap) (Q : Int → Option Addr → Nat → Nat → Bool → Heap → Prop) : Prop :=
 ∃ i38 : Int, cellH B h37 ⟨k31, 0, none⟩ = some (.int .i64 (i38)) ∧
 ∃ i39 : Int, ∃ b40 : Bool, ∃ s41 : ByteArray, CellsAt B h37 ⟨k31, 0, none⟩ 0 [(.int .i64 (i39)), (.bool b40), (.string s41)] ∧
 ∀ k42 : Nat, h37 k42 = none → B k42 = none → ∀ h43 : Heap, h43 = Heap.set h37 k42 (.vec 182 (plains [(.int .i64 (i39)), (.bool b40), (.string s41)]) 3) →
 semH PG B (Builtin.append_ #[146, 146] 146 #[(.slice a18 n19 c20), (.slice (some ⟨k42, 0, none⟩) 1 1)]) h43 (fun v h44 => ∃ a45 : Option Addr, ∃ n46 : Nat, ∃ c47 : Nat, v = (.slice a45 n46 c47) ∧
 Fin B h44 (fun h' => ∃ m', m' < m23 ∧ J26 a45 n46 c47 (i38) m' h'))
def S_redo_Read_J2 (B : RO) (p8 : Option Addr) (i10 : Int) (a18 : Option Addr) (n19 : Nat) (c20 : Nat) (i21 : Int) (m23 : Nat) (J26 : Option Addr → Nat → Nat → Int → Nat → Heap → Prop) (k31 : Nat) (h35 : Heap) (Q : Int → Option Addr → Nat → Nat → Bool → Heap → Prop) : Prop :=
 C_stylus_Reader_Bad B p8 h35 (fun b49 h48 =>
 (b49 = true →
 Fin B h48 (Q (0) none 0 0 (false))) ∧ (b49 = false →
 ∃ i50 : Int, cellH B h48 ⟨k31, 0, none⟩ = some (.int .i64 (i50)) ∧
 ((i50 : Int) ≤ (i21) →
 Fin B h48 (Q (0) none 0 0 (false))) ∧ (¬ ((i50 : Int) ≤ (i21)) →
 Fin B h48 (fun h' => S_redo_Read_J3 B p8 i10 a18 n19 c20 m23 J26 k31 h' Q))))
def S_redo_Read (B : RO) (s1 : ByteArray) (h : Heap) (Q : Int → Option Addr → Nat → Nat → Bool → Heap → Prop) : Prop :=
 C_stylus_Of B s1 h (fun p8 h7 =>
 C_stylus_Reader_Nat B p8 (1099511627776) h7 (fun i10 h9 =>
 ∃ (J26 : Option Addr → Nat → Nat → Int → Nat → Heap → Prop) (m24 : Nat), Fin B h9 (J26 none 0 0 ((-1)) m24) ∧
 ∀ (a18 : Option Addr) (n19 : Nat) (c20 : Nat) (i21 : Int) (m23 : Nat) (h22 : Heap), J26 a18 n19 c20 i21 m23 h22 →
 C_stylus_Reader_Left B p8 h22 (fun i28 h27 =>
 ((i28 : Int) > (0) →
 C_stylus_Reader_Nat B p8 (5) h27 (fun i30 h29 =>
 ∀ k31 : Nat, h29 k31 = none → B k31 = none → ∀ h32 : Heap, h32 = Heap.set h29 k31 (.vec 182 (plains [(.int .i64 (0)), (.bool false), (.string ByteArray.empty)]) 3) →
 ∃ h33 : Heap, StoresAt ⟨k31, 0, none⟩ h32 0 [(.int .i64 (i30)), (.bool false), (.string ByteArray.empty)] h33 ∧
 C_stylus_Reader_Nat B p8 (1) h33 (fun i52 h51 =>
 ((i52 : Int) = 1 →
 C_stylus_Reader_Text B p8 (32) h51 (fun s54 h53 =>
 ∃ h55 : Heap, StoresAt ⟨k31, 1, none⟩ h53 0 [(.bool true), (.string s54)] h55 ∧
 Fin B h55 (fun h' => S_redo_Read_J2 B p8 i10 a18 n19 c20 i21 m23 J26 k31 h' Q))) ∧ (¬ ((i52 : Int) = 1) →
 Fin B h51 (fun h' => S_redo_Read_J2 B p8 i10 a18 n19 c20 i21 m23 J26 k31 h' Q))))) ∧ (¬ ((i28 : Int) > (0)) →
 Fin B h27 (fun h' => S_redo_Read_J1 B p8 i10 a18 n19 c20 h' Q)))))
def S_redo_Apply (B : RO) (p1 : Option Addr) (a2 : Option Addr) (n3 : Nat) (c4 : Nat) (i5 : Int) (h : Heap) (Q : Heap → Prop) : Prop :=
 ∃ (J11 : Int → Nat → Heap → Prop) (m9 : Nat), Fin B h (J11 (0) m9) ∧
 ∀ (i6 : Int) (m8 : Nat) (h7 : Heap), J11 i6 m8 h7 →
 ((i6 : Int) < ((n3 : Nat)) →
 ∃ A12 : Addr, a2 = some A12 ∧ 0 ≤ (i6 : Int) ∧ (i6 : Int) < (n3 : Nat) ∧
 ∃ i14 : Int, ∃ b15 : Bool, ∃ s16 : ByteArray, CellsAt B h7 (Addr.add A12 (Int.toNat (i6) * 3)) 0 [(.int .i64 (i14)), (.bool b15), (.string s16)] ∧
 ∀ k17 : Nat, h7 k17 = none → B k17 = none → ∀ h18 : Heap, h18 = Heap.set h7 k17 (.vec 182 (plains [(.int .i64 (0)), (.bool false), (.string ByteArray.empty)]) 3) →
 ∃ h19 : Heap, StoresAt ⟨k17, 0, none⟩ h18 0 [(.int .i64 (i14)), (.bool b15), (.string s16)] h19 ∧
 ∃ i20 : Int, cellH B h19 ⟨k17, 0, none⟩ = some (.int .i64 (i20)) ∧
 ∃ b21 : Bool, ∃ s22 : ByteArray, CellsAt B h19 ⟨k17, 1, none⟩ 0 [(.bool b21), (.string s22)] ∧
 C_tome_Tome_Set B p1 (i20) (b21) s22 (i5) h19 (fun b24 h23 =>
 Fin B h23 (fun h' => ∃ m', m' < m8 ∧ J11 (IntKind.wrap .i64 ((i6) + (1))) m' h'))) ∧ (¬ ((i6 : Int) < ((n3 : Nat))) →
 Fin B h7 (Q))
def S_stylus_Stylus_Nat_J1 (B : RO) (p1 : Option Addr) (a2 : Option Addr) (n3 : Nat) (c4 : Nat) (i5 : Int) (m7 : Nat) (J10 : Int → Nat → Heap → Prop) (i15 : Int) (h16 : Heap) (Q : Heap → Prop) : Prop :=
 ∃ A17 : Addr, p1 = some A17 ∧
 LdSl B h16 A17 fun a19 n20 c21 h22 =>
 ∀ k23 : Nat, h22 k23 = none → B k23 = none → ∀ h24 : Heap, h24 = Heap.set h22 k23 (.vec 5 (plains [(.int .u8 (IntKind.wrap .u8 (i15)))]) 1) →
 semH PG B (Builtin.append_ #[63, 63] 63 #[(.slice a19 n20 c21), (.slice (some ⟨k23, 0, none⟩) 1 1)]) h24 (fun v h25 => ∃ a26 : Option Addr, ∃ n27 : Nat, ∃ c28 : Nat, v = (.slice a26 n27 c28) ∧
 ∃ A29 : Addr, p1 = some A29 ∧
 ∃ h31 : Heap, storeH h25 A29 (.slice a26 n27 c28) = some h31 ∧
 Fin B h31 (fun h' => ∃ m', m' < m7 ∧ J10 (IntKind.wrap .i64 ((i5) + (1))) m' h'))
def S_stylus_Stylus_Nat (B : RO) (p1 : Option Addr) (a2 : Option Addr) (n3 : Nat) (c4 : Nat) (h : Heap) (Q : Heap → Prop) : Prop :=
 ∃ (J10 : Int → Nat → Heap → Prop) (m8 : Nat), Fin B h (J10 (0) m8) ∧
 ∀ (i5 : Int) (m7 : Nat) (h6 : Heap), J10 i5 m7 h6 →
 ((i5 : Int) < ((n3 : Nat)) →
 ∃ A11 : Addr, a2 = some A11 ∧ 0 ≤ (i5 : Int) ∧ (i5 : Int) < (n3 : Nat) ∧
 ∃ i13 : Int, cellH B h6 (Addr.add A11 (Int.toNat (i5) * 1)) = some (.int .i64 (i13)) ∧
 ((i13 : Int) < (0) →
 Fin B h6 (fun h' => ∃ m', m' < m7 ∧ J10 (IntKind.wrap .i64 ((i5) + (1))) m' h')) ∧ (¬ ((i13 : Int) < (0)) →
 ∃ (J37 : Int → Nat → Heap → Prop) (m35 : Nat), Fin B h6 (J37 (i13) m35) ∧
 ∀ (i32 : Int) (m34 : Nat) (h33 : Heap), J37 i32 m34 h33 →
 ((i32 : Int) ≥ (128) →
 ∃ A38 : Addr, p1 = some A38 ∧
 LdSl B h33 A38 fun a40 n41 c42 h43 =>
 ∀ k44 : Nat, h43 k44 = none → B k44 = none → ∀ h45 : Heap, h45 = Heap.set h43 k44 (.vec 5 (plains [(.int .u8 (IntKind.wrap .u8 ((BitVec.ofInt (IntKind.bits .u8) (IntKind.wrap .u8 (i32)) ||| BitVec.ofInt (IntKind.bits .u8) (128)).toNat : Int)))]) 1) →
 semH PG B (Builtin.append_ #[63, 63] 63 #[(.slice a40 n41 c42), (.slice (some ⟨k44, 0, none⟩) 1 1)]) h45 (fun v h46 => ∃ a47 : Option Addr, ∃ n48 : Nat, ∃ c49 : Nat, v = (.slice a47 n48 c49) ∧
 ∃ A50 : Addr, p1 = some A50 ∧
 ∃ h52 : Heap, storeH h46 A50 (.slice a47 n48 c49) = some h52 ∧
 ¬ ((7 : Int) < 0) ∧
 Fin B h52 (fun h' => ∃ m', m' < m34 ∧ J37 (Int.fdiv (i32) (2 ^ (min (Int.toNat (7)) (IntKind.bits .i64)))) m' h'))) ∧ (¬ ((i32 : Int) ≥ (128)) →
 Fin B h33 (fun h' => S_stylus_Stylus_Nat_J1 B p1 a2 n3 c4 i5 m7 J10 (i32) h' Q)))) ∧ (¬ ((i5 : Int) < ((n3 : Nat))) →
 Fin B h6 (Q))
def S_stylus_Stylus_Raw (B : RO) (p1 : Option Addr) (s2 : ByteArray) (h : Heap) (Q : Heap → Prop) : Prop :=
 ∃ A3 : Addr, p1 = some A3 ∧
 LdSl B h A3 fun a5 n6 c7 h8 =>
 semH PG B (Builtin.append_ #[63, 9] 63 #[(.slice a5 n6 c7), (.string s2)]) h8 (fun v h9 => ∃ a10 : Option Addr, ∃ n11 : Nat, ∃ c12 : Nat, v = (.slice a10 n11 c12) ∧
 ∃ A13 : Addr, p1 = some A13 ∧
 ∃ h15 : Heap, storeH h9 A13 (.slice a10 n11 c12) = some h15 ∧
 Fin B h15 (Q))
def S_stylus_Stylus_Bytes (B : RO) (p1 : Option Addr) (h : Heap) (Q : ByteArray → Heap → Prop) : Prop :=
 ∃ A3 : Addr, p1 = some A3 ∧
 LdSl B h A3 fun a5 n6 c7 h8 =>
 semH PG B (convert 63 9 (.slice a5 n6 c7)) h8 (fun v h10 => ∃ s9 : ByteArray, v = (.string s9) ∧
 Fin B h10 (Q s9))
def S_wal_Log_Area (B : RO) (p1 : Option Addr) (h : Heap) (Q : Int → Heap → Prop) : Prop :=
 (p1 = none →
 Fin B h (Q (0))) ∧ (¬ (p1 = none) →
 ∃ A4 : Addr, p1 = some A4 ∧
 ∃ i6 : Int, cellH B h (Addr.add A4 1) = some (.int .i64 (i6)) ∧
 Fin B h (Q (i6)))
def S_wal_Log_Clear (B : RO) (p1 : Option Addr) (h : Heap) (Q : Heap → Prop) : Prop :=
 (p1 = none →
 Fin B h (Q)) ∧ (¬ (p1 = none) →
 ∃ A3 : Addr, p1 = some A3 ∧
 ∃ p5 : Option Addr, cellH B h A3 = some (.pointer p5) ∧
 ∃ A6 : Addr, p1 = some A6 ∧
 ∃ i8 : Int, cellH B h (Addr.add A6 1) = some (.int .i64 (i8)) ∧
 C_disk_Disk_Reset B p5 (i8) h (fun i10 h9 =>
 ∃ A11 : Addr, p1 = some A11 ∧
 ∃ h13 : Heap, storeH h9 (Addr.add A11 2) (.int .i64 (0)) = some h13 ∧
 ∃ A14 : Addr, p1 = some A14 ∧
 ∃ h16 : Heap, storeH h13 (Addr.add A14 3) (.bool false) = some h16 ∧
 Fin B h16 (Q)))
def S_wal_Log_Force (B : RO) (p1 : Option Addr) (h : Heap) (Q : Heap → Prop) : Prop :=
 (p1 = none →
 Fin B h (Q)) ∧ (¬ (p1 = none) →
 ∃ A3 : Addr, p1 = some A3 ∧
 ∃ p5 : Option Addr, cellH B h A3 = some (.pointer p5) ∧
 C_disk_Disk_Sync B p5 h (fun h6 =>
 Fin B h6 (Q)))
def S_wal_Log_Append_J1 (B : RO) (p1 : Option Addr) (s2 : ByteArray) (h5 : Heap) (Q : Int → Heap → Prop) : Prop :=
 C_wafer_Close B s2 h5 (fun s7 h6 =>
 ∃ A9 : Addr, p1 = some A9 ∧
 ∃ p13 : Option Addr, cellH B h6 A9 = some (.pointer p13) ∧
 ∃ A16 : Addr, p1 = some A16 ∧
 ∃ i20 : Int, cellH B h6 (Addr.add A16 1) = some (.int .i64 (i20)) ∧
 C_disk_Disk_Append B p13 (i20) s7 h6 (fun i24 h23 =>
 cellH B h23 A9 = some (.pointer p13) ∧ cellH B h23 (Addr.add A16 1) = some (.int .i64 (i20)) ∧
 ((i24 : Int) = 0 →
 ∃ A27 : Addr, p1 = some A27 ∧
 ∃ i29 : Int, cellH B h23 (Addr.add A27 2) = some (.int .i64 (i29)) ∧
 ∃ A30 : Addr, p1 = some A30 ∧
 ∃ h32 : Heap, storeH h23 (Addr.add A30 2) (.int .i64 (IntKind.wrap .i64 ((i29) + ((ByteArray.size s7 : Nat))))) = some h32 ∧
 Fin B h32 (Q (0))) ∧ (¬ ((i24 : Int) = 0) →
 Fin B h23 (Q (i24)))))
def S_wal_Log_Append (B : RO) (p1 : Option Addr) (s2 : ByteArray) (h : Heap) (Q : Int → Heap → Prop) : Prop :=
 (p1 = none →
 Fin B h (Q (2))) ∧ (¬ (p1 = none) →
 (((ByteArray.size s2 : Nat) : Int) > (1024) →
 Fin B h (Q (3))) ∧ (¬ (((ByteArray.size s2 : Nat) : Int) > (1024)) →
 ∃ A34 : Addr, p1 = some A34 ∧
 ∃ b36 : Bool, cellH B h (Addr.add A34 3) = some (.bool b36) ∧ (b36 = true →
 Fin B h (Q (9))) ∧ (b36 = false →
 Fin B h (fun h' => S_wal_Log_Append_J1 B p1 s2 h' Q))))
def S_tome_Tome_Bytes (B : RO) (p1 : Option Addr) (h : Heap) (Q : ByteArray → Heap → Prop) : Prop :=
 ∀ k3 : Nat, h k3 = none → B k3 = none → ∀ h4 : Heap, h4 = Heap.set h k3 (.vec 152 (plains [(.slice none 0 0)]) 1) →
 ∀ k5 : Nat, h4 k5 = none → B k5 = none → ∀ h6 : Heap, h6 = Heap.set h4 k5 (.vec 150 (plains [(.pointer none)]) 1) →
 ∃ h7 : Heap, storeH h6 ⟨k5, 0, none⟩ (.pointer (some ⟨k3, 0, none⟩)) = some h7 ∧
 C_tome_Tome_All B p1 h7 (fun v9 h8 =>
 ∃ (xs17 : List (Int × Bool × ByteArray)) (G13 : Heap → Prop) (J16 : Nat → Heap → Prop), Iter PG B v9 (xs17.map (fun x : Int × Bool × ByteArray => [(.int .i64 (x.1)), (.agg #[(.bool x.2.1), (.string x.2.2)])])) G13 ∧ Ins G13 ∧ (∀ i h, J16 i h → G13 h) ∧ Fin B h8 (J16 0) ∧
 (∀ (q15 : Nat) (h14 : Heap) (i10 : Int) (b11 : Bool) (s12 : ByteArray), xs17[q15]? = some (i10, b11, s12) → J16 q15 h14 →
 ∀ k18 : Nat, h14 k18 = none → B k18 = none → ∀ h19 : Heap, h19 = Heap.set h14 k18 (.vec 111 (plains [(.bool false), (.string ByteArray.empty)]) 2) →
 ∃ h20 : Heap, StoresAt ⟨k18, 0, none⟩ h19 0 [(.bool b11), (.string s12)] h20 ∧
 ∃ p21 : Option Addr, cellH B h20 ⟨k5, 0, none⟩ = some (.pointer p21) ∧
 ∀ k22 : Nat, h20 k22 = none → B k22 = none → ∀ h23 : Heap, h23 = Heap.set h20 k22 (.vec 3 (plains [(.int .i64 (i10))]) 1) →
 C_stylus_Stylus_Nat B p21 (some ⟨k22, 0, none⟩) 1 1 h23 (fun h24 =>
 ∃ p25 : Option Addr, cellH B h24 ⟨k5, 0, none⟩ = some (.pointer p25) ∧
 ∃ s26 : ByteArray, cellH B h24 ⟨k18, 1, none⟩ = some (.string s26) ∧
 ∀ k27 : Nat, h24 k27 = none → B k27 = none → ∀ h28 : Heap, h28 = Heap.set h24 k27 (.vec 9 (plains [(.string s26)]) 1) →
 C_stylus_Stylus_Text B p25 (some ⟨k27, 0, none⟩) 1 1 h28 (fun h29 =>
 Fin B h29 (J16 (q15 + 1))))) ∧
 (∀ (h14 : Heap), J16 xs17.length h14 →
 ∃ p30 : Option Addr, cellH B h14 ⟨k5, 0, none⟩ = some (.pointer p30) ∧
 C_stylus_Stylus_Bytes B p30 h14 (fun s32 h31 =>
 Fin B h31 (Q s32))))
def S_cell_New_int (B : RO) (i1 : Int) (i2 : Int) (h : Heap) (Q : Option Addr → Heap → Prop) : Prop :=
 ∀ k4 : Nat, h k4 = none → B k4 = none → ∀ h5 : Heap, h5 = Heap.set h k4 (.vec 188 (plains [(.slice none 0 0)]) 1) →
 ∃ (J11 : Int → Nat → Heap → Prop) (m9 : Nat), Fin B h5 (J11 (0) m9) ∧
 ∀ (i6 : Int) (m8 : Nat) (h7 : Heap), J11 i6 m8 h7 →
 ((i6 : Int) < (i1) →
 LdSl B h7 ⟨k4, 0, none⟩ fun a12 n13 c14 h15 =>
 ∀ k16 : Nat, h15 k16 = none → B k16 = none → ∀ h17 : Heap, h17 = Heap.set h15 k16 (.vec 190 (plains [(.int .i64 (i2)), (.int .i64 (0))]) 2) →
 semH PG B (Builtin.append_ #[186, 186] 186 #[(.slice a12 n13 c14), (.slice (some ⟨k16, 0, none⟩) 1 1)]) h17 (fun v h18 => ∃ a19 : Option Addr, ∃ n20 : Nat, ∃ c21 : Nat, v = (.slice a19 n20 c21) ∧
 ∃ h22 : Heap, storeH h18 ⟨k4, 0, none⟩ (.slice a19 n20 c21) = some h22 ∧
 Fin B h22 (fun h' => ∃ m', m' < m8 ∧ J11 (IntKind.wrap .i64 ((i6) + (1))) m' h'))) ∧ (¬ ((i6 : Int) < (i1)) →
 Fin B h7 (Q (some ⟨k4, 0, none⟩)))
def S_feed_New (B : RO) (h : Heap) (Q : Option Addr → Heap → Prop) : Prop :=
 C_cell_New_int B (3) (0) h (fun p3 h2 =>
 ∀ k4 : Nat, h2 k4 = none → B k4 = none → ∀ h5 : Heap, h5 = Heap.set h2 k4 (.vec 192 (plains [(.string ByteArray.empty), (.string ByteArray.empty), (.string ByteArray.empty), (.pointer p3)]) 4) →
 Fin B h5 (Q (some ⟨k4, 0, none⟩)))
def S_wal_Log_Size (B : RO) (p1 : Option Addr) (h : Heap) (Q : Int → Heap → Prop) : Prop :=
 (p1 = none →
 Fin B h (Q (0))) ∧ (¬ (p1 = none) →
 ∃ A4 : Addr, p1 = some A4 ∧
 ∃ i6 : Int, cellH B h (Addr.add A4 2) = some (.int .i64 (i6)) ∧
 Fin B h (Q (i6)))
def S_draft_Draft_file_File_All (B : RO) (p1 : Option Addr) (h : Heap) (Q : Value → Heap → Prop) : Prop :=
 ∀ k3 : Nat, h k3 = none → B k3 = none → ∀ h4 : Heap, h4 = Heap.set h k3 (.vec 69 [.plain (.pointer p1)] 1) →
 Fin B h4 (Q (Value.func (.func 95) #[] #[(.pointer (some ⟨k3, 0, none⟩))]))
def S_stylus_Stylus_Text (B : RO) (p1 : Option Addr) (a2 : Option Addr) (n3 : Nat) (c4 : Nat) (h : Heap) (Q : Heap → Prop) : Prop :=
 ∃ (J10 : Int → Nat → Heap → Prop) (m8 : Nat), Fin B h (J10 (0) m8) ∧
 ∀ (i5 : Int) (m7 : Nat) (h6 : Heap), J10 i5 m7 h6 →
 ((i5 : Int) < ((n3 : Nat)) →
 ∃ A11 : Addr, a2 = some A11 ∧ 0 ≤ (i5 : Int) ∧ (i5 : Int) < (n3 : Nat) ∧
 ∃ s13 : ByteArray, cellH B h6 (Addr.add A11 (Int.toNat (i5) * 1)) = some (.string s13) ∧
 ∀ k14 : Nat, h6 k14 = none → B k14 = none → ∀ h15 : Heap, h15 = Heap.set h6 k14 (.vec 3 (plains [(.int .i64 ((ByteArray.size s13 : Nat)))]) 1) →
 C_stylus_Stylus_Nat B p1 (some ⟨k14, 0, none⟩) 1 1 h15 (fun h16 =>
 C_stylus_Stylus_Raw B p1 s13 h16 (fun h17 =>
 Fin B h17 (fun h' => ∃ m', m' < m7 ∧ J10 (IntKind.wrap .i64 ((i5) + (1))) m' h')))) ∧ (¬ ((i5 : Int) < ((n3 : Nat))) →
 Fin B h6 (Q))
def S_disk_Disk_Read_J1 (B : RO) (p1 : Option Addr) (i2 : Int) (h5 : Heap) (Q : ByteArray → Heap → Prop) : Prop :=
 ∃ A6 : Addr, p1 = some A6 ∧
 0 ≤ (i2 : Int) ∧ (i2 : Int) < (2 : Nat) ∧
 ∃ s8 : ByteArray, cellH B h5 (Addr.add A6 (Int.toNat (i2) * 2)) = some (.string s8) ∧
 Fin B h5 (Q s8)
def S_disk_Disk_Read (B : RO) (p1 : Option Addr) (i2 : Int) (h : Heap) (Q : ByteArray → Heap → Prop) : Prop :=
 (p1 = none →
 Fin B h (Q (ByteArray.mk #[]))) ∧ (¬ (p1 = none) →
 C_disk_good B (i2) h (fun b11 h10 =>
 (b11 = true →
 Fin B h10 (fun h' => S_disk_Disk_Read_J1 B p1 i2 h' Q)) ∧ (b11 = false →
 Fin B h10 (Q (ByteArray.mk #[])))))
def S_wafer_Whole (B : RO) (s1 : ByteArray) (h : Heap) (Q : Int → Heap → Prop) : Prop :=
 ∀ k3 : Nat, h k3 = none → B k3 = none → ∀ h4 : Heap, h4 = Heap.set h k3 (.vec 3 (plains [(.int .i64 (0))]) 1) →
 ∃ h5 : Heap, storeH h4 ⟨k3, 0, none⟩ (.int .i64 (0)) = some h5 ∧
 C_wafer_All B s1 h5 (fun v7 h6 =>
 ∃ (xs13 : List (ByteArray)) (G9 : Heap → Prop) (J12 : Nat → Heap → Prop), Iter PG B v7 (xs13.map (fun x : ByteArray => [(.string x)])) G9 ∧ Ins G9 ∧ (∀ i h, J12 i h → G9 h) ∧ Fin B h6 (J12 0) ∧
 (∀ (q11 : Nat) (h10 : Heap) (s8 : ByteArray), xs13[q11]? = some (s8) → J12 q11 h10 →
 ∃ i14 : Int, cellH B h10 ⟨k3, 0, none⟩ = some (.int .i64 (i14)) ∧
 ∃ h15 : Heap, storeH h10 ⟨k3, 0, none⟩ (.int .i64 (IntKind.wrap .i64 ((i14) + (IntKind.wrap .i64 ((IntKind.wrap .i64 ((2) + ((ByteArray.size s8 : Nat)))) + (4)))))) = some h15 ∧
 Fin B h15 (J12 (q11 + 1))) ∧
 (∀ (h10 : Heap), J12 xs13.length h10 →
 ∃ i16 : Int, cellH B h10 ⟨k3, 0, none⟩ = some (.int .i64 (i16)) ∧
 Fin B h10 (Q (i16))))
def S_wal_Log_All (B : RO) (p1 : Option Addr) (h : Heap) (Q : Value → Heap → Prop) : Prop :=
 ∀ k3 : Nat, h k3 = none → B k3 = none → ∀ h4 : Heap, h4 = Heap.set h k3 (.vec 133 [.plain (.pointer p1)] 1) →
 Fin B h4 (Q (Value.func (.func 97) #[] #[(.pointer (some ⟨k3, 0, none⟩))]))
def S_vault_first (B : RO) (s1 : ByteArray) (h : Heap) (Q : Int → ByteArray → Bool → Heap → Prop) : Prop :=
 C_stylus_Of B s1 h (fun p6 h5 =>
 C_stylus_Reader_Nat B p6 (1) h5 (fun i8 h7 =>
 C_stylus_Reader_Nat B p6 (1099511627776) h7 (fun i10 h9 =>
 C_stylus_Reader_Left B p6 h9 (fun i12 h11 =>
 C_stylus_Reader_Raw B p6 (i12) h11 (fun s14 h13 =>
 C_stylus_Reader_Bad B p6 h13 (fun b16 h15 =>
 (b16 = true →
 Fin B h15 (Q (i10) s14 (false))) ∧ (b16 = false →
 ((i8 : Int) = 0 →
 Fin B h15 (Q (i10) s14 ((decide ((i10 : Int) > (0)))))) ∧ (¬ ((i8 : Int) = 0) →
 Fin B h15 (Q (i10) s14 (false))))))))))
def S_cell_New_file_File (B : RO) (i1 : Int) (b2 : Bool) (s3 : ByteArray) (h : Heap) (Q : Option Addr → Heap → Prop) : Prop :=
 ∀ k5 : Nat, h k5 = none → B k5 = none → ∀ h6 : Heap, h6 = Heap.set h k5 (.vec 111 (plains [(.bool b2), (.string s3)]) 2) →
 ∀ k7 : Nat, h6 k7 = none → B k7 = none → ∀ h8 : Heap, h8 = Heap.set h6 k7 (.vec 199 (plains [(.slice none 0 0)]) 1) →
 ∃ (J14 : Int → Nat → Heap → Prop) (m12 : Nat), Fin B h8 (J14 (0) m12) ∧
 ∀ (i9 : Int) (m11 : Nat) (h10 : Heap), J14 i9 m11 h10 →
 ((i9 : Int) < (i1) →
 ∃ a19 : Option Addr, ∃ n20 : Nat, ∃ c21 : Nat, cellH B h10 ⟨k7, 0, none⟩ = some (.slice a19 n20 c21) ∧
 ∃ b23 : Bool, ∃ s24 : ByteArray, CellsAt B h10 ⟨k5, 0, none⟩ 0 [(.bool b23), (.string s24)] ∧
 ∀ k27 : Nat, h10 k27 = none → B k27 = none → ∀ h28 : Heap, h28 = Heap.set h10 k27 (.vec 196 (plains [(.bool b23), (.string s24), (.int .i64 (0))]) 3) →
 cellH B h28 ⟨k7, 0, none⟩ = some (.slice a19 n20 c21) ∧ CellsAt B h28 ⟨k5, 0, none⟩ 0 [(.bool b23), (.string s24)] ∧
 semH PG B (Builtin.append_ #[197, 197] 197 #[(.slice a19 n20 c21), (.slice (some ⟨k27, 0, none⟩) 1 1)]) h28 (fun v h31 => ∃ a32 : Option Addr, ∃ n33 : Nat, ∃ c34 : Nat, v = (.slice a32 n33 c34) ∧
 cellH B h31 ⟨k7, 0, none⟩ = some (.slice a19 n20 c21) ∧ CellsAt B h31 ⟨k5, 0, none⟩ 0 [(.bool b23), (.string s24)] ∧
 ∃ h37 : Heap, storeH h31 ⟨k7, 0, none⟩ (.slice a32 n33 c34) = some h37 ∧
 Fin B h37 (fun h' => ∃ m', m' < m11 ∧ J14 (IntKind.wrap .i64 ((i9) + (1))) m' h'))) ∧ (¬ ((i9 : Int) < (i1)) →
 Fin B h10 (Q (some ⟨k7, 0, none⟩)))
def S_stylus_Reader_word_J1 (B : RO) (p1 : Option Addr) (i3 : Int) (i4 : Int) (m6 : Nat) (J9 : Int → Int → Nat → Heap → Prop) (s11 : ByteArray) (h13 : Heap) (Q : Int → Heap → Prop) : Prop :=
 0 ≤ (0 : Int) ∧ (0 : Int) < (ByteArray.size s11 : Nat) ∧
 ¬ ((i4 : Int) < 0) ∧
 0 ≤ (0 : Int) ∧ (0 : Int) < (ByteArray.size s11 : Nat) ∧
 ((byteAt s11 (Int.toNat (0)) : Int) < (128) →
 Fin B h13 (Q (IntKind.wrap .u64 ((BitVec.ofInt (IntKind.bits .u64) (i3) ||| BitVec.ofInt (IntKind.bits .u64) (IntKind.wrap .u64 ((IntKind.wrap .u64 (IntKind.wrap .u8 ((BitVec.ofInt (IntKind.bits .u8) (byteAt s11 (Int.toNat (0))) &&& BitVec.ofInt (IntKind.bits .u8) (127)).toNat : Int))) * 2 ^ (min (Int.toNat (i4)) (IntKind.bits .u64))))).toNat : Int)))) ∧ (¬ ((byteAt s11 (Int.toNat (0)) : Int) < (128)) →
 Fin B h13 (fun h' => ∃ m', m' < m6 ∧ J9 (IntKind.wrap .u64 ((BitVec.ofInt (IntKind.bits .u64) (i3) ||| BitVec.ofInt (IntKind.bits .u64) (IntKind.wrap .u64 ((IntKind.wrap .u64 (IntKind.wrap .u8 ((BitVec.ofInt (IntKind.bits .u8) (byteAt s11 (Int.toNat (0))) &&& BitVec.ofInt (IntKind.bits .u8) (127)).toNat : Int))) * 2 ^ (min (Int.toNat (i4)) (IntKind.bits .u64))))).toNat : Int)) (IntKind.wrap .i64 ((i4) + (7))) m' h'))
def S_stylus_Reader_word (B : RO) (p1 : Option Addr) (h : Heap) (Q : Int → Heap → Prop) : Prop :=
 ∃ (J9 : Int → Int → Nat → Heap → Prop) (m7 : Nat), Fin B h (J9 (0) (0) m7) ∧
 ∀ (i3 : Int) (i4 : Int) (m6 : Nat) (h5 : Heap), J9 i3 i4 m6 h5 →
 ((i4 : Int) < (64) →
 C_stylus_Reader_Raw B p1 (1) h5 (fun s11 h10 =>
 (s11 = (ByteArray.mk #[]) →
 C_stylus_Reader_Spoil B p1 h10 (fun h15 =>
 Fin B h15 (Q (0)))) ∧ (¬ (s11 = (ByteArray.mk #[])) →
 ((i4 : Int) = 63 →
 0 ≤ (0 : Int) ∧ (0 : Int) < (ByteArray.size s11 : Nat) ∧
 ((byteAt s11 (Int.toNat (0)) : Int) > (1) →
 C_stylus_Reader_Spoil B p1 h10 (fun h16 =>
 Fin B h16 (Q (0)))) ∧ (¬ ((byteAt s11 (Int.toNat (0)) : Int) > (1)) →
 ((i4 : Int) > (0) →
 0 ≤ (0 : Int) ∧ (0 : Int) < (ByteArray.size s11 : Nat) ∧
 ((byteAt s11 (Int.toNat (0)) : Int) = 0 →
 C_stylus_Reader_Spoil B p1 h10 (fun h17 =>
 Fin B h17 (Q (0)))) ∧ (¬ ((byteAt s11 (Int.toNat (0)) : Int) = 0) →
 Fin B h10 (fun h' => S_stylus_Reader_word_J1 B p1 i3 i4 m6 J9 s11 h' Q))) ∧ (¬ ((i4 : Int) > (0)) →
 Fin B h10 (fun h' => S_stylus_Reader_word_J1 B p1 i3 i4 m6 J9 s11 h' Q)))) ∧ (¬ ((i4 : Int) = 63) →
 ((i4 : Int) > (0) →
 0 ≤ (0 : Int) ∧ (0 : Int) < (ByteArray.size s11 : Nat) ∧
 ((byteAt s11 (Int.toNat (0)) : Int) = 0 →
 C_stylus_Reader_Spoil B p1 h10 (fun h18 =>
 Fin B h18 (Q (0)))) ∧ (¬ ((byteAt s11 (Int.toNat (0)) : Int) = 0) →
 Fin B h10 (fun h' => S_stylus_Reader_word_J1 B p1 i3 i4 m6 J9 s11 h' Q))) ∧ (¬ ((i4 : Int) > (0)) →
 Fin B h10 (fun h' => S_stylus_Reader_word_J1 B p1 i3 i4 m6 J9 s11 h' Q)))))) ∧ (¬ ((i4 : Int) < (64)) →
 C_stylus_Reader_Spoil B p1 h5 (fun h19 =>
 Fin B h19 (Q (0))))
def S_stylus_Reader_Spoil (B : RO) (p1 : Option Addr) (h : Heap) (Q : Heap → Prop) : Prop :=
 (p1 = none →
 Fin B h (Q)) ∧ (¬ (p1 = none) →
 ∃ A3 : Addr, p1 = some A3 ∧
 ∃ h5 : Heap, storeH h A3 (.string (ByteArray.mk #[])) = some h5 ∧
 ∃ A6 : Addr, p1 = some A6 ∧
 ∃ h8 : Heap, storeH h5 (Addr.add A6 1) (.bool true) = some h8 ∧
 Fin B h8 (Q))
def S_stylus_Reader_Text (B : RO) (p1 : Option Addr) (i2 : Int) (h : Heap) (Q : ByteArray → Heap → Prop) : Prop :=
 C_stylus_Reader_Nat B p1 (i2) h (fun i5 h4 =>
 C_stylus_Reader_Raw B p1 (i5) h4 (fun s7 h6 =>
 Fin B h6 (Q s7)))
def S_tome_Tome_Set_J1 (B : RO) (h14 : Heap) (Q : Bool → Heap → Prop) : Prop :=
 Fin B h14 (Q (false))
def S_tome_Tome_Set_J2 (B : RO) (k7 : Nat) (b17 : Bool) (s18 : ByteArray) (h24 : Heap) (Q : Bool → Heap → Prop) : Prop :=
 Fin B h24 (Q (false))
def S_tome_Tome_Set_J3 (B : RO) (i2 : Int) (i5 : Int) (k7 : Nat) (b17 : Bool) (s18 : ByteArray) (p36 : Option Addr) (b37 : Bool) (s38 : ByteArray) (h39 : Heap) (Q : Bool → Heap → Prop) : Prop :=
 C_cell_Row_file_File_Set B p36 (i2) (b37) s38 (i5) h39 (fun b42 h41 =>
 CellsAt B h41 ⟨k7, 0, none⟩ 0 [(.bool b17), (.string s18)] ∧
 Fin B h41 (Q (b42)))
def S_tome_Tome_Set (B : RO) (p1 : Option Addr) (i2 : Int) (b3 : Bool) (s4 : ByteArray) (i5 : Int) (h : Heap) (Q : Bool → Heap → Prop) : Prop :=
 ∀ k7 : Nat, h k7 = none → B k7 = none → ∀ h8 : Heap, h8 = Heap.set h k7 (.vec 111 (plains [(.bool b3), (.string s4)]) 2) →
 (p1 = none →
 (S_tome_Tome_Set_J1 B h8 Q) ∧
 (S_tome_Tome_Set_J1 B h8 Q)) ∧ (¬ (p1 = none) →
 ∃ b17 : Bool, ∃ s18 : ByteArray, CellsAt B h8 ⟨k7, 0, none⟩ 0 [(.bool b17), (.string s18)] ∧
 C_file_Good B (b17) s18 h8 (fun b21 h20 =>
 (b21 = true →
 CellsAt B h20 ⟨k7, 0, none⟩ 0 [(.bool b17), (.string s18)] ∧
 ∃ A27 : Addr, p1 = some A27 ∧
 (∃ p44 : Option Addr, cellH B h20 A27 = some (.pointer p44) ∧
 ∃ b45 : Bool, ∃ s46 : ByteArray, CellsAt B h20 ⟨k7, 0, none⟩ 0 [(.bool b45), (.string s46)] ∧
 S_tome_Tome_Set_J3 B i2 i5 k7 b17 s18 p44 (b45) s46 h20 Q) ∧
 (∃ b47 : Bool, ∃ s48 : ByteArray, CellsAt B h20 ⟨k7, 0, none⟩ 0 [(.bool b47), (.string s48)] ∧
 ∃ p49 : Option Addr, cellH B h20 A27 = some (.pointer p49) ∧
 S_tome_Tome_Set_J3 B i2 i5 k7 b17 s18 p49 (b47) s48 h20 Q)) ∧ (b21 = false →
 CellsAt B h20 ⟨k7, 0, none⟩ 0 [(.bool b17), (.string s18)] ∧
 (S_tome_Tome_Set_J2 B k7 b17 s18 h20 Q) ∧
 (S_tome_Tome_Set_J2 B k7 b17 s18 h20 Q))))
def S_disk_Disk_Reset_J1 (B : RO) (p1 : Option Addr) (i2 : Int) (h5 : Heap) (Q : Int → Heap → Prop) : Prop :=
 ∃ A6 : Addr, p1 = some A6 ∧
 0 ≤ (i2 : Int) ∧ (i2 : Int) < (2 : Nat) ∧
 ∃ h8 : Heap, storeH h5 (Addr.add A6 (Int.toNat (i2) * 2)) (.string (ByteArray.mk #[])) = some h8 ∧
 ∃ A9 : Addr, p1 = some A9 ∧
 LdSl B h8 (Addr.add A9 4) fun a11 n12 c13 h14 =>
 ∀ k15 : Nat, h14 k15 = none → B k15 = none → ∀ h16 : Heap, h16 = Heap.set h14 k15 (.vec 87 (plains [(.int .i64 (i2)), (.bool true), (.string ByteArray.empty)]) 3) →
 semH PG B (Builtin.append_ #[83, 83] 83 #[(.slice a11 n12 c13), (.slice (some ⟨k15, 0, none⟩) 1 1)]) h16 (fun v h17 => ∃ a18 : Option Addr, ∃ n19 : Nat, ∃ c20 : Nat, v = (.slice a18 n19 c20) ∧
 ∃ A21 : Addr, p1 = some A21 ∧
 ∃ h23 : Heap, storeH h17 (Addr.add A21 4) (.slice a18 n19 c20) = some h23 ∧
 Fin B h23 (Q (0)))
def S_disk_Disk_Reset (B : RO) (p1 : Option Addr) (i2 : Int) (h : Heap) (Q : Int → Heap → Prop) : Prop :=
 (p1 = none →
 Fin B h (Q (2))) ∧ (¬ (p1 = none) →
 C_disk_good B (i2) h (fun b26 h25 =>
 (b26 = true →
 Fin B h25 (fun h' => S_disk_Disk_Reset_J1 B p1 i2 h' Q)) ∧ (b26 = false →
 Fin B h25 (Q (1)))))
def S_disk_Disk_Sync (B : RO) (p1 : Option Addr) (h : Heap) (Q : Heap → Prop) : Prop :=
 (p1 = none →
 Fin B h (Q)) ∧ (¬ (p1 = none) →
 ∃ A3 : Addr, p1 = some A3 ∧
 LdSl B h (Addr.add A3 4) fun a5 n6 c7 h8 =>
 ∃ (J14 : Int → Nat → Heap → Prop) (m12 : Nat), Fin B h8 (J14 (0) m12) ∧
 ∀ (i9 : Int) (m11 : Nat) (h10 : Heap), J14 i9 m11 h10 →
 ((i9 : Int) < ((n6 : Nat)) →
 ∃ A15 : Addr, a5 = some A15 ∧ 0 ≤ (i9 : Int) ∧ (i9 : Int) < (n6 : Nat) ∧
 ∃ i17 : Int, ∃ b18 : Bool, ∃ s19 : ByteArray, CellsAt B h10 (Addr.add A15 (Int.toNat (i9) * 3)) 0 [(.int .i64 (i17)), (.bool b18), (.string s19)] ∧
 ∀ k20 : Nat, h10 k20 = none → B k20 = none → ∀ h21 : Heap, h21 = Heap.set h10 k20 (.vec 87 (plains [(.int .i64 (0)), (.bool false), (.string ByteArray.empty)]) 3) →
 ∃ h22 : Heap, StoresAt ⟨k20, 0, none⟩ h21 0 [(.int .i64 (i17)), (.bool b18), (.string s19)] h22 ∧
 ∃ i23 : Int, ∃ b24 : Bool, ∃ s25 : ByteArray, CellsAt B h22 ⟨k20, 0, none⟩ 0 [(.int .i64 (i23)), (.bool b24), (.string s25)] ∧
 C_disk_Disk_land B p1 (i23) (b24) s25 h22 (fun h26 =>
 Fin B h26 (fun h' => ∃ m', m' < m11 ∧ J14 (IntKind.wrap .i64 ((i9) + (1))) m' h'))) ∧ (¬ ((i9 : Int) < ((n6 : Nat))) →
 ∃ A27 : Addr, p1 = some A27 ∧
 ∃ h29 : Heap, storeH h10 (Addr.add A27 4) (.slice none 0 0) = some h29 ∧
 Fin B h29 (Q)))
def S_wafer_Close (B : RO) (s1 : ByteArray) (h : Heap) (Q : ByteArray → Heap → Prop) : Prop :=
 (((ByteArray.size s1 : Nat) : Int) > (1024) →
 Fin B h (Q (ByteArray.mk #[]))) ∧ (¬ (((ByteArray.size s1 : Nat) : Int) > (1024)) →
 ¬ ((8 : Int) < 0) ∧
 ∀ k3 : Nat, h k3 = none → B k3 = none → ∀ h4 : Heap, h4 = Heap.set h k3 (.vec 5 (plains [(.int .u8 (IntKind.wrap .u8 (Int.fdiv ((ByteArray.size s1 : Nat)) (2 ^ (min (Int.toNat (8)) (IntKind.bits .i64)))))), (.int .u8 (IntKind.wrap .u8 ((ByteArray.size s1 : Nat))))]) 2) →
 semH PG B (convert 63 9 (.slice (some ⟨k3, 0, none⟩) 2 2)) h4 (fun v h6 => ∃ s5 : ByteArray, v = (.string s5) ∧
 ByteArray.size s5 + ByteArray.size s1 ≤ 4611686018427387904 ∧
 C_wafer_Sum B (s5 ++ s1) h6 (fun i8 h7 =>
 C_wafer_foots B (i8) h7 (fun s10 h9 =>
 ByteArray.size (s5 ++ s1) + ByteArray.size s10 ≤ 4611686018427387904 ∧
 Fin B h9 (Q ((s5 ++ s1) ++ s10))))))
def S_tome_Tome_All (B : RO) (p1 : Option Addr) (h : Heap) (Q : Value → Heap → Prop) : Prop :=
 ∀ k3 : Nat, h k3 = none → B k3 = none → ∀ h4 : Heap, h4 = Heap.set h k3 (.vec 41 [.plain (.pointer p1)] 1) →
 Fin B h4 (Q (Value.func (.func 102) #[] #[(.pointer (some ⟨k3, 0, none⟩))]))
def S_cell_Row_file_File_is (B : RO) (p1 : Option Addr) (i2 : Int) (h : Heap) (Q : Bool → Heap → Prop) : Prop :=
 (p1 = none →
 Fin B h (Q (false))) ∧ (¬ (p1 = none) →
 ((i2 : Int) ≥ (0) →
 ∃ A5 : Addr, p1 = some A5 ∧
 LdSl B h A5 fun a7 n8 c9 h10 =>
 Fin B h10 (Q ((decide ((i2 : Int) < ((n8 : Nat))))))) ∧ (¬ ((i2 : Int) ≥ (0)) →
 Fin B h (Q (false))))
def S_draft_Draft_file_File_All_1 (B : RO) (v1 : Value) (A2 : Addr) (h : Heap) (Q : Heap → Prop) : Prop :=
 ∃ p3 : Option Addr, cellH B h A2 = some (.pointer p3) ∧
 (p3 = none →
 Fin B h (Q)) ∧ (¬ (p3 = none) →
 ∃ p5 : Option Addr, cellH B h A2 = some (.pointer p5) ∧
 ∃ A6 : Addr, p5 = some A6 ∧
 LdSl B h A6 fun a8 n9 c10 h11 =>
 ∃ (J17 : Int → Nat → Heap → Prop) (m15 : Nat), Fin B h11 (J17 (0) m15) ∧
 ∀ (i12 : Int) (m14 : Nat) (h13 : Heap), J17 i12 m14 h13 →
 ((i12 : Int) < ((n9 : Nat)) →
 ∃ A18 : Addr, a8 = some A18 ∧ 0 ≤ (i12 : Int) ∧ (i12 : Int) < (n9 : Nat) ∧
 ∃ i20 : Int, ∃ b21 : Bool, ∃ s22 : ByteArray, CellsAt B h13 (Addr.add A18 (Int.toNat (i12) * 3)) 0 [(.int .i64 (i20)), (.bool b21), (.string s22)] ∧
 ∀ k23 : Nat, h13 k23 = none → B k23 = none → ∀ h24 : Heap, h24 = Heap.set h13 k23 (.vec 202 (plains [(.int .i64 (0)), (.bool false), (.string ByteArray.empty)]) 3) →
 ∃ h25 : Heap, StoresAt ⟨k23, 0, none⟩ h24 0 [(.int .i64 (i20)), (.bool b21), (.string s22)] h25 ∧
 ∃ i26 : Int, cellH B h25 ⟨k23, 0, none⟩ = some (.int .i64 (i26)) ∧
 ∃ b27 : Bool, ∃ s28 : ByteArray, CellsAt B h25 ⟨k23, 1, none⟩ 0 [(.bool b27), (.string s28)] ∧
 CallV PG B v1 [(.int .i64 (i26)), (.agg #[(.bool b27), (.string s28)])] h25 (fun v h29 => ∃ b30 : Bool, v = (.bool b30) ∧
 (b30 = true →
 Fin B h29 (fun h' => ∃ m', m' < m14 ∧ J17 (IntKind.wrap .i64 ((i12) + (1))) m' h')) ∧ (b30 = false →
 Fin B h29 (Q)))) ∧ (¬ ((i12 : Int) < ((n9 : Nat))) →
 Fin B h13 (Q)))
def S_wafer_All (B : RO) (s1 : ByteArray) (h : Heap) (Q : Value → Heap → Prop) : Prop :=
 ∀ k3 : Nat, h k3 = none → B k3 = none → ∀ h4 : Heap, h4 = Heap.set h k3 (.vec 9 [.plain (.string s1)] 1) →
 Fin B h4 (Q (Value.func (.func 105) #[] #[(.pointer (some ⟨k3, 0, none⟩))]))
def S_wal_Log_All_1 (B : RO) (v1 : Value) (A2 : Addr) (h : Heap) (Q : Heap → Prop) : Prop :=
 isOne v1 = true ∧
 ∀ k3 : Nat, h k3 = none → B k3 = none → ∀ h4 : Heap, h4 = Heap.set h k3 (.vec 204 [.plain v1] 1) →
 ∃ p5 : Option Addr, cellH B h4 A2 = some (.pointer p5) ∧
 (p5 = none →
 Fin B h4 (Q)) ∧ (¬ (p5 = none) →
 ∃ p7 : Option Addr, cellH B h4 A2 = some (.pointer p7) ∧
 ∃ A8 : Addr, p7 = some A8 ∧
 ∃ p10 : Option Addr, cellH B h4 A8 = some (.pointer p10) ∧
 ∃ p11 : Option Addr, cellH B h4 A2 = some (.pointer p11) ∧
 ∃ A12 : Addr, p11 = some A12 ∧
 ∃ i14 : Int, cellH B h4 (Addr.add A12 1) = some (.int .i64 (i14)) ∧
 C_disk_Disk_Read B p10 (i14) h4 (fun s16 h15 =>
 C_wafer_All B s16 h15 (fun v18 h17 =>
 ∃ (xs24 : List (ByteArray)) (G20 : Heap → Prop) (J23 : Nat → Heap → Prop), Iter PG B v18 (xs24.map (fun x : ByteArray => [(.string x)])) G20 ∧ Ins G20 ∧ (∀ i h, J23 i h → G20 h) ∧ Fin B h17 (J23 0) ∧
 (∀ (q22 : Nat) (h21 : Heap) (s19 : ByteArray), xs24[q22]? = some (s19) → J23 q22 h21 →
 ∃ v25 : Value, cellH B h21 ⟨k3, 0, none⟩ = some v25 ∧
 CallV PG B v25 [(.string s19)] h21 (fun v h26 => ∃ b27 : Bool, v = (.bool b27) ∧
 (b27 = true →
 Fin B h26 (J23 (q22 + 1))) ∧ (b27 = false →
 Fin B h26 (Q)))) ∧
 (∀ (h21 : Heap), J23 xs24.length h21 →
 Fin B h21 (Q)))))
def S_file_Good (B : RO) (b1 : Bool) (s2 : ByteArray) (h : Heap) (Q : Bool → Heap → Prop) : Prop :=
 ∀ k4 : Nat, h k4 = none → B k4 = none → ∀ h5 : Heap, h5 = Heap.set h k4 (.vec 111 (plains [(.bool b1), (.string s2)]) 2) →
 ∃ s6 : ByteArray, cellH B h5 ⟨k4, 1, none⟩ = some (.string s6) ∧
 (((ByteArray.size s6 : Nat) : Int) ≤ (32) →
 ∃ b7 : Bool, cellH B h5 ⟨k4, 0, none⟩ = some (.bool b7) ∧ (b7 = true →
 Fin B h5 (Q (true))) ∧ (b7 = false →
 ∃ s8 : ByteArray, cellH B h5 ⟨k4, 1, none⟩ = some (.string s8) ∧
 Fin B h5 (Q ((decide (s8 = (ByteArray.mk #[]))))))) ∧ (¬ (((ByteArray.size s6 : Nat) : Int) ≤ (32)) →
 Fin B h5 (Q (false)))
def S_cell_Row_file_File_Set (B : RO) (p1 : Option Addr) (i2 : Int) (b3 : Bool) (s4 : ByteArray) (i5 : Int) (h : Heap) (Q : Bool → Heap → Prop) : Prop :=
 ∀ k7 : Nat, h k7 = none → B k7 = none → ∀ h8 : Heap, h8 = Heap.set h k7 (.vec 111 (plains [(.bool b3), (.string s4)]) 2) →
 C_cell_Row_file_File_is B p1 (i2) h8 (fun b10 h9 =>
 (b10 = true →
 ∃ A11 : Addr, p1 = some A11 ∧
 ∃ a13 : Option Addr, ∃ n14 : Nat, ∃ c15 : Nat, cellH B h9 A11 = some (.slice a13 n14 c15) ∧
 ∃ b16 : Bool, ∃ s17 : ByteArray, CellsAt B h9 ⟨k7, 0, none⟩ 0 [(.bool b16), (.string s17)] ∧
 ∃ A18 : Addr, a13 = some A18 ∧ 0 ≤ (i2 : Int) ∧ (i2 : Int) < (n14 : Nat) ∧
 ∃ h20 : Heap, StoresAt (Addr.add A18 (Int.toNat (i2) * 3)) h9 0 [(.bool b16), (.string s17), (.int .i64 (i5))] h20 ∧
 Fin B h20 (Q (true))) ∧ (b10 = false →
 Fin B h9 (Q (false))))
def S_wafer_foots (B : RO) (i1 : Int) (h : Heap) (Q : ByteArray → Heap → Prop) : Prop :=
 ¬ ((8 : Int) < 0) ∧
 ¬ ((16 : Int) < 0) ∧
 ¬ ((24 : Int) < 0) ∧
 ∀ k3 : Nat, h k3 = none → B k3 = none → ∀ h4 : Heap, h4 = Heap.set h k3 (.vec 5 (plains [(.int .u8 (IntKind.wrap .u8 (i1))), (.int .u8 (IntKind.wrap .u8 (Int.fdiv (i1) (2 ^ (min (Int.toNat (8)) (IntKind.bits .u32)))))), (.int .u8 (IntKind.wrap .u8 (Int.fdiv (i1) (2 ^ (min (Int.toNat (16)) (IntKind.bits .u32)))))), (.int .u8 (IntKind.wrap .u8 (Int.fdiv (i1) (2 ^ (min (Int.toNat (24)) (IntKind.bits .u32))))))]) 4) →
 semH PG B (convert 63 9 (.slice (some ⟨k3, 0, none⟩) 4 4)) h4 (fun v h6 => ∃ s5 : ByteArray, v = (.string s5) ∧
 Fin B h6 (Q s5))
def S_wafer_Sum (B : RO) (s1 : ByteArray) (h : Heap) (Q : Int → Heap → Prop) : Prop :=
 ∃ (J9 : Int → Int → Nat → Heap → Prop) (m7 : Nat), Fin B h (J9 (4294967295) (0) m7) ∧
 ∀ (i3 : Int) (i4 : Int) (m6 : Nat) (h5 : Heap), J9 i3 i4 m6 h5 →
 ((i4 : Int) < ((ByteArray.size s1 : Nat)) →
 0 ≤ (i4 : Int) ∧ (i4 : Int) < (ByteArray.size s1 : Nat) ∧
 ∃ (J16 : Int → Int → Nat → Heap → Prop) (m14 : Nat), Fin B h5 (J16 (IntKind.wrap .u32 ((BitVec.ofInt (IntKind.bits .u32) (i3) ^^^ BitVec.ofInt (IntKind.bits .u32) (IntKind.wrap .u32 (byteAt s1 (Int.toNat (i4))))).toNat : Int)) (0) m14) ∧
 ∀ (i10 : Int) (i11 : Int) (m13 : Nat) (h12 : Heap), J16 i10 i11 m13 h12 →
 ((i11 : Int) < (8) →
 ¬ ((1 : Int) < 0) ∧
 Fin B h12 (fun h' => ∃ m', m' < m13 ∧ J16 (IntKind.wrap .u32 ((BitVec.ofInt (IntKind.bits .u32) (Int.fdiv (i10) (2 ^ (min (Int.toNat (1)) (IntKind.bits .u32)))) ^^^ BitVec.ofInt (IntKind.bits .u32) (IntKind.wrap .u32 ((BitVec.ofInt (IntKind.bits .u32) (2197175160) &&& BitVec.ofInt (IntKind.bits .u32) (IntKind.wrap .u32 (0 - (IntKind.wrap .u32 ((BitVec.ofInt (IntKind.bits .u32) (i10) &&& BitVec.ofInt (IntKind.bits .u32) (1)).toNat : Int))))).toNat : Int))).toNat : Int)) (IntKind.wrap .i64 ((i11) + (1))) m' h')) ∧ (¬ ((i11 : Int) < (8)) →
 Fin B h12 (fun h' => ∃ m', m' < m6 ∧ J9 (i10) (IntKind.wrap .i64 ((i4) + (1))) m' h'))) ∧ (¬ ((i4 : Int) < ((ByteArray.size s1 : Nat))) →
 Fin B h5 (Q (IntKind.wrap .u32 (((BitVec.ofInt (IntKind.bits .u32) (if IntKind.signed .u32 then (-1 : Int) else IntKind.max .u32) ^^^ BitVec.ofInt (IntKind.bits .u32) (i3)).toNat : Int)))))
def S_tome_Tome_All_1 (B : RO) (v1 : Value) (A2 : Addr) (h : Heap) (Q : Heap → Prop) : Prop :=
 isOne v1 = true ∧
 ∀ k3 : Nat, h k3 = none → B k3 = none → ∀ h4 : Heap, h4 = Heap.set h k3 (.vec 200 [.plain v1] 1) →
 ∃ p5 : Option Addr, cellH B h4 A2 = some (.pointer p5) ∧
 (p5 = none →
 Fin B h4 (Q)) ∧ (¬ (p5 = none) →
 ∃ p7 : Option Addr, cellH B h4 A2 = some (.pointer p7) ∧
 ∃ A8 : Addr, p7 = some A8 ∧
 ∃ p10 : Option Addr, cellH B h4 A8 = some (.pointer p10) ∧
 C_cell_Row_file_File_All B p10 h4 (fun v12 h11 =>
 ∃ (xs20 : List (Int × Bool × ByteArray)) (G16 : Heap → Prop) (J19 : Nat → Heap → Prop), Iter PG B v12 (xs20.map (fun x : Int × Bool × ByteArray => [(.int .i64 (x.1)), (.agg #[(.bool x.2.1), (.string x.2.2)])])) G16 ∧ Ins G16 ∧ (∀ i h, J19 i h → G16 h) ∧ Fin B h11 (J19 0) ∧
 (∀ (q18 : Nat) (h17 : Heap) (i13 : Int) (b14 : Bool) (s15 : ByteArray), xs20[q18]? = some (i13, b14, s15) → J19 q18 h17 →
 ∀ k21 : Nat, h17 k21 = none → B k21 = none → ∀ h22 : Heap, h22 = Heap.set h17 k21 (.vec 111 (plains [(.bool false), (.string ByteArray.empty)]) 2) →
 ∃ h23 : Heap, StoresAt ⟨k21, 0, none⟩ h22 0 [(.bool b14), (.string s15)] h23 ∧
 ∃ b24 : Bool, cellH B h23 ⟨k21, 0, none⟩ = some (.bool b24) ∧ (b24 = true →
 ∃ v25 : Value, cellH B h23 ⟨k3, 0, none⟩ = some v25 ∧
 ∃ b26 : Bool, ∃ s27 : ByteArray, CellsAt B h23 ⟨k21, 0, none⟩ 0 [(.bool b26), (.string s27)] ∧
 CallV PG B v25 [(.int .i64 (i13)), (.agg #[(.bool b26), (.string s27)])] h23 (fun v h28 => ∃ b29 : Bool, v = (.bool b29) ∧
 (b29 = true →
 Fin B h28 (J19 (q18 + 1))) ∧ (b29 = false →
 Fin B h28 (Q)))) ∧ (b24 = false →
 Fin B h23 (J19 (q18 + 1)))) ∧
 (∀ (h17 : Heap), J19 xs20.length h17 →
 Fin B h17 (Q))))
def S_cell_Row_file_File_All (B : RO) (p1 : Option Addr) (h : Heap) (Q : Value → Heap → Prop) : Prop :=
 ∀ k3 : Nat, h k3 = none → B k3 = none → ∀ h4 : Heap, h4 = Heap.set h k3 (.vec 162 [.plain (.pointer p1)] 1) →
 Fin B h4 (Q (Value.func (.func 107) #[] #[(.pointer (some ⟨k3, 0, none⟩))]))
def S_wafer_All_1 (B : RO) (v1 : Value) (A2 : Addr) (h : Heap) (Q : Heap → Prop) : Prop :=
 ∃ s3 : ByteArray, cellH B h A2 = some (.string s3) ∧
 ∃ (J9 : ByteArray → Nat → Heap → Prop) (m7 : Nat), Fin B h (J9 s3 m7) ∧
 ∀ (s4 : ByteArray) (m6 : Nat) (h5 : Heap), J9 s4 m6 h5 →
 C_wafer_Open B s4 h5 (fun s11 i12 h10 =>
 ((i12 : Int) = 0 →
 Fin B h10 (Q)) ∧ (¬ ((i12 : Int) = 0) →
 CallV PG B v1 [(.string s11)] h10 (fun v h13 => ∃ b14 : Bool, v = (.bool b14) ∧
 (b14 = true →
 0 ≤ (i12 : Int) ∧ (i12 : Int) ≤ ((ByteArray.size s4 : Nat) : Int) ∧ ((ByteArray.size s4 : Nat) : Int) ≤ (ByteArray.size s4 : Nat) ∧
 Fin B h13 (fun h' => ∃ m', m' < m6 ∧ J9 (ByteArray.extract s4 (Int.toNat (i12)) (Int.toNat ((ByteArray.size s4 : Nat)))) m' h')) ∧ (b14 = false →
 Fin B h13 (Q)))))
def S_wafer_Open_J1 (B : RO) (s1 : ByteArray) (h5 : Heap) (Q : ByteArray → Int → Heap → Prop) : Prop :=
 0 ≤ (0 : Int) ∧ (0 : Int) ≤ (IntKind.wrap .i64 ((2) + (IntKind.wrap .i64 ((BitVec.ofInt (IntKind.bits .i64) (IntKind.wrap .i64 ((IntKind.wrap .i64 (byteAt s1 (Int.toNat (0)))) * 2 ^ (min (Int.toNat (8)) (IntKind.bits .i64)))) ||| BitVec.ofInt (IntKind.bits .i64) (IntKind.wrap .i64 (byteAt s1 (Int.toNat (1))))).toNat : Int))) : Int) ∧ (IntKind.wrap .i64 ((2) + (IntKind.wrap .i64 ((BitVec.ofInt (IntKind.bits .i64) (IntKind.wrap .i64 ((IntKind.wrap .i64 (byteAt s1 (Int.toNat (0)))) * 2 ^ (min (Int.toNat (8)) (IntKind.bits .i64)))) ||| BitVec.ofInt (IntKind.bits .i64) (IntKind.wrap .i64 (byteAt s1 (Int.toNat (1))))).toNat : Int))) : Int) ≤ (ByteArray.size s1 : Nat) ∧
 0 ≤ (IntKind.wrap .i64 ((2) + (IntKind.wrap .i64 ((BitVec.ofInt (IntKind.bits .i64) (IntKind.wrap .i64 ((IntKind.wrap .i64 (byteAt s1 (Int.toNat (0)))) * 2 ^ (min (Int.toNat (8)) (IntKind.bits .i64)))) ||| BitVec.ofInt (IntKind.bits .i64) (IntKind.wrap .i64 (byteAt s1 (Int.toNat (1))))).toNat : Int))) : Int) ∧ (IntKind.wrap .i64 ((2) + (IntKind.wrap .i64 ((BitVec.ofInt (IntKind.bits .i64) (IntKind.wrap .i64 ((IntKind.wrap .i64 (byteAt s1 (Int.toNat (0)))) * 2 ^ (min (Int.toNat (8)) (IntKind.bits .i64)))) ||| BitVec.ofInt (IntKind.bits .i64) (IntKind.wrap .i64 (byteAt s1 (Int.toNat (1))))).toNat : Int))) : Int) ≤ (IntKind.wrap .i64 ((IntKind.wrap .i64 ((2) + (IntKind.wrap .i64 ((BitVec.ofInt (IntKind.bits .i64) (IntKind.wrap .i64 ((IntKind.wrap .i64 (byteAt s1 (Int.toNat (0)))) * 2 ^ (min (Int.toNat (8)) (IntKind.bits .i64)))) ||| BitVec.ofInt (IntKind.bits .i64) (IntKind.wrap .i64 (byteAt s1 (Int.toNat (1))))).toNat : Int)))) + (4)) : Int) ∧ (IntKind.wrap .i64 ((IntKind.wrap .i64 ((2) + (IntKind.wrap .i64 ((BitVec.ofInt (IntKind.bits .i64) (IntKind.wrap .i64 ((IntKind.wrap .i64 (byteAt s1 (Int.toNat (0)))) * 2 ^ (min (Int.toNat (8)) (IntKind.bits .i64)))) ||| BitVec.ofInt (IntKind.bits .i64) (IntKind.wrap .i64 (byteAt s1 (Int.toNat (1))))).toNat : Int)))) + (4)) : Int) ≤ (ByteArray.size s1 : Nat) ∧
 C_wafer_Sum B (ByteArray.extract s1 (Int.toNat (0)) (Int.toNat (IntKind.wrap .i64 ((2) + (IntKind.wrap .i64 ((BitVec.ofInt (IntKind.bits .i64) (IntKind.wrap .i64 ((IntKind.wrap .i64 (byteAt s1 (Int.toNat (0)))) * 2 ^ (min (Int.toNat (8)) (IntKind.bits .i64)))) ||| BitVec.ofInt (IntKind.bits .i64) (IntKind.wrap .i64 (byteAt s1 (Int.toNat (1))))).toNat : Int)))))) h5 (fun i22 h21 =>
 C_wafer_foots B (i22) h21 (fun s24 h23 =>
 (s24 = (ByteArray.extract s1 (Int.toNat (IntKind.wrap .i64 ((2) + (IntKind.wrap .i64 ((BitVec.ofInt (IntKind.bits .i64) (IntKind.wrap .i64 ((IntKind.wrap .i64 (byteAt s1 (Int.toNat (0)))) * 2 ^ (min (Int.toNat (8)) (IntKind.bits .i64)))) ||| BitVec.ofInt (IntKind.bits .i64) (IntKind.wrap .i64 (byteAt s1 (Int.toNat (1))))).toNat : Int))))) (Int.toNat (IntKind.wrap .i64 ((IntKind.wrap .i64 ((2) + (IntKind.wrap .i64 ((BitVec.ofInt (IntKind.bits .i64) (IntKind.wrap .i64 ((IntKind.wrap .i64 (byteAt s1 (Int.toNat (0)))) * 2 ^ (min (Int.toNat (8)) (IntKind.bits .i64)))) ||| BitVec.ofInt (IntKind.bits .i64) (IntKind.wrap .i64 (byteAt s1 (Int.toNat (1))))).toNat : Int)))) + (4))))) →
 0 ≤ (2 : Int) ∧ (2 : Int) ≤ (IntKind.wrap .i64 ((2) + (IntKind.wrap .i64 ((BitVec.ofInt (IntKind.bits .i64) (IntKind.wrap .i64 ((IntKind.wrap .i64 (byteAt s1 (Int.toNat (0)))) * 2 ^ (min (Int.toNat (8)) (IntKind.bits .i64)))) ||| BitVec.ofInt (IntKind.bits .i64) (IntKind.wrap .i64 (byteAt s1 (Int.toNat (1))))).toNat : Int))) : Int) ∧ (IntKind.wrap .i64 ((2) + (IntKind.wrap .i64 ((BitVec.ofInt (IntKind.bits .i64) (IntKind.wrap .i64 ((IntKind.wrap .i64 (byteAt s1 (Int.toNat (0)))) * 2 ^ (min (Int.toNat (8)) (IntKind.bits .i64)))) ||| BitVec.ofInt (IntKind.bits .i64) (IntKind.wrap .i64 (byteAt s1 (Int.toNat (1))))).toNat : Int))) : Int) ≤ (ByteArray.size s1 : Nat) ∧
 Fin B h23 (Q (ByteArray.extract s1 (Int.toNat (2)) (Int.toNat (IntKind.wrap .i64 ((2) + (IntKind.wrap .i64 ((BitVec.ofInt (IntKind.bits .i64) (IntKind.wrap .i64 ((IntKind.wrap .i64 (byteAt s1 (Int.toNat (0)))) * 2 ^ (min (Int.toNat (8)) (IntKind.bits .i64)))) ||| BitVec.ofInt (IntKind.bits .i64) (IntKind.wrap .i64 (byteAt s1 (Int.toNat (1))))).toNat : Int)))))) (IntKind.wrap .i64 ((IntKind.wrap .i64 ((2) + (IntKind.wrap .i64 ((BitVec.ofInt (IntKind.bits .i64) (IntKind.wrap .i64 ((IntKind.wrap .i64 (byteAt s1 (Int.toNat (0)))) * 2 ^ (min (Int.toNat (8)) (IntKind.bits .i64)))) ||| BitVec.ofInt (IntKind.bits .i64) (IntKind.wrap .i64 (byteAt s1 (Int.toNat (1))))).toNat : Int)))) + (4))))) ∧ (¬ (s24 = (ByteArray.extract s1 (Int.toNat (IntKind.wrap .i64 ((2) + (IntKind.wrap .i64 ((BitVec.ofInt (IntKind.bits .i64) (IntKind.wrap .i64 ((IntKind.wrap .i64 (byteAt s1 (Int.toNat (0)))) * 2 ^ (min (Int.toNat (8)) (IntKind.bits .i64)))) ||| BitVec.ofInt (IntKind.bits .i64) (IntKind.wrap .i64 (byteAt s1 (Int.toNat (1))))).toNat : Int))))) (Int.toNat (IntKind.wrap .i64 ((IntKind.wrap .i64 ((2) + (IntKind.wrap .i64 ((BitVec.ofInt (IntKind.bits .i64) (IntKind.wrap .i64 ((IntKind.wrap .i64 (byteAt s1 (Int.toNat (0)))) * 2 ^ (min (Int.toNat (8)) (IntKind.bits .i64)))) ||| BitVec.ofInt (IntKind.bits .i64) (IntKind.wrap .i64 (byteAt s1 (Int.toNat (1))))).toNat : Int)))) + (4)))))) →
 Fin B h23 (Q (ByteArray.mk #[]) (0)))))
def S_wafer_Open (B : RO) (s1 : ByteArray) (h : Heap) (Q : ByteArray → Int → Heap → Prop) : Prop :=
 (((ByteArray.size s1 : Nat) : Int) < (2) →
 Fin B h (Q (ByteArray.mk #[]) (0))) ∧ (¬ (((ByteArray.size s1 : Nat) : Int) < (2)) →
 0 ≤ (0 : Int) ∧ (0 : Int) < (ByteArray.size s1 : Nat) ∧
 ¬ ((8 : Int) < 0) ∧
 0 ≤ (1 : Int) ∧ (1 : Int) < (ByteArray.size s1 : Nat) ∧
 ((IntKind.wrap .i64 ((BitVec.ofInt (IntKind.bits .i64) (IntKind.wrap .i64 ((IntKind.wrap .i64 (byteAt s1 (Int.toNat (0)))) * 2 ^ (min (Int.toNat (8)) (IntKind.bits .i64)))) ||| BitVec.ofInt (IntKind.bits .i64) (IntKind.wrap .i64 (byteAt s1 (Int.toNat (1))))).toNat : Int) : Int) > (1024) →
 Fin B h (Q (ByteArray.mk #[]) (0))) ∧ (¬ ((IntKind.wrap .i64 ((BitVec.ofInt (IntKind.bits .i64) (IntKind.wrap .i64 ((IntKind.wrap .i64 (byteAt s1 (Int.toNat (0)))) * 2 ^ (min (Int.toNat (8)) (IntKind.bits .i64)))) ||| BitVec.ofInt (IntKind.bits .i64) (IntKind.wrap .i64 (byteAt s1 (Int.toNat (1))))).toNat : Int) : Int) > (1024)) →
 (((ByteArray.size s1 : Nat) : Int) < (IntKind.wrap .i64 ((IntKind.wrap .i64 ((2) + (IntKind.wrap .i64 ((BitVec.ofInt (IntKind.bits .i64) (IntKind.wrap .i64 ((IntKind.wrap .i64 (byteAt s1 (Int.toNat (0)))) * 2 ^ (min (Int.toNat (8)) (IntKind.bits .i64)))) ||| BitVec.ofInt (IntKind.bits .i64) (IntKind.wrap .i64 (byteAt s1 (Int.toNat (1))))).toNat : Int)))) + (4))) →
 Fin B h (Q (ByteArray.mk #[]) (0))) ∧ (¬ (((ByteArray.size s1 : Nat) : Int) < (IntKind.wrap .i64 ((IntKind.wrap .i64 ((2) + (IntKind.wrap .i64 ((BitVec.ofInt (IntKind.bits .i64) (IntKind.wrap .i64 ((IntKind.wrap .i64 (byteAt s1 (Int.toNat (0)))) * 2 ^ (min (Int.toNat (8)) (IntKind.bits .i64)))) ||| BitVec.ofInt (IntKind.bits .i64) (IntKind.wrap .i64 (byteAt s1 (Int.toNat (1))))).toNat : Int)))) + (4)))) →
 Fin B h (fun h' => S_wafer_Open_J1 B s1 h' Q))))
def S_cell_Row_file_File_All_1 (B : RO) (v1 : Value) (A2 : Addr) (h : Heap) (Q : Heap → Prop) : Prop :=
 ∃ p3 : Option Addr, cellH B h A2 = some (.pointer p3) ∧
 (p3 = none →
 Fin B h (Q)) ∧ (¬ (p3 = none) →
 ∃ p5 : Option Addr, cellH B h A2 = some (.pointer p5) ∧
 ∃ A6 : Addr, p5 = some A6 ∧
 LdSl B h A6 fun a8 n9 c10 h11 =>
 ∃ (J17 : Int → Nat → Heap → Prop) (m15 : Nat), Fin B h11 (J17 (0) m15) ∧
 ∀ (i12 : Int) (m14 : Nat) (h13 : Heap), J17 i12 m14 h13 →
 ((i12 : Int) < ((n9 : Nat)) →
 ∃ A18 : Addr, a8 = some A18 ∧ 0 ≤ (i12 : Int) ∧ (i12 : Int) < (n9 : Nat) ∧
 ∃ b20 : Bool, ∃ s21 : ByteArray, ∃ i22 : Int, CellsAt B h13 (Addr.add A18 (Int.toNat (i12) * 3)) 0 [(.bool b20), (.string s21), (.int .i64 (i22))] ∧
 ∀ k23 : Nat, h13 k23 = none → B k23 = none → ∀ h24 : Heap, h24 = Heap.set h13 k23 (.vec 196 (plains [(.bool false), (.string ByteArray.empty), (.int .i64 (0))]) 3) →
 ∃ h25 : Heap, StoresAt ⟨k23, 0, none⟩ h24 0 [(.bool b20), (.string s21), (.int .i64 (i22))] h25 ∧
 ∃ b26 : Bool, ∃ s27 : ByteArray, CellsAt B h25 ⟨k23, 0, none⟩ 0 [(.bool b26), (.string s27)] ∧
 CallV PG B v1 [(.int .i64 (i12)), (.agg #[(.bool b26), (.string s27)])] h25 (fun v h28 => ∃ b29 : Bool, v = (.bool b29) ∧
 (b29 = true →
 Fin B h28 (fun h' => ∃ m', m' < m14 ∧ J17 (IntKind.wrap .i64 ((i12) + (1))) m' h')) ∧ (b29 = false →
 Fin B h28 (Q)))) ∧ (¬ ((i12 : Int) < ((n9 : Nat))) →
 Fin B h13 (Q)))
end Go.Proofs.Ytlehephbflgblaa.H
namespace Go.Proofs.Ytlehephbflgblaa.H
open Go
set_option linter.unusedVariables false
set_option maxRecDepth 100000
set_option maxHeartbeats 4000000
theorem C_countermandlaw21_WorldDoes.of {B : RO} {a1 : Option Addr} {n2 : Nat} {c3 : Nat} {h : Heap} {Q : Bool → Heap → Prop} (s : S_countermandlaw21_WorldDoes B a1 n2 c3 h Q) : C_countermandlaw21_WorldDoes B a1 n2 c3 h Q := by
 refine zspec Try.func4 [ResultVar.tmp 2] rfl rfl rfl rfl rfl ?_
 refine au 7 rfl ?_
 refine zcall s rfl rfl TF.goes_5 ?_
 rintro _ h5 ⟨b6, rfl, s⟩
 cases b6
 ·replace s := s.2 rfl
  refine au 7 rfl ?_
  exact zr (s.imp fun _ q => ⟨_, rfl, q⟩)
 ·replace s := s.1 rfl
  refine au 8 rfl ?_
  refine zg rfl (sem_lenSl a1 n2 c3 rfl TF.sl_53 ?_)
  refine zt s rfl rfl rfl binI_gtr_t binI_gtr_f (fun s => ?_) fun s => ?_
  ·refine au 6 rfl ?_
   exact zr (s.imp fun _ q => ⟨_, rfl, q⟩)
  ·refine au 5 rfl ?_
   refine zcall s rfl rfl TF.goes_6 ?_
   rintro _ h7 ⟨p8, rfl, s⟩
   refine zcall s rfl rfl TF.goes_9 ?_
   rintro _ h9 ⟨p10, i11, rfl, s⟩
   refine au 8 rfl ?_
   refine zal s rfl TF.zero_47 rfl fun k12 h13 s => ?_
   refine au 3 rfl ?_
   refine zal s rfl TF.zero_54 rfl fun k14 h15 s => ?_
   refine au 10 rfl ?_
   refine Run.seqJ (fun e h17 => Agree [(3, (.pointer p10))] e ∧ S_countermandlaw21_WorldDoes_J1 B p10 h17 Q) ?_ fun j16 => ?_
   ·rintro e h17 ⟨hag, s⟩
    refine Run.env hag ?_; clear hag
    refine au 7 rfl ?_
    refine zcall s rfl rfl TF.goes_21 ?_
    rintro _ h18 ⟨rfl, s⟩
    refine au 4 rfl ?_
    refine zcall s rfl rfl TF.goes_26 ?_
    rintro _ h19 ⟨rfl, s⟩
    refine au 4 rfl ?_
    refine zg rfl (sem_buildSL [] [(.int .i64 (0)), (.int .i64 (0))] TF.zero_59 TF.places_59 rfl rfl ?_)
    refine zg rfl (sem_buildSliceL [(0, (.agg #[(.int .i64 (0)), (.int .i64 (0))]))] [(.int .i64 (0)), (.int .i64 (0))] TF.slc_116 TF.zero_59 rfl (by decide) (by decide) rfl rfl (fun k20 hb1 hb2 h21 hb3 => ?_))
    have s := s k20 hb1 hb2 h21 hb3
    refine zcall s rfl rfl TF.goes_18 ?_
    rintro _ h22 ⟨rfl, s⟩
    refine au 4 rfl ?_
    refine zg rfl (sem_buildSL [] [(.int .i64 (0)), (.int .u8 (0))] TF.zero_62 TF.places_62 rfl rfl ?_)
    refine zg rfl (sem_buildSliceL [(0, (.agg #[(.int .i64 (0)), (.int .u8 (0))]))] [(.int .i64 (0)), (.int .u8 (0))] TF.slc_117 TF.zero_62 rfl (by decide) (by decide) rfl rfl (fun k23 hb1 hb2 h24 hb3 => ?_))
    have s := s k23 hb1 hb2 h24 hb3
    refine zcall s rfl rfl TF.goes_19 ?_
    rintro _ h25 ⟨rfl, s⟩
    refine au 4 rfl ?_
    refine zg rfl (sem_buildSliceL [(0, (.int .i64 (1)))] [(.int .i64 (1))] TF.slc_119 TF.zero_3 rfl (by decide) (by decide) rfl rfl (fun k26 hb1 hb2 h27 hb3 => ?_))
    have s := s k26 hb1 hb2 h27 hb3
    refine zcall s rfl rfl TF.goes_20 ?_
    rintro _ h28 ⟨rfl, s⟩
    refine au 4 rfl ?_
    refine zcall s rfl rfl TF.goes_23 ?_
    rintro _ h29 ⟨rfl, s⟩
    refine au 3 rfl ?_
    refine zcall s rfl rfl TF.goes_9 ?_
    rintro _ h30 ⟨p31, i32, rfl, s⟩
    refine au 9 rfl ?_
    refine zt s rfl rfl rfl binI_eql_t binI_eql_f (fun s => ?_) fun s => ?_
    ·refine au 2 rfl ?_
     refine zcall s rfl rfl TF.goes_22 ?_
     rintro _ h33 ⟨i34, rfl, s⟩
     refine zt s rfl rfl rfl binI_eql_t binI_eql_f (fun s => ?_) fun s => ?_
     ·refine au 3 rfl ?_
      refine zcall s rfl rfl TF.goes_13 ?_
      rintro _ h35 ⟨p36, rfl, s⟩
      by_cases hb37 : p36 = none
      ·replace s := s.1 hb37
       refine zg rfl (sem_ptrNilT p36 (.inl rfl) true rfl rfl TF.ptr_45 hb37 rfl ?_)
       refine au 3 rfl ?_
       refine zcall s rfl rfl TF.goes_24 ?_
       rintro _ h38 ⟨p39, rfl, s⟩
       by_cases hb40 : p39 = none
       ·replace s := s.1 hb40
        refine zg rfl (sem_ptrNilT p39 (.inl rfl) true rfl rfl TF.ptr_73 hb40 rfl ?_)
        refine au 3 rfl ?_
        refine zcall s rfl rfl TF.goes_27 ?_
        rintro _ h41 ⟨p42, rfl, s⟩
        by_cases hb43 : p42 = none
        ·replace s := s.1 hb43
         refine zg rfl (sem_ptrNilT p42 (.inl rfl) true rfl rfl TF.ptr_76 hb43 rfl ?_)
         refine au 3 rfl ?_
         refine zcall s rfl rfl TF.goes_16 ?_
         rintro _ h44 ⟨p45, rfl, s⟩
         by_cases hb46 : p45 = none
         ·replace s := s.1 hb46
          refine zg rfl (sem_ptrNilT p45 (.inl rfl) true rfl rfl TF.ptr_23 hb46 rfl ?_)
          refine au 3 rfl ?_
          refine zcall s rfl rfl TF.goes_14 ?_
          rintro _ h47 ⟨i48, i49, i50, i51, rfl, s⟩
          refine zg rfl (sem_buildAL [] [(.int .i64 (0)), (.int .i64 (0)), (.int .i64 (0)), (.int .i64 (0))] TF.zero_47 TF.arr_47 rfl rfl ?_)
          by_cases hb52 : eqL [(.int .i64 (i48)), (.int .i64 (i49)), (.int .i64 (i50)), (.int .i64 (i51))] [(.int .i64 (0)), (.int .i64 (0)), (.int .i64 (0)), (.int .i64 (0))] = true
          ·replace s := s.1 hb52
           refine zg rfl (sem_aggEq [(.int .i64 (i48)), (.int .i64 (i49)), (.int .i64 (i50)), (.int .i64 (i51))] [(.int .i64 (0)), (.int .i64 (0)), (.int .i64 (0)), (.int .i64 (0))] _ (true) (.inl rfl) rfl rfl TF.agg_47 TF.flat_47 TF.eqg_47 ⟨⟨_, rfl⟩, ⟨_, rfl⟩, ⟨_, rfl⟩, ⟨_, rfl⟩, trivial⟩ ⟨⟨_, rfl⟩, ⟨_, rfl⟩, ⟨_, rfl⟩, ⟨_, rfl⟩, trivial⟩ (eqLT_eql hb52) ?_)
           refine au 3 rfl ?_
           refine zcall s rfl rfl TF.goes_15 ?_
           rintro _ h53 ⟨a54, n55, c56, rfl, s⟩
           refine zg rfl (sem_lenSl a54 n55 c56 rfl TF.sl_49 ?_)
           refine au 1 rfl ?_
           refine zcall s rfl rfl TF.goes_12 ?_
           rintro _ h57 ⟨i58, rfl, s⟩
           refine au 1 rfl ?_
           refine zt s rfl rfl rfl binI_eql_t binI_eql_f (fun s => ?_) fun s => ?_
           ·refine au 3 rfl ?_
            refine zcall s rfl rfl TF.goes_27 ?_
            rintro _ h59 ⟨p60, rfl, s⟩
            refine zcall s rfl rfl TF.goes_28 ?_
            rintro _ h61 ⟨b62, rfl, s⟩
            refine au 3 rfl ?_
            exact zr (s.imp fun _ q => ⟨_, rfl, q⟩)
           ·refine au 8 rfl ?_
            exact zr (s.imp fun _ q => ⟨_, rfl, q⟩)
          ·replace s := s.2 hb52
           refine zg rfl (sem_aggEq [(.int .i64 (i48)), (.int .i64 (i49)), (.int .i64 (i50)), (.int .i64 (i51))] [(.int .i64 (0)), (.int .i64 (0)), (.int .i64 (0)), (.int .i64 (0))] _ (false) (.inl rfl) rfl rfl TF.agg_47 TF.flat_47 TF.eqg_47 ⟨⟨_, rfl⟩, ⟨_, rfl⟩, ⟨_, rfl⟩, ⟨_, rfl⟩, trivial⟩ ⟨⟨_, rfl⟩, ⟨_, rfl⟩, ⟨_, rfl⟩, ⟨_, rfl⟩, trivial⟩ (eqLF_eql hb52) ?_)
           refine au 17 rfl ?_
           exact zr (s.imp fun _ q => ⟨_, rfl, q⟩)
         ·replace s := s.2 hb46
          refine zg rfl (sem_ptrNilF p45 (.inl rfl) false rfl rfl TF.ptr_23 hb46 rfl ?_)
          refine au 23 rfl ?_
          exact zr (s.imp fun _ q => ⟨_, rfl, q⟩)
        ·replace s := s.2 hb43
         refine zg rfl (sem_ptrNilF p42 (.inl rfl) false rfl rfl TF.ptr_76 hb43 rfl ?_)
         refine au 28 rfl ?_
         exact zr (s.imp fun _ q => ⟨_, rfl, q⟩)
       ·replace s := s.2 hb40
        refine zg rfl (sem_ptrNilF p39 (.inl rfl) false rfl rfl TF.ptr_73 hb40 rfl ?_)
        refine au 33 rfl ?_
        exact zr (s.imp fun _ q => ⟨_, rfl, q⟩)
      ·replace s := s.2 hb37
       refine zg rfl (sem_ptrNilF p36 (.inl rfl) false rfl rfl TF.ptr_45 hb37 rfl ?_)
       refine au 38 rfl ?_
       exact zr (s.imp fun _ q => ⟨_, rfl, q⟩)
     ·refine au 43 rfl ?_
      exact zr (s.imp fun _ q => ⟨_, rfl, q⟩)
    ·refine au 47 rfl ?_
     exact zr (s.imp fun _ q => ⟨_, rfl, q⟩)
   refine au 3 rfl ?_
   refine zg rfl (sem_lenSl a1 n2 c3 rfl TF.sl_53 ?_)
   refine au 3 rfl ?_
   obtain ⟨J73, m71, h0, s⟩ := s
   refine Run.of_fin (h0.imp fun h' h0 => ?_)
   refine Run.loop (σ := (Option Addr) × Nat × Nat × Int × Int × Int × Nat) (fun x e h => J73 x.1 x.2.1 x.2.2.1 x.2.2.2.1 x.2.2.2.2.1 x.2.2.2.2.2.1 x.2.2.2.2.2.2 h ∧ Agree [(3, (.pointer p10)), (5, (.pointer (some ⟨k12, 0, none⟩))), (6, (.pointer (some ⟨k14, 0, none⟩))), (7, (.slice x.1 x.2.1 x.2.2.1)), (8, (.int .i64 (x.2.2.2.1))), (9, (.int .i64 (x.2.2.2.2.1))), (29, (.slice a1 n2 c3)), (30, (.int .i64 ((n2 : Nat)))), (31, (.int .i64 (x.2.2.2.2.2.1)))] e) (fun x => x.2.2.2.2.2.2) (none, 0, 0, (0), (0), (0), m71) ⟨h0, ⟨rfl, rfl, rfl, rfl, rfl, rfl, rfl, rfl, rfl, trivial⟩⟩ ?_; clear h0
   rintro ⟨a63, n64, c65, i66, i67, i68, m70⟩ e h69 ⟨hJ, hag⟩ ih72
   have s := s a63 n64 c65 i66 i67 i68 m70 h69 hJ; clear hJ
   refine Run.env hag ?_; clear hag
   refine au 2 rfl ?_
   refine zt s rfl rfl rfl binI_lss_t binI_lss_f (fun s => ?_) fun s => ?_
   ·refine au 8 rfl ?_
    obtain ⟨A74, e75, hi0, hi1, s⟩ := s
    refine zg rfl (sem_indexAddrS A74 n2 c3 .i64 (i68) (congrArg (fun a => Value.slice a n2 c3) e75) rfl TF.slc_53 hi0 hi1 ?_)
    obtain ⟨i76, i77, i78, hl, s⟩ := s
    refine zn hl rfl rfl TF.agg_56 TF.sz_56 rfl ?_
    refine zal s rfl TF.zero_56 rfl fun k79 h80 s => ?_
    refine zsn s rfl rfl rfl TF.sz_56 rfl fun h81 s => ?_
    refine au 1 rfl ?_
    refine Run.seqJ (fun e h88 => ∃ a83 : Option Addr, ∃ n84 : Nat, ∃ c85 : Nat, ∃ i86 : Int, ∃ i87 : Int, Agree [(3, (.pointer p10)), (5, (.pointer (some ⟨k12, 0, none⟩))), (6, (.pointer (some ⟨k14, 0, none⟩))), (7, (.slice a83 n84 c85)), (8, (.int .i64 (i86))), (9, (.int .i64 (i87))), (29, (.slice a1 n2 c3)), (30, (.int .i64 ((n2 : Nat)))), (31, (.int .i64 (i68)))] e ∧ S_countermandlaw21_WorldDoes_J2 B a1 n2 c3 p10 k12 k14 i68 m70 J73 a83 n84 c85 i86 i87 h88 Q) ?_ fun j82 => ?_
    ·rintro e h88 ⟨a83, n84, c85, i86, i87, hag, s⟩
     refine Run.env hag ?_; clear hag
     refine au 3 rfl ?_
     refine zcall s rfl rfl TF.goes_15 ?_
     rintro _ h89 ⟨a90, n91, c92, rfl, s⟩
     refine au 2 rfl ?_
     refine Run.seqJ (fun e h94 => Agree [(3, (.pointer p10)), (5, (.pointer (some ⟨k12, 0, none⟩))), (6, (.pointer (some ⟨k14, 0, none⟩))), (7, (.slice a83 n84 c85)), (8, (.int .i64 (i86))), (9, (.int .i64 (i87))), (13, (.slice a90 n91 c92)), (29, (.slice a1 n2 c3)), (30, (.int .i64 ((n2 : Nat)))), (31, (.int .i64 (i68)))] e ∧ S_countermandlaw21_WorldDoes_J3 B a1 n2 c3 p10 k12 k14 i68 m70 J73 a83 n84 c85 i86 i87 a90 n91 c92 h94 Q) ?_ fun j93 => ?_
     ·rintro e h94 ⟨hag, s⟩
      refine Run.env hag ?_; clear hag
      refine Run.seqJ (fun e h96 => Agree [(3, (.pointer p10)), (5, (.pointer (some ⟨k12, 0, none⟩))), (6, (.pointer (some ⟨k14, 0, none⟩))), (7, (.slice a83 n84 c85)), (8, (.int .i64 (i86))), (9, (.int .i64 (i87))), (29, (.slice a1 n2 c3)), (30, (.int .i64 ((n2 : Nat)))), (31, (.int .i64 (i68)))] e ∧ S_countermandlaw21_WorldDoes_J4 B a1 n2 c3 p10 k12 k14 i68 m70 J73 a83 n84 c85 i86 i87 h96 Q) ?_ fun j95 => ?_
      ·rintro e h96 ⟨hag, s⟩
       refine Run.env hag ?_; clear hag
       refine au 5 rfl ?_
       obtain ⟨J102, m100, h0, s⟩ := s
       refine Run.of_fin (h0.imp fun h' h0 => ?_)
       refine Run.loop (σ := Int × Nat) (fun x e h => J102 x.1 x.2 h ∧ Agree [(3, (.pointer p10)), (5, (.pointer (some ⟨k12, 0, none⟩))), (6, (.pointer (some ⟨k14, 0, none⟩))), (7, (.slice a83 n84 c85)), (8, (.int .i64 (i86))), (9, (.int .i64 (i87))), (29, (.slice a1 n2 c3)), (30, (.int .i64 ((n2 : Nat)))), (31, (.int .i64 (i68))), (191, (.int .i64 (x.1)))] e) (fun x => x.2) ((0), m100) ⟨h0, ⟨rfl, rfl, rfl, rfl, rfl, rfl, rfl, rfl, rfl, rfl, trivial⟩⟩ ?_; clear h0
       rintro ⟨i97, m99⟩ e h98 ⟨hJ, hag⟩ ih101
       have s := s i97 m99 h98 hJ; clear hJ
       refine Run.env hag ?_; clear hag
       refine au 2 rfl ?_
       refine zt s rfl rfl rfl binI_lss_t binI_lss_f (fun s => ?_) fun s => ?_
       ·refine au 12 rfl ?_
        obtain ⟨hi0, hi1, s⟩ := s
        have f107 := hi0; have f108 := hi1
        obtain ⟨s109, hl, s⟩ := s
        have f110 := hl
        refine Run.drawM (fun h' => cellH B h' (Addr.add ⟨k14, 0, none⟩ (Int.toNat (i97) * 1)) = some (.string s109) ∧ True) [] ⟨[0, 1, 0, 6, 0, 16, 32, 72], [255, 254, 255, 249, 255, 239, 223, 183], [0, 0, 0, 0, 0, 0, 0, 0], 0⟩ (.q 0 (.q 2 (.q 4 (.q 5 (.q 6 (.x 1 (.x 3 (.q 7 .nil) .no) .no)))))) TF.mixed (by kernel_rfl) ⟨f110, trivial⟩ ?_
        refine auT 3 rfl ?_
        refine zq rfl (fun _ hC => sem_indexAddrA ⟨k14, 0, none⟩ .i64 (i97) rfl rfl TF.arr_54 f107 f108 ⟨rfl, rfl⟩) ?_
        refine zq rfl (fun _ hC => sem_load1 (Addr.add ⟨k14, 0, none⟩ (Int.toNat (i97) * 1)) ((.string s109)) rfl TF.agg_9 hC.1 ⟨rfl, rfl⟩) ?_
        refine ⟨zo rfl (sem_callL [(.pointer p10)] (TF.goes_24) rfl rfl (Spec.mono s fun v h111 hv => ?_)), trivial⟩
        obtain ⟨p112, rfl, s⟩ := hv
        obtain ⟨g113, s⟩ := s
        refine ⟨fun _ => ⟨g113, trivial⟩, ?_⟩
        refine ⟨zo rfl (sem_callL [(.pointer p112), (.int .i64 (i97))] (TF.goes_25) rfl rfl (Spec.mono s fun v h114 hv => ?_)), trivial⟩
        obtain ⟨s115, rfl, s⟩ := hv
        obtain ⟨g116, s⟩ := s
        refine ⟨fun _ => ⟨g116, trivial⟩, ?_⟩
        by_cases hb117 : s115 = s109
        ·replace s := s.1 hb117
         refine zq rfl (fun _ _ => sem_strNeT s115 s109 rfl rfl hb117 ⟨rfl, rfl⟩) ?_
         refine au 7 rfl ?_
         exact Run.of_fin (s.imp fun h' ⟨m', hm, s⟩ => ih101 ((IntKind.wrap .i64 ((i97) + (1))), m') _ _ ⟨s, ⟨rfl, rfl, rfl, rfl, rfl, rfl, rfl, rfl, rfl, rfl, trivial⟩⟩ hm)
        ·replace s := s.2 hb117
         refine zq rfl (fun _ _ => sem_strNeF s115 s109 rfl rfl hb117 ⟨rfl, rfl⟩) ?_
         refine au 5 rfl ?_
         exact zr (s.imp fun _ q => ⟨_, rfl, q⟩)
       ·refine au 9 rfl ?_
        exact Run.of_fin (s.imp fun h' ⟨m', hm, s⟩ => ih72 (a83, n84, c85, (i86), (i87), (IntKind.wrap .i64 ((i68) + (1))), m') _ _ ⟨s, ⟨rfl, rfl, rfl, rfl, rfl, rfl, rfl, rfl, rfl, trivial⟩⟩ hm)
      refine au 3 rfl ?_
      refine zg rfl (sem_lenSl a90 n91 c92 rfl TF.sl_49 ?_)
      refine au 3 rfl ?_
      obtain ⟨J123, m121, h0, s⟩ := s
      refine Run.of_fin (h0.imp fun h' h0 => ?_)
      refine Run.loop (σ := Int × Nat) (fun x e h => J123 x.1 x.2 h ∧ Agree [(3, (.pointer p10)), (5, (.pointer (some ⟨k12, 0, none⟩))), (6, (.pointer (some ⟨k14, 0, none⟩))), (7, (.slice a83 n84 c85)), (8, (.int .i64 (i86))), (9, (.int .i64 (i87))), (13, (.slice a90 n91 c92)), (29, (.slice a1 n2 c3)), (30, (.int .i64 ((n2 : Nat)))), (31, (.int .i64 (i68))), (177, (.int .i64 ((n91 : Nat)))), (178, (.int .i64 (x.1)))] e) (fun x => x.2) ((0), m121) ⟨h0, ⟨rfl, rfl, rfl, rfl, rfl, rfl, rfl, rfl, rfl, rfl, rfl, rfl, trivial⟩⟩ ?_; clear h0
      rintro ⟨i118, m120⟩ e h119 ⟨hJ, hag⟩ ih122
      have s := s i118 m120 h119 hJ; clear hJ
      refine Run.env hag ?_; clear hag
      refine au 2 rfl ?_
      refine zt s rfl rfl rfl binI_lss_t binI_lss_f (fun s => ?_) fun s => ?_
      ·refine au 12 rfl ?_
       refine Run.drawM (fun h' => h' = h119) [] ⟨[0, 0, 3, 4, 0, 0, 48, 64, 136], [511, 511, 508, 507, 511, 511, 463, 447, 375], [0, 0, 0, 0, 0, 0, 0, 0, 0], 0⟩ (.q 0 (.q 1 (.q 2 (.q 3 (.q 4 (.q 5 (.q 6 (.q 7 (.q 8 .nil))))))))) TF.mixed (by kernel_rfl) rfl ?_
       refine auT 2 rfl ?_
       obtain ⟨A124, e125, hi0, hi1, s⟩ := s
       refine zqe rfl (sem_indexAddrS A124 n91 c92 .i64 (i118) (congrArg (fun a => Value.slice a n91 c92) e125) rfl TF.slc_49 hi0 hi1 ⟨rfl, rfl⟩) ?_
       obtain ⟨i126, i127, hl, s⟩ := s
       refine zqe rfl (sem_loadN (Addr.add A124 (Int.toNat (i118) * 2)) [(.int .i64 (i126)), (.int .i64 (i127))] rfl TF.agg_66 TF.sz_66 hl ⟨rfl, rfl⟩) ?_
       refine auT 2 rfl ?_
       obtain ⟨A128, e129, hi0, hi1, s⟩ := s
       refine zqe rfl (sem_indexAddrS A128 n84 c85 .i64 (i118) (congrArg (fun a => Value.slice a n84 c85) e129) rfl TF.slc_49 hi0 hi1 ⟨rfl, rfl⟩) ?_
       obtain ⟨i130, i131, hl, s⟩ := s
       refine zqe rfl (sem_loadN (Addr.add A128 (Int.toNat (i118) * 2)) [(.int .i64 (i130)), (.int .i64 (i131))] rfl TF.agg_66 TF.sz_66 hl ⟨rfl, rfl⟩) ?_
       by_cases hb132 : eqL [(.int .i64 (i126)), (.int .i64 (i127))] [(.int .i64 (i130)), (.int .i64 (i131))] = true
       ·replace s := s.1 hb132
        refine zqe rfl (sem_aggEq [(.int .i64 (i126)), (.int .i64 (i127))] [(.int .i64 (i130)), (.int .i64 (i131))] _ (false) (.inr rfl) rfl rfl TF.agg_66 TF.flat_66 TF.eqg_66 ⟨⟨_, rfl⟩, ⟨_, rfl⟩, trivial⟩ ⟨⟨_, rfl⟩, ⟨_, rfl⟩, trivial⟩ (eqLT_neq hb132) ⟨rfl, rfl⟩) ?_
        refine au 7 rfl ?_
        exact Run.of_fin (s.imp fun h' ⟨m', hm, s⟩ => ih122 ((IntKind.wrap .i64 ((i118) + (1))), m') _ _ ⟨s, ⟨rfl, rfl, rfl, rfl, rfl, rfl, rfl, rfl, rfl, rfl, rfl, rfl, trivial⟩⟩ hm)
       ·replace s := s.2 hb132
        refine zqe rfl (sem_aggEq [(.int .i64 (i126)), (.int .i64 (i127))] [(.int .i64 (i130)), (.int .i64 (i131))] _ (true) (.inr rfl) rfl rfl TF.agg_66 TF.flat_66 TF.eqg_66 ⟨⟨_, rfl⟩, ⟨_, rfl⟩, trivial⟩ ⟨⟨_, rfl⟩, ⟨_, rfl⟩, trivial⟩ (eqLF_neq hb132) ⟨rfl, rfl⟩) ?_
        refine au 5 rfl ?_
        exact zr (s.imp fun _ q => ⟨_, rfl, q⟩)
      ·refine au 4 rfl ?_
       exact Run.of_fin (s.imp fun h' s => j95 _ _ ⟨⟨rfl, rfl, rfl, rfl, rfl, rfl, rfl, rfl, rfl, trivial⟩, s⟩)
     refine au 1 rfl ?_
     obtain ⟨i134, i135, i136, i137, hl, s⟩ := s
     have f138 := hl
     refine Run.drawM (fun h' => CellsAt B h' ⟨k12, 0, none⟩ 0 [(.int .i64 (i134)), (.int .i64 (i135)), (.int .i64 (i136)), (.int .i64 (i137))] ∧ True) [] ⟨[0, 1, 0, 6, 10, 16, 48, 16, 144, 336, 528, 1040, 2048, 6144, 2048, 26624, 34816], [131071, 131070, 131071, 131065, 131063, 131055, 131023, 131055, 130927, 130735, 130543, 130047, 129023, 124927, 129023, 104447, 96255], [0, 0, 0, 0, 0, 0, 0, 0, 0, 0, 0, 0, 0, 0, 0, 0, 0], 0⟩ (.q 0 (.q 2 (.x 1 (.q 3 (.q 4 (.q 5 (.q 6 (.q 7 (.q 8 (.q 9 (.q 10 (.q 11 (.q 12 (.q 14 (.x 13 (.q 15 (.q 16 .nil)) .no)))))))))))) .no))) TF.mixed (by kernel_rfl) ⟨f138, trivial⟩ ?_
     refine auT 1 rfl ?_
     refine zq rfl (fun _ hC => sem_loadN ⟨k12, 0, none⟩ [(.int .i64 (i134)), (.int .i64 (i135)), (.int .i64 (i136)), (.int .i64 (i137))] rfl TF.agg_47 TF.sz_47 hC.1 ⟨rfl, rfl⟩) ?_
     refine ⟨zo rfl (sem_callL [(.pointer p10)] (TF.goes_14) rfl rfl (Spec.mono s fun v h139 hv => ?_)), trivial⟩
     obtain ⟨i140, i141, i142, i143, rfl, s⟩ := hv
     obtain ⟨g144, s⟩ := s
     refine ⟨fun _ => ⟨g144, trivial⟩, ?_⟩
     by_cases hb145 : eqL [(.int .i64 (i140)), (.int .i64 (i141)), (.int .i64 (i142)), (.int .i64 (i143))] [(.int .i64 (i134)), (.int .i64 (i135)), (.int .i64 (i136)), (.int .i64 (i137))] = true
     ·replace s := s.1 hb145
      refine zq rfl (fun _ _ => sem_aggEq [(.int .i64 (i140)), (.int .i64 (i141)), (.int .i64 (i142)), (.int .i64 (i143))] [(.int .i64 (i134)), (.int .i64 (i135)), (.int .i64 (i136)), (.int .i64 (i137))] _ (false) (.inr rfl) rfl rfl TF.agg_47 TF.flat_47 TF.eqg_47 ⟨⟨_, rfl⟩, ⟨_, rfl⟩, ⟨_, rfl⟩, ⟨_, rfl⟩, trivial⟩ ⟨⟨_, rfl⟩, ⟨_, rfl⟩, ⟨_, rfl⟩, ⟨_, rfl⟩, trivial⟩ (eqLT_neq hb145) ⟨rfl, rfl⟩) ?_
      refine auT 2 rfl ?_
      refine zq rfl (fun _ _ => sem_lenSl a90 n91 c92 rfl TF.sl_49 ⟨rfl, rfl⟩) ?_
      refine auT 1 rfl ?_
      refine zq rfl (fun _ _ => sem_lenSl a83 n84 c85 rfl TF.sl_49 ⟨rfl, rfl⟩) ?_
      by_cases hb146 : ((n91 : Nat) : Int) = (n84 : Nat)
      ·replace s := s.1 hb146
       refine zq rfl (fun _ _ => sem_binI .i64 ((n91 : Nat)) ((n84 : Nat)) (.bool false) rfl rfl (binI_neq_t hb146) ⟨rfl, rfl⟩) ?_
       refine auT 4 rfl ?_
       refine ⟨zo rfl (sem_callL [(.pointer p10)] (TF.goes_12) rfl rfl (Spec.mono s fun v h147 hv => ?_)), trivial⟩
       obtain ⟨i148, rfl, s⟩ := hv
       obtain ⟨g149, s⟩ := s
       refine ⟨fun _ => ⟨g149, trivial⟩, ?_⟩
       by_cases hb150 : (i148 : Int) = i87
       ·replace s := s.1 hb150
        refine zq rfl (fun _ _ => sem_binI .i64 (i148) (i87) (.bool false) rfl rfl (binI_neq_t hb150) ⟨rfl, rfl⟩) ?_
        refine auT 1 rfl ?_
        refine au 2 rfl ?_
        exact Run.of_fin (s.imp fun h' s => j93 _ _ ⟨⟨rfl, rfl, rfl, rfl, rfl, rfl, rfl, rfl, rfl, rfl, trivial⟩, s⟩)
       ·replace s := s.2 hb150
        refine zq rfl (fun _ _ => sem_binI .i64 (i148) (i87) (.bool true) rfl rfl (binI_neq_f hb150) ⟨rfl, rfl⟩) ?_
        refine auT 1 rfl ?_
        refine au 5 rfl ?_
        exact zr (s.imp fun _ q => ⟨_, rfl, q⟩)
      ·replace s := s.2 hb146
       refine zq rfl (fun _ _ => sem_binI .i64 ((n91 : Nat)) ((n84 : Nat)) (.bool true) rfl rfl (binI_neq_f hb146) ⟨rfl, rfl⟩) ?_
       refine auT 4 rfl ?_
       refine ⟨zon rfl ⟨fun _ => ⟨g144, trivial⟩, ?_⟩, trivial⟩
       refine auT 2 rfl ?_
       refine au 5 rfl ?_
       exact zr (s.imp fun _ q => ⟨_, rfl, q⟩)
     ·replace s := s.2 hb145
      refine zq rfl (fun _ _ => sem_aggEq [(.int .i64 (i140)), (.int .i64 (i141)), (.int .i64 (i142)), (.int .i64 (i143))] [(.int .i64 (i134)), (.int .i64 (i135)), (.int .i64 (i136)), (.int .i64 (i137))] _ (true) (.inr rfl) rfl rfl TF.agg_47 TF.flat_47 TF.eqg_47 ⟨⟨_, rfl⟩, ⟨_, rfl⟩, ⟨_, rfl⟩, ⟨_, rfl⟩, trivial⟩ ⟨⟨_, rfl⟩, ⟨_, rfl⟩, ⟨_, rfl⟩, ⟨_, rfl⟩, trivial⟩ (eqLF_neq hb145) ⟨rfl, rfl⟩) ?_
      refine auT 10 rfl ?_
      refine ⟨zon rfl ⟨fun _ => ⟨g144, trivial⟩, ?_⟩, trivial⟩
      refine auT 2 rfl ?_
      refine au 5 rfl ?_
      exact zr (s.imp fun _ q => ⟨_, rfl, q⟩)
    refine au 3 rfl ?_
    refine zl s rfl rfl TF.agg_3 fun i151 s => ?_
    refine au 4 rfl ?_
    refine zt s rfl rfl rfl binI_eql_t binI_eql_f (fun s => ?_) fun s => ?_
    ·refine au 3 rfl ?_
     refine Run.seqJ (fun e h153 => Agree [(3, (.pointer p10)), (5, (.pointer (some ⟨k12, 0, none⟩))), (6, (.pointer (some ⟨k14, 0, none⟩))), (7, (.slice a63 n64 c65)), (8, (.int .i64 (i66))), (9, (.int .i64 (i67))), (11, (.pointer (some ⟨k79, 0, none⟩))), (29, (.slice a1 n2 c3)), (30, (.int .i64 ((n2 : Nat)))), (31, (.int .i64 (i68)))] e ∧ S_countermandlaw21_WorldDoes_J5 B a1 n2 c3 p10 k12 k14 a63 n64 c65 i66 i67 i68 m70 J73 k79 h153 Q) ?_ fun j152 => ?_
     ·rintro e h153 ⟨hag, s⟩
      refine Run.env hag ?_; clear hag
      refine au 4 rfl ?_
      refine zl s rfl rfl TF.agg_3 fun i154 s => ?_
      refine au 1 rfl ?_
      refine zl s rfl rfl TF.agg_3 fun i155 s => ?_
      refine zg rfl (sem_buildSL [(0, (.int .i64 (i154))), (1, (.int .i64 (i155)))] [(.int .i64 (i154)), (.int .i64 (i155))] TF.zero_59 TF.places_59 rfl rfl ?_)
      refine zg rfl (sem_buildSliceL [(0, (.agg #[(.int .i64 (i154)), (.int .i64 (i155))]))] [(.int .i64 (i154)), (.int .i64 (i155))] TF.slc_116 TF.zero_59 rfl (by decide) (by decide) rfl rfl (fun k156 hb1 hb2 h157 hb3 => ?_))
      have s := s k156 hb1 hb2 h157 hb3
      refine zcall s rfl rfl TF.goes_18 ?_
      rintro _ h158 ⟨rfl, s⟩
      refine au 1 rfl ?_
      refine Run.seqJ (fun e h161 => ∃ b160 : Bool, Agree [(3, (.pointer p10)), (5, (.pointer (some ⟨k12, 0, none⟩))), (6, (.pointer (some ⟨k14, 0, none⟩))), (7, (.slice a63 n64 c65)), (8, (.int .i64 (i66))), (9, (.int .i64 (i67))), (11, (.pointer (some ⟨k79, 0, none⟩))), (29, (.slice a1 n2 c3)), (30, (.int .i64 ((n2 : Nat)))), (31, (.int .i64 (i68))), (62, (.bool b160))] e ∧ S_countermandlaw21_WorldDoes_J6 B a1 n2 c3 p10 k12 k14 a63 n64 c65 i66 i67 i68 m70 J73 k79 b160 h161 Q) ?_ fun j159 => ?_
      ·rintro e h161 ⟨b160, hag, s⟩
       refine Run.env hag ?_; clear hag
       cases b160
       ·replace s := s.2 rfl
        refine au 3 rfl ?_
        exact Run.of_fin (s.imp fun h' s => j82 _ _ ⟨a63, n64, c65, (i66), (i67), ⟨rfl, rfl, rfl, rfl, rfl, rfl, rfl, rfl, rfl, trivial⟩, s⟩)
       ·replace s := s.1 rfl
        refine au 1 rfl ?_
        refine Run.drawM (fun h' => h' = h161) [8] ⟨[0, 1, 2, 4, 0, 16, 40, 127, 255], [511, 510, 509, 507, 511, 495, 471, 509, 319], [0, 1, 3, 7, 0, 16, 63, 127, 255], 256⟩ (.q 0 (.q 1 (.q 2 (.q 3 (.q 4 (.q 5 (.q 6 (.q 7 (.x 8 .nil .no))))))))) TF.mixed (by kernel_rfl) rfl ?_
        refine auT 1 rfl ?_
        obtain ⟨i162, hl, s⟩ := s
        refine zqe rfl (sem_load1 ⟨k79, 1, none⟩ ((.int .i64 (i162))) rfl TF.agg_3 hl ⟨rfl, rfl⟩) ?_
        obtain ⟨hi0, hi1, s⟩ := s
        refine zqe rfl (sem_indexAddrA ⟨k12, 0, none⟩ .i64 (i162) rfl rfl TF.arr_47 hi0 hi1 ⟨rfl, rfl⟩) ?_
        obtain ⟨i163, hl, s⟩ := s
        refine zqe rfl (sem_load1 (Addr.add ⟨k12, 0, none⟩ (Int.toNat (i162) * 1)) ((.int .i64 (i163))) rfl TF.agg_3 hl ⟨rfl, rfl⟩) ?_
        refine auT 1 rfl ?_
        obtain ⟨i164, hl, s⟩ := s
        refine zqe rfl (sem_load1 ⟨k79, 2, none⟩ ((.int .i64 (i164))) rfl TF.agg_3 hl ⟨rfl, rfl⟩) ?_
        refine auT 1 rfl ?_
        obtain ⟨hi0, hi1, s⟩ := s
        refine zqe rfl (sem_indexAddrA ⟨k12, 0, none⟩ .i64 (i162) rfl rfl TF.arr_47 hi0 hi1 ⟨rfl, rfl⟩) ?_
        obtain ⟨h165, hst, s⟩ := s
        refine ⟨zo0 rfl (sem_store1 (Addr.add ⟨k12, 0, none⟩ (Int.toNat (i162) * 1)) ((.int .i64 (IntKind.wrap .i64 ((i163) + (i164))))) h165 rfl rfl rfl TF.sz_3 hst ?_), trivial⟩
        refine ⟨fun hz => Bool.noConfusion hz, ?_⟩
        refine au 1 rfl ?_
        exact Run.of_fin (s.imp fun h' s => j82 _ _ ⟨a63, n64, c65, (i66), (i67), ⟨rfl, rfl, rfl, rfl, rfl, rfl, rfl, rfl, rfl, trivial⟩, s⟩)
      refine au 2 rfl ?_
      refine zl s rfl rfl TF.agg_3 fun i166 s => ?_
      refine zt s rfl rfl rfl binI_geq_t binI_geq_f (fun s => ?_) fun s => ?_
      ·refine au 2 rfl ?_
       refine zl s rfl rfl TF.agg_3 fun i167 s => ?_
       refine zt s rfl rfl rfl binI_lss_t binI_lss_f (fun s => ?_) fun s => ?_
       ·refine au 2 rfl ?_
        exact Run.of_fin (s.imp fun h' s => j159 _ _ ⟨(true), ⟨rfl, rfl, rfl, rfl, rfl, rfl, rfl, rfl, rfl, rfl, rfl, trivial⟩, s⟩)
       ·refine au 2 rfl ?_
        exact Run.of_fin (s.imp fun h' s => j159 _ _ ⟨(false), ⟨rfl, rfl, rfl, rfl, rfl, rfl, rfl, rfl, rfl, rfl, rfl, trivial⟩, s⟩)
      ·refine au 6 rfl ?_
       exact Run.of_fin (s.imp fun h' s => j159 _ _ ⟨(false), ⟨rfl, rfl, rfl, rfl, rfl, rfl, rfl, rfl, rfl, rfl, rfl, trivial⟩, s⟩)
     refine au 3 rfl ?_
     refine zl s rfl rfl TF.agg_3 fun i168 s => ?_
     refine zt s rfl rfl rfl binI_gtr_t binI_gtr_f (fun s => ?_) fun s => ?_
     ·refine au 11 rfl ?_
      exact zr (s.imp fun _ q => ⟨_, rfl, q⟩)
     ·refine au 2 rfl ?_
      refine zl s rfl rfl TF.agg_3 fun i169 s => ?_
      refine zt s rfl rfl rfl binI_lss_t binI_lss_f (fun s => ?_) fun s => ?_
      ·refine au 7 rfl ?_
       exact zr (s.imp fun _ q => ⟨_, rfl, q⟩)
      ·refine au 4 rfl ?_
       exact Run.of_fin (s.imp fun h' s => j152 _ _ ⟨⟨rfl, rfl, rfl, rfl, rfl, rfl, rfl, rfl, rfl, rfl, trivial⟩, s⟩)
    ·refine au 5 rfl ?_
     refine zt s rfl rfl rfl binI_eql_t binI_eql_f (fun s => ?_) fun s => ?_
     ·refine au 7 rfl ?_
      refine zl s rfl rfl TF.agg_3 fun i170 s => ?_
      refine au 1 rfl ?_
      refine zl s rfl rfl TF.agg_3 fun i171 s => ?_
      refine zg rfl (sem_convI .i64 .u8 (i171) rfl TF.int_3 TF.int_5 ?_)
      refine zg rfl (sem_buildSL [(0, (.int .i64 (i170))), (1, (.int .u8 (IntKind.wrap .u8 (i171))))] [(.int .i64 (i170)), (.int .u8 (IntKind.wrap .u8 (i171)))] TF.zero_62 TF.places_62 rfl rfl ?_)
      refine zg rfl (sem_buildSliceL [(0, (.agg #[(.int .i64 (i170)), (.int .u8 (IntKind.wrap .u8 (i171)))]))] [(.int .i64 (i170)), (.int .u8 (IntKind.wrap .u8 (i171)))] TF.slc_117 TF.zero_62 rfl (by decide) (by decide) rfl rfl (fun k172 hb1 hb2 h173 hb3 => ?_))
      have s := s k172 hb1 hb2 h173 hb3
      refine zcall s rfl rfl TF.goes_19 ?_
      rintro _ h174 ⟨rfl, s⟩
      refine au 1 rfl ?_
      refine Run.seqJ (fun e h177 => ∃ b176 : Bool, Agree [(3, (.pointer p10)), (5, (.pointer (some ⟨k12, 0, none⟩))), (6, (.pointer (some ⟨k14, 0, none⟩))), (7, (.slice a63 n64 c65)), (8, (.int .i64 (i66))), (9, (.int .i64 (i67))), (11, (.pointer (some ⟨k79, 0, none⟩))), (29, (.slice a1 n2 c3)), (30, (.int .i64 ((n2 : Nat)))), (31, (.int .i64 (i68))), (89, (.bool b176))] e ∧ S_countermandlaw21_WorldDoes_J7 B a1 n2 c3 p10 k12 k14 a63 n64 c65 i66 i67 i68 m70 J73 k79 b176 h177 Q) ?_ fun j175 => ?_
      ·rintro e h177 ⟨b176, hag, s⟩
       refine Run.env hag ?_; clear hag
       cases b176
       ·replace s := s.2 rfl
        refine au 3 rfl ?_
        exact Run.of_fin (s.imp fun h' s => j82 _ _ ⟨a63, n64, c65, (i66), (i67), ⟨rfl, rfl, rfl, rfl, rfl, rfl, rfl, rfl, rfl, trivial⟩, s⟩)
       ·replace s := s.1 rfl
        refine au 1 rfl ?_
        obtain ⟨i179, hl, s⟩ := s
        have f180 := hl
        obtain ⟨i182, hl, s⟩ := s
        have f183 := hl
        obtain ⟨hi0, hi1, s⟩ := s
        have f185 := hi0; have f186 := hi1
        obtain ⟨s187, hl, s⟩ := s
        have f188 := hl
        obtain ⟨i190, hl, s⟩ := s
        have f191 := hl
        refine Run.drawM (fun h' => cellH B h' ⟨k79, 1, none⟩ = some (.int .i64 (i179)) ∧ cellH B h' ⟨k79, 1, none⟩ = some (.int .i64 (i182)) ∧ cellH B h' (Addr.add ⟨k14, 0, none⟩ (Int.toNat (i182) * 1)) = some (.string s187) ∧ cellH B h' ⟨k79, 2, none⟩ = some (.int .i64 (i190)) ∧ True) [13] ⟨[0, 1, 0, 4, 8, 16, 0, 64, 128, 256, 512, 1056, 4095, 8191], [16383, 16382, 16383, 16379, 16375, 16367, 16383, 16319, 16255, 16127, 15871, 15327, 16381, 10239], [0, 1, 0, 4, 12, 28, 0, 64, 192, 448, 960, 2044, 4095, 8191], 8192⟩ (.q 0 (.q 1 (.q 2 (.q 3 (.q 4 (.q 5 (.q 6 (.q 7 (.q 8 (.x 9 (.x 10 (.q 11 (.q 12 (.x 13 .nil .no))) .no) .no)))))))))) TF.mixed (by kernel_rfl) ⟨f180, f183, f188, f191, trivial⟩ ?_
        refine auT 1 rfl ?_
        refine zq rfl (fun _ hC => sem_load1 ⟨k79, 1, none⟩ ((.int .i64 (i179))) rfl TF.agg_3 hC.1 ⟨rfl, rfl⟩) ?_
        refine auT 1 rfl ?_
        refine zq rfl (fun _ hC => sem_load1 ⟨k79, 1, none⟩ ((.int .i64 (i182))) rfl TF.agg_3 hC.2.1 ⟨rfl, rfl⟩) ?_
        refine zq rfl (fun _ hC => sem_indexAddrA ⟨k14, 0, none⟩ .i64 (i182) rfl rfl TF.arr_54 f185 f186 ⟨rfl, rfl⟩) ?_
        refine zq rfl (fun _ hC => sem_load1 (Addr.add ⟨k14, 0, none⟩ (Int.toNat (i182) * 1)) ((.string s187)) rfl TF.agg_9 hC.2.2.1 ⟨rfl, rfl⟩) ?_
        refine auT 1 rfl ?_
        refine zq rfl (fun _ hC => sem_load1 ⟨k79, 2, none⟩ ((.int .i64 (i190))) rfl TF.agg_3 hC.2.2.2.1 ⟨rfl, rfl⟩) ?_
        refine zq rfl (fun _ hC => sem_convI .i64 .u8 (i190) rfl TF.int_3 TF.int_5 ⟨rfl, rfl⟩) ?_
        refine ⟨zo rfl (sem_buildSliceL [(0, (.int .u8 (IntKind.wrap .u8 (i190))))] [(.int .u8 (IntKind.wrap .u8 (i190)))] TF.slc_63 TF.zero_5 rfl (by decide) (by decide) rfl rfl (fun k193 hb1 hb2 h194 hb3 => ?_)), trivial⟩
        have s := s k193 hb1 hb2 h194 hb3
        obtain ⟨g195, g196, g197, g198, s⟩ := s
        refine ⟨fun _ => ⟨g195, g196, g197, g198, trivial⟩, ?_⟩
        refine ⟨zo rfl (sem_convW ((.slice (some ⟨k193, 0, none⟩) 1 1)) rfl (semH_mono (fun v h200 hv => ?_) s)), trivial⟩
        obtain ⟨s199, rfl, s⟩ := hv
        obtain ⟨g201, g202, g203, g204, s⟩ := s
        refine ⟨fun _ => ⟨g201, g202, g203, g204, trivial⟩, ?_⟩
        obtain ⟨hi0, s⟩ := s
        refine zq rfl (fun _ _ => sem_strAdd s187 s199 rfl rfl hi0 ⟨rfl, rfl⟩) ?_
        obtain ⟨hi0, hi1, s⟩ := s
        refine zq rfl (fun _ _ => sem_indexAddrA ⟨k14, 0, none⟩ .i64 (i179) rfl rfl TF.arr_54 hi0 hi1 ⟨rfl, rfl⟩) ?_
        obtain ⟨h205, hst, s⟩ := s
        refine ⟨zo0 rfl (sem_store1 (Addr.add ⟨k14, 0, none⟩ (Int.toNat (i179) * 1)) ((.string (s187 ++ s199))) h205 rfl rfl rfl TF.sz_9 hst ?_), trivial⟩
        refine ⟨fun hz => Bool.noConfusion hz, ?_⟩
        refine au 1 rfl ?_
        exact Run.of_fin (s.imp fun h' s => j82 _ _ ⟨a63, n64, c65, (i66), (i67), ⟨rfl, rfl, rfl, rfl, rfl, rfl, rfl, rfl, rfl, trivial⟩, s⟩)
      refine au 2 rfl ?_
      refine zl s rfl rfl TF.agg_3 fun i206 s => ?_
      refine zt s rfl rfl rfl binI_geq_t binI_geq_f (fun s => ?_) fun s => ?_
      ·refine au 2 rfl ?_
       refine zl s rfl rfl TF.agg_3 fun i207 s => ?_
       refine zt s rfl rfl rfl binI_lss_t binI_lss_f (fun s => ?_) fun s => ?_
       ·refine au 2 rfl ?_
        exact Run.of_fin (s.imp fun h' s => j175 _ _ ⟨(true), ⟨rfl, rfl, rfl, rfl, rfl, rfl, rfl, rfl, rfl, rfl, rfl, trivial⟩, s⟩)
       ·refine au 2 rfl ?_
        exact Run.of_fin (s.imp fun h' s => j175 _ _ ⟨(false), ⟨rfl, rfl, rfl, rfl, rfl, rfl, rfl, rfl, rfl, rfl, rfl, trivial⟩, s⟩)
      ·refine au 6 rfl ?_
       exact Run.of_fin (s.imp fun h' s => j175 _ _ ⟨(false), ⟨rfl, rfl, rfl, rfl, rfl, rfl, rfl, rfl, rfl, rfl, rfl, trivial⟩, s⟩)
     ·refine au 5 rfl ?_
      refine zt s rfl rfl rfl binI_eql_t binI_eql_f (fun s => ?_) fun s => ?_
      ·refine au 7 rfl ?_
       refine zl s rfl rfl TF.agg_3 fun i208 s => ?_
       refine au 1 rfl ?_
       refine zl s rfl rfl TF.agg_3 fun i209 s => ?_
       refine zg rfl (sem_buildSliceL [(0, (.int .i64 (i209)))] [(.int .i64 (i209))] TF.slc_119 TF.zero_3 rfl (by decide) (by decide) rfl rfl (fun k210 hb1 hb2 h211 hb3 => ?_))
       have s := s k210 hb1 hb2 h211 hb3
       refine zcall s rfl rfl TF.goes_20 ?_
       rintro _ h212 ⟨rfl, s⟩
       refine au 4 rfl ?_
       refine zl s rfl rfl TF.agg_3 fun i213 s => ?_
       refine au 1 rfl ?_
       refine zl s rfl rfl TF.agg_3 fun i214 s => ?_
       refine zg rfl (sem_buildSL [(0, (.int .i64 (i213))), (1, (.int .i64 (i214)))] [(.int .i64 (i213)), (.int .i64 (i214))] TF.zero_66 TF.places_66 rfl rfl ?_)
       refine zg rfl (sem_buildSliceL [(0, (.agg #[(.int .i64 (i213)), (.int .i64 (i214))]))] [(.int .i64 (i213)), (.int .i64 (i214))] TF.slc_49 TF.zero_66 rfl (by decide) (by decide) rfl rfl (fun k215 hb1 hb2 h216 hb3 => ?_))
       have s := s k215 hb1 hb2 h216 hb3
       refine zg rfl (sem_appendL [(.slice a63 n64 c65), (.slice (some ⟨k215, 0, none⟩) 1 1)] rfl (semH_mono (fun v h217 hv => ?_) s))
       obtain ⟨a218, n219, c220, rfl, s⟩ := hv
       refine au 3 rfl ?_
       exact Run.of_fin (s.imp fun h' s => j82 _ _ ⟨a218, n219, c220, (i66), (i67), ⟨rfl, rfl, rfl, rfl, rfl, rfl, rfl, rfl, rfl, trivial⟩, s⟩)
      ·refine au 5 rfl ?_
       refine zt s rfl rfl rfl binI_eql_t binI_eql_f (fun s => ?_) fun s => ?_
       ·refine au 7 rfl ?_
        refine zl s rfl rfl TF.agg_3 fun i221 s => ?_
        refine zcall s rfl rfl TF.goes_21 ?_
        rintro _ h222 ⟨rfl, s⟩
        refine au 3 rfl ?_
        refine zl s rfl rfl TF.agg_3 fun i223 s => ?_
        refine zg rfl (sem_max .i64 (i223) (0) rfl rfl ?_)
        refine au 3 rfl ?_
        exact Run.of_fin (s.imp fun h' s => j82 _ _ ⟨a63, n64, c65, (if (0 : Int) > (i223) then (0 : Int) else (i223)), (i67), ⟨rfl, rfl, rfl, rfl, rfl, rfl, rfl, rfl, rfl, trivial⟩, s⟩)
       ·refine au 5 rfl ?_
        refine zt s rfl rfl rfl binI_eql_t binI_eql_f (fun s => ?_) fun s => ?_
        ·refine au 6 rfl ?_
         refine zg rfl (sem_buildSL [] [(.slice none 0 0)] TF.zero_72 TF.places_72 rfl rfl ?_)
         refine zbn s rfl rfl rfl fun k224 h225 s => ?_
         refine zcall s rfl rfl TF.goes_22 ?_
         rintro _ h226 ⟨i227, rfl, s⟩
         refine au 9 rfl ?_
         by_cases hb228 : ((i227 : Int) == (7)) = (decide ((i66 : Int) > (0)))
         ·replace s := s.1 hb228
          refine zg rfl (sem_boolEqT ((i227 : Int) == (7)) (decide ((i66 : Int) > (0))) (.inr rfl) false rfl rfl TF.bool_4 hb228 rfl ?_)
          refine au 2 rfl ?_
          refine zu s rfl rfl rfl binI_neq_t binI_neq_f (fun s => ?_) fun s => ?_
          ·refine au 11 rfl ?_
           refine zg rfl (sem_max .i64 (IntKind.wrap .i64 ((i66) - (1))) (0) rfl rfl ?_)
           refine au 3 rfl ?_
           exact Run.of_fin (s.imp fun h' s => j82 _ _ ⟨a63, n64, c65, (if (0 : Int) > (IntKind.wrap .i64 ((i66) - (1))) then (0 : Int) else (IntKind.wrap .i64 ((i66) - (1)))), (i67), ⟨rfl, rfl, rfl, rfl, rfl, rfl, rfl, rfl, rfl, trivial⟩, s⟩)
          ·refine au 2 rfl ?_
           refine zu s rfl rfl rfl binI_neq_t binI_neq_f (fun s => ?_) fun s => ?_
           ·refine au 8 rfl ?_
            refine zg rfl (sem_max .i64 (IntKind.wrap .i64 ((i66) - (1))) (0) rfl rfl ?_)
            refine au 3 rfl ?_
            exact Run.of_fin (s.imp fun h' s => j82 _ _ ⟨a63, n64, c65, (if (0 : Int) > (IntKind.wrap .i64 ((i66) - (1))) then (0 : Int) else (IntKind.wrap .i64 ((i66) - (1)))), (i67), ⟨rfl, rfl, rfl, rfl, rfl, rfl, rfl, rfl, rfl, trivial⟩, s⟩)
           ·refine au 8 rfl ?_
            exact zr (s.imp fun _ q => ⟨_, rfl, q⟩)
         ·replace s := s.2 hb228
          refine zg rfl (sem_boolEqF ((i227 : Int) == (7)) (decide ((i66 : Int) > (0))) (.inr rfl) true rfl rfl TF.bool_4 hb228 rfl ?_)
          refine au 14 rfl ?_
          exact zr (s.imp fun _ q => ⟨_, rfl, q⟩)
        ·refine au 5 rfl ?_
         refine zt s rfl rfl rfl binI_eql_t binI_eql_f (fun s => ?_) fun s => ?_
         ·refine au 6 rfl ?_
          refine zcall s rfl rfl TF.goes_23 ?_
          rintro _ h229 ⟨rfl, s⟩
          refine au 7 rfl ?_
          exact Run.of_fin (s.imp fun h' s => j82 _ _ ⟨a63, n64, c65, (i66), (IntKind.wrap .i64 ((i67) + (1))), ⟨rfl, rfl, rfl, rfl, rfl, rfl, rfl, rfl, rfl, trivial⟩, s⟩)
         ·refine au 5 rfl ?_
          exact Run.of_fin (s.imp fun h' s => j82 _ _ ⟨a63, n64, c65, (i66), (i67), ⟨rfl, rfl, rfl, rfl, rfl, rfl, rfl, rfl, rfl, trivial⟩, s⟩)
   ·refine au 4 rfl ?_
    exact Run.of_fin (s.imp fun h' s => j16 _ _ ⟨⟨rfl, trivial⟩, s⟩)
theorem C_countermandlaw21_alive.of {B : RO} {h : Heap} {Q : Bool → Heap → Prop} (s : S_countermandlaw21_alive B h Q) : C_countermandlaw21_alive B h Q := by
 refine zspec Try.func5 [ResultVar.tmp 0] rfl rfl rfl rfl rfl ?_
 refine au 6 rfl ?_
 refine zcall s rfl rfl TF.goes_6 ?_
 rintro _ h2 ⟨p3, rfl, s⟩
 refine zcall s rfl rfl TF.goes_9 ?_
 rintro _ h4 ⟨p5, i6, rfl, s⟩
 refine au 10 rfl ?_
 refine zu s rfl rfl rfl binI_neq_t binI_neq_f (fun s => ?_) fun s => ?_
 ·refine au 6 rfl ?_
  refine zg rfl (sem_buildSL [(0, (.int .i64 (1))), (1, (.int .i64 (5)))] [(.int .i64 (1)), (.int .i64 (5))] TF.zero_59 TF.places_59 rfl rfl ?_)
  refine zg rfl (sem_buildSliceL [(0, (.agg #[(.int .i64 (1)), (.int .i64 (5))]))] [(.int .i64 (1)), (.int .i64 (5))] TF.slc_116 TF.zero_59 rfl (by decide) (by decide) rfl rfl (fun k7 hb1 hb2 h8 hb3 => ?_))
  have s := s k7 hb1 hb2 h8 hb3
  refine zcall s rfl rfl TF.goes_18 ?_
  rintro _ h9 ⟨rfl, s⟩
  refine au 4 rfl ?_
  refine zcall s rfl rfl TF.goes_23 ?_
  rintro _ h10 ⟨rfl, s⟩
  refine au 4 rfl ?_
  refine zcall s rfl rfl TF.goes_14 ?_
  rintro _ h11 ⟨i12, i13, i14, i15, rfl, s⟩
  obtain ⟨hi0, hi1, i16, hix, s⟩ := s
  refine zg rfl (sem_indexArr #[(.int .i64 (i12)), (.int .i64 (i13)), (.int .i64 (i14)), (.int .i64 (i15))] (.int .i64 (i16)) .i64 (1) rfl rfl TF.arr_47 hi0 hi1 hix ?_)
  refine zt s rfl rfl rfl binI_eql_t binI_eql_f (fun s => ?_) fun s => ?_
  ·refine au 2 rfl ?_
   refine zcall s rfl rfl TF.goes_12 ?_
   rintro _ h17 ⟨i18, rfl, s⟩
   refine zt s rfl rfl rfl binI_eql_t binI_eql_f (fun s => ?_) fun s => ?_
   ·refine au 3 rfl ?_
    refine zcall s rfl rfl TF.goes_13 ?_
    rintro _ h19 ⟨p20, rfl, s⟩
    refine znil s rfl rfl fun A21 s => ?_
    refine au 1 rfl ?_
    refine zl s rfl rfl TF.agg_3 fun i23 s => ?_
    refine au 4 rfl ?_
    exact zr (s.imp fun _ q => ⟨_, rfl, q⟩)
   ·refine au 11 rfl ?_
    exact zr (s.imp fun _ q => ⟨_, rfl, q⟩)
  ·refine au 15 rfl ?_
   exact zr (s.imp fun _ q => ⟨_, rfl, q⟩)
 ·refine au 6 rfl ?_
  exact zr (s.imp fun _ q => ⟨_, rfl, q⟩)
theorem C_disk_New.of {B : RO} {h : Heap} {Q : Option Addr → Heap → Prop} (s : S_disk_New B h Q) : C_disk_New B h Q := by
 refine zspec Try.func6 [ResultVar.tmp 0] rfl rfl rfl rfl rfl ?_
 refine au 6 rfl ?_
 refine zg rfl (sem_buildSL [] [(.string ByteArray.empty), (.string ByteArray.empty), (.string ByteArray.empty), (.string ByteArray.empty), (.slice none 0 0)] TF.zero_85 TF.places_85 rfl rfl ?_)
 refine zbn s rfl rfl rfl fun k2 h3 s => ?_
 refine au 2 rfl ?_
 exact zr (s.imp fun _ q => ⟨_, rfl, q⟩)
theorem C_disk_Disk_Append.of {B : RO} {p1 : Option Addr} {i2 : Int} {s3 : ByteArray} {h : Heap} {Q : Int → Heap → Prop} (s : S_disk_Disk_Append B p1 i2 s3 h Q) : C_disk_Disk_Append B p1 i2 s3 h Q := by
 refine zspec Try.func7 [ResultVar.tmp 6] rfl rfl rfl rfl rfl ?_
 refine au 4 rfl ?_
 refine Run.seqJ (fun e h6 => Agree [(0, (.pointer p1)), (1, (.int .i64 (i2))), (2, (.string s3))] e ∧ S_disk_Disk_Append_J1 B p1 i2 s3 h6 Q) ?_ fun j5 => ?_
 ·rintro e h6 ⟨hag, s⟩
  refine Run.env hag ?_; clear hag
  refine au 1 rfl ?_
  refine Run.drawM (fun h' => h' = h6) [13] ⟨[0, 0, 1, 4, 10, 16, 32, 0, 192, 1, 512, 1535, 2559, 4607], [16383, 16383, 16382, 16379, 16373, 16367, 16351, 16383, 16191, 16382, 15871, 15357, 14335, 12031], [0, 0, 1, 5, 15, 31, 63, 0, 255, 1, 513, 2047, 4095, 8191], 8192⟩ (.q 0 (.q 1 (.q 2 (.q 3 (.q 4 (.q 5 (.q 6 (.q 7 (.q 8 (.q 9 (.q 10 (.q 11 (.q 12 (.x 13 .nil .no)))))))))))))) TF.mixed (by kernel_rfl) rfl ?_
  refine auT 2 rfl ?_
  obtain ⟨A7, e8, s⟩ := s
  refine zqe rfl (sem_nilCheck A7 (congrArg Value.pointer e8) ⟨rfl, rfl⟩) ?_
  refine auT 1 rfl ?_
  obtain ⟨hi0, hi1, s⟩ := s
  refine zqe rfl (sem_indexAddrA A7 .i64 (i2) rfl rfl TF.arr_82 hi0 hi1 ⟨rfl, rfl⟩) ?_
  refine auT 1 rfl ?_
  obtain ⟨s9, hl, s⟩ := s
  refine zqe rfl (sem_load1 (Addr.add A7 (Int.toNat (i2) * 2)) ((.string s9)) rfl TF.agg_9 hl ⟨rfl, rfl⟩) ?_
  refine auT 1 rfl ?_
  obtain ⟨hi0, s⟩ := s
  refine zqe rfl (sem_strAdd s9 s3 rfl rfl hi0 ⟨rfl, rfl⟩) ?_
  obtain ⟨A10, e11, s⟩ := s
  refine zqe rfl (sem_nilCheck A10 (congrArg Value.pointer e11) ⟨rfl, rfl⟩) ?_
  refine auT 1 rfl ?_
  obtain ⟨hi0, hi1, s⟩ := s
  refine zqe rfl (sem_indexAddrA A10 .i64 (i2) rfl rfl TF.arr_82 hi0 hi1 ⟨rfl, rfl⟩) ?_
  refine auT 1 rfl ?_
  obtain ⟨h12, hst, s⟩ := s
  refine ⟨zo0 rfl (sem_store1 (Addr.add A10 (Int.toNat (i2) * 2)) ((.string (s9 ++ s3))) h12 rfl rfl rfl TF.sz_9 hst ?_), trivial⟩
  refine ⟨fun hz => Bool.noConfusion hz, ?_⟩
  refine au 4 rfl ?_
  refine znil s rfl rfl fun A13 s => ?_
  refine au 1 rfl ?_
  refine Run.ldSl s fun a15 n16 c17 h18 hl s => ?_
  refine zg rfl (sem_load1 (Addr.add A13 4) ((.slice a15 n16 c17)) rfl TF.agg_83 hl ?_)
  refine au 2 rfl ?_
  refine zg rfl (sem_buildSL [(0, (.int .i64 (i2))), (2, (.string s3))] [(.int .i64 (i2)), (.bool false), (.string s3)] TF.zero_87 TF.places_87 rfl rfl ?_)
  refine zg rfl (sem_buildSliceL [(0, (.agg #[(.int .i64 (i2)), (.bool false), (.string s3)]))] [(.int .i64 (i2)), (.bool false), (.string s3)] TF.slc_83 TF.zero_87 rfl (by decide) (by decide) rfl rfl (fun k19 hb1 hb2 h20 hb3 => ?_))
  have s := s k19 hb1 hb2 h20 hb3
  refine zg rfl (sem_appendL [(.slice a15 n16 c17), (.slice (some ⟨k19, 0, none⟩) 1 1)] rfl (semH_mono (fun v h21 hv => ?_) s))
  obtain ⟨a22, n23, c24, rfl, s⟩ := hv
  refine znil s rfl rfl fun A25 s => ?_
  refine au 1 rfl ?_
  refine zs1 s rfl rfl rfl rfl TF.sz_83 fun h27 s => ?_
  refine au 5 rfl ?_
  exact zr (s.imp fun _ q => ⟨_, rfl, q⟩)
 refine au 4 rfl ?_
 by_cases hb28 : p1 = none
 ·replace s := s.1 hb28
  refine zg rfl (sem_ptrNilT p1 (.inl rfl) true rfl rfl TF.ptr_23 hb28 rfl ?_)
  refine au 7 rfl ?_
  exact zr (s.imp fun _ q => ⟨_, rfl, q⟩)
 ·replace s := s.2 hb28
  refine zg rfl (sem_ptrNilF p1 (.inl rfl) false rfl rfl TF.ptr_23 hb28 rfl ?_)
  refine au 6 rfl ?_
  refine zcall s rfl rfl TF.goes_29 ?_
  rintro _ h29 ⟨b30, rfl, s⟩
  cases b30
  ·replace s := s.2 rfl
   refine au 8 rfl ?_
   exact zr (s.imp fun _ q => ⟨_, rfl, q⟩)
  ·replace s := s.1 rfl
   refine au 7 rfl ?_
   refine zg rfl (sem_lenStr s3 rfl TF.isStr_9 ?_)
   refine au 2 rfl ?_
   refine znil s rfl rfl fun A31 s => ?_
   refine au 1 rfl ?_
   obtain ⟨hi0, hi1, s⟩ := s
   refine zg rfl (sem_indexAddrA A31 .i64 (i2) rfl rfl TF.arr_82 hi0 hi1 ?_)
   refine au 1 rfl ?_
   refine zl s rfl rfl TF.agg_9 fun s33 s => ?_
   refine zg rfl (sem_lenStr s33 rfl TF.isStr_9 ?_)
   refine au 1 rfl ?_
   refine zt s rfl rfl rfl binI_gtr_t binI_gtr_f (fun s => ?_) fun s => ?_
   ·refine au 7 rfl ?_
    exact zr (s.imp fun _ q => ⟨_, rfl, q⟩)
   ·refine au 5 rfl ?_
    exact Run.of_fin (s.imp fun h' s => j5 _ _ ⟨⟨rfl, rfl, rfl, trivial⟩, s⟩)
theorem C_world_Open.of {B : RO} {p1 : Option Addr} {h : Heap} {Q : Option Addr → Int → Heap → Prop} (s : S_world_Open B p1 h Q) : C_world_Open B p1 h Q := by
 refine zspec Try.func9 [ResultVar.tmp 2, ResultVar.tmp 3] rfl rfl rfl rfl rfl ?_
 refine au 8 rfl ?_
 refine zcall s rfl rfl TF.goes_34 ?_
 rintro _ h4 ⟨p5, s6, a7, n8, c9, i10, rfl, s⟩
 refine au 4 rfl ?_
 refine zal s rfl TF.zero_99 rfl fun k11 h12 s => ?_
 refine au 1 rfl ?_
 refine zsn s rfl rfl rfl TF.sz_99 rfl fun h13 s => ?_
 refine au 6 rfl ?_
 refine zu s rfl rfl rfl binI_neq_t binI_neq_f (fun s => ?_) fun s => ?_
 ·refine au 6 rfl ?_
  refine zl s rfl rfl TF.agg_9 fun s14 s => ?_
  refine zcall s rfl rfl TF.goes_35 ?_
  rintro _ h15 ⟨i16, p17, b18, rfl, s⟩
  refine au 3 rfl ?_
  cases b18
  ·replace s := s.2 rfl
   refine au 1 rfl ?_
   refine au 16 rfl ?_
   exact zr (s.imp fun _ q => ⟨_, _, rfl, q⟩)
  ·replace s := s.1 rfl
   refine au 1 rfl ?_
   refine au 16 rfl ?_
   refine Run.ldSl s fun a19 n20 c21 h22 hl s => ?_
   refine zg rfl (sem_load1 ⟨k11, 1, none⟩ ((.slice a19 n20 c21)) rfl TF.agg_35 hl ?_)
   refine zcall s rfl rfl TF.goes_36 ?_
   rintro _ h23 ⟨i24, i25, rfl, s⟩
   refine au 11 rfl ?_
   refine Run.ldSl s fun a26 n27 c28 h29 hl s => ?_
   refine zg rfl (sem_load1 ⟨k11, 1, none⟩ ((.slice a26 n27 c28)) rfl TF.agg_35 hl ?_)
   refine zg rfl (sem_lenSl a26 n27 c28 rfl TF.sl_35 ?_)
   refine zt s rfl rfl rfl binI_lss_t binI_lss_f (fun s => ?_) fun s => ?_
   ·refine au 7 rfl ?_
    exact zr (s.imp fun _ q => ⟨_, _, rfl, q⟩)
   ·refine au 7 rfl ?_
    refine zg rfl (sem_max .i64 (i16) (i24) rfl rfl ?_)
    refine au 8 rfl ?_
    refine zcall s rfl rfl TF.goes_38 ?_
    rintro _ h30 ⟨s31, rfl, s⟩
    refine zcall s rfl rfl TF.goes_37 ?_
    rintro _ h32 ⟨i33, rfl, s⟩
    refine au 5 rfl ?_
    refine zu s rfl rfl rfl binI_neq_t binI_neq_f (fun s => ?_) fun s => ?_
    ·refine au 5 rfl ?_
     refine zcall s rfl rfl TF.goes_39 ?_
     rintro _ h34 ⟨p35, rfl, s⟩
     refine zcall s rfl rfl TF.goes_40 ?_
     rintro _ h36 ⟨p37, rfl, s⟩
     refine zcall s rfl rfl TF.goes_41 ?_
     rintro _ h38 ⟨p39, rfl, s⟩
     refine au 3 rfl ?_
     refine zg rfl (sem_buildSL [(0, (.pointer p35)), (1, (.pointer p37)), (2, (.pointer p39)), (3, (.pointer p1)), (4, (.pointer p5)), (7, (.int .i64 (if (i24 : Int) > (i16) then (i24 : Int) else (i16))))] [(.pointer p35), (.pointer p37), (.pointer p39), (.pointer p1), (.pointer p5), (.int .i64 (0)), (.int .i64 (0)), (.int .i64 (0)), (.int .i64 (0)), (.slice none 0 0), (.int .i64 (if (i24 : Int) > (i16) then (i24 : Int) else (i16))), (.int .i64 (0))] TF.zero_109 TF.places_109 rfl rfl ?_)
     refine zbn s rfl rfl rfl fun k40 h41 s => ?_
     refine au 7 rfl ?_
     refine zl s rfl rfl TF.agg_45 fun p42 s => ?_
     refine au 1 rfl ?_
     refine znil s rfl rfl fun A43 s => ?_
     refine au 1 rfl ?_
     refine zs1 s rfl rfl rfl rfl TF.sz_41 fun h45 s => ?_
     refine au 7 rfl ?_
     exact zr (s.imp fun _ q => ⟨_, _, rfl, q⟩)
    ·refine au 8 rfl ?_
     exact zr (s.imp fun _ q => ⟨_, _, rfl, q⟩)
 ·refine au 8 rfl ?_
  exact zr (s.imp fun _ q => ⟨_, _, rfl, q⟩)
theorem C_world_World_Blocks.of {B : RO} {p1 : Option Addr} {h : Heap} {Q : Int → Heap → Prop} (s : S_world_World_Blocks B p1 h Q) : C_world_World_Blocks B p1 h Q := by
 refine zspec Try.func12 [ResultVar.tmp 2] rfl rfl rfl rfl rfl ?_
 refine au 8 rfl ?_
 by_cases hb3 : p1 = none
 ·replace s := s.1 hb3
  refine zg rfl (sem_ptrNilT p1 (.inl rfl) true rfl rfl TF.ptr_32 hb3 rfl ?_)
  refine au 6 rfl ?_
  exact zr (s.imp fun _ q => ⟨_, rfl, q⟩)
 ·replace s := s.2 hb3
  refine zg rfl (sem_ptrNilF p1 (.inl rfl) false rfl rfl TF.ptr_32 hb3 rfl ?_)
  refine au 6 rfl ?_
  refine znil s rfl rfl fun A4 s => ?_
  refine au 1 rfl ?_
  refine zl s rfl rfl TF.agg_3 fun i6 s => ?_
  refine au 2 rfl ?_
  exact zr (s.imp fun _ q => ⟨_, rfl, q⟩)
theorem C_world_World_View.of {B : RO} {p1 : Option Addr} {h : Heap} {Q : Option Addr → Heap → Prop} (s : S_world_World_View B p1 h Q) : C_world_World_View B p1 h Q := by
 refine zspec Try.func13 [ResultVar.tmp 2] rfl rfl rfl rfl rfl ?_
 refine au 8 rfl ?_
 by_cases hb3 : p1 = none
 ·replace s := s.1 hb3
  refine zg rfl (sem_ptrNilT p1 (.inl rfl) true rfl rfl TF.ptr_32 hb3 rfl ?_)
  refine au 6 rfl ?_
  exact zr (s.imp fun _ q => ⟨_, rfl, q⟩)
 ·replace s := s.2 hb3
  refine zg rfl (sem_ptrNilF p1 (.inl rfl) false rfl rfl TF.ptr_32 hb3 rfl ?_)
  refine au 6 rfl ?_
  refine znil s rfl rfl fun A4 s => ?_
  refine au 1 rfl ?_
  refine zl s rfl rfl TF.agg_45 fun p6 s => ?_
  refine au 2 rfl ?_
  exact zr (s.imp fun _ q => ⟨_, rfl, q⟩)
theorem C_world_World_Tallies.of {B : RO} {p1 : Option Addr} {h : Heap} {Q : Int → Int → Int → Int → Heap → Prop} (s : S_world_World_Tallies B p1 h Q) : C_world_World_Tallies B p1 h Q := by
 refine zspec Try.func14 [ResultVar.cell 2 47] rfl rfl rfl rfl rfl ?_
 refine au 2 rfl ?_
 refine zal s rfl TF.zero_47 rfl fun k6 h7 s => ?_
 refine au 5 rfl ?_
 by_cases hb8 : p1 = none
 ·replace s := s.1 hb8
  refine zg rfl (sem_ptrNilT p1 (.inl rfl) true rfl rfl TF.ptr_32 hb8 rfl ?_)
  refine au 4 rfl ?_
  refine zg rfl (sem_buildAL [] [(.int .i64 (0)), (.int .i64 (0)), (.int .i64 (0)), (.int .i64 (0))] TF.zero_47 TF.arr_47 rfl rfl ?_)
  refine zsn s rfl rfl rfl TF.sz_47 rfl fun h9 s => ?_
  refine au 1 rfl ?_
  obtain ⟨i10, i11, i12, i13, hl0, s⟩ := s
  exact zr (⟨⟨k6, 0, none⟩, (.agg #[(.int .i64 (i10)), (.int .i64 (i11)), (.int .i64 (i12)), (.int .i64 (i13))]), rfl, loadHN TF.agg_47 TF.sz_47 hl0, s.imp fun _ q => ⟨_, _, _, _, rfl, q⟩⟩)
 ·replace s := s.2 hb8
  refine zg rfl (sem_ptrNilF p1 (.inl rfl) false rfl rfl TF.ptr_32 hb8 rfl ?_)
  refine au 6 rfl ?_
  refine znil s rfl rfl fun A14 s => ?_
  refine au 1 rfl ?_
  obtain ⟨i16, i17, i18, i19, hl, s⟩ := s
  refine zn hl rfl rfl TF.agg_47 TF.sz_47 rfl ?_
  refine zsn s rfl rfl rfl TF.sz_47 rfl fun h20 s => ?_
  refine au 1 rfl ?_
  obtain ⟨i21, i22, i23, i24, hl0, s⟩ := s
  exact zr (⟨⟨k6, 0, none⟩, (.agg #[(.int .i64 (i21)), (.int .i64 (i22)), (.int .i64 (i23)), (.int .i64 (i24))]), rfl, loadHN TF.agg_47 TF.sz_47 hl0, s.imp fun _ q => ⟨_, _, _, _, rfl, q⟩⟩)
theorem C_world_World_Notes.of {B : RO} {p1 : Option Addr} {h : Heap} {Q : Option Addr → Nat → Nat → Heap → Prop} (s : S_world_World_Notes B p1 h Q) : C_world_World_Notes B p1 h Q := by
 refine zspec Try.func15 [ResultVar.tmp 2] rfl rfl rfl rfl rfl ?_
 refine au 8 rfl ?_
 by_cases hb5 : p1 = none
 ·replace s := s.1 hb5
  refine zg rfl (sem_ptrNilT p1 (.inl rfl) true rfl rfl TF.ptr_32 hb5 rfl ?_)
  refine au 6 rfl ?_
  exact zr (s.imp fun _ q => ⟨_, _, _, rfl, q⟩)
 ·replace s := s.2 hb5
  refine zg rfl (sem_ptrNilF p1 (.inl rfl) false rfl rfl TF.ptr_32 hb5 rfl ?_)
  refine au 6 rfl ?_
  refine znil s rfl rfl fun A6 s => ?_
  refine au 1 rfl ?_
  refine Run.ldSl s fun a8 n9 c10 h11 hl s => ?_
  refine zg rfl (sem_load1 (Addr.add A6 9) ((.slice a8 n9 c10)) rfl TF.agg_49 hl ?_)
  refine zcall s rfl rfl TF.goes_44 ?_
  rintro _ h12 ⟨a13, n14, c15, rfl, s⟩
  refine au 2 rfl ?_
  exact zr (s.imp fun _ q => ⟨_, _, _, rfl, q⟩)
theorem C_world_World_Disk.of {B : RO} {p1 : Option Addr} {h : Heap} {Q : Option Addr → Heap → Prop} (s : S_world_World_Disk B p1 h Q) : C_world_World_Disk B p1 h Q := by
 refine zspec Try.func16 [ResultVar.tmp 2] rfl rfl rfl rfl rfl ?_
 refine au 8 rfl ?_
 by_cases hb3 : p1 = none
 ·replace s := s.1 hb3
  refine zg rfl (sem_ptrNilT p1 (.inl rfl) true rfl rfl TF.ptr_32 hb3 rfl ?_)
  refine au 6 rfl ?_
  exact zr (s.imp fun _ q => ⟨_, rfl, q⟩)
 ·replace s := s.2 hb3
  refine zg rfl (sem_ptrNilF p1 (.inl rfl) false rfl rfl TF.ptr_32 hb3 rfl ?_)
  refine au 6 rfl ?_
  refine znil s rfl rfl fun A4 s => ?_
  refine au 1 rfl ?_
  refine zl s rfl rfl TF.agg_23 fun p6 s => ?_
  refine au 2 rfl ?_
  exact zr (s.imp fun _ q => ⟨_, rfl, q⟩)
theorem C_world_World_Add.of {B : RO} {p1 : Option Addr} {a2 : Option Addr} {n3 : Nat} {c4 : Nat} {h : Heap} {Q : Heap → Prop} (s : S_world_World_Add B p1 a2 n3 c4 h Q) : C_world_World_Add B p1 a2 n3 c4 h Q := by
 refine zspec Try.func18 [] rfl rfl rfl rfl rfl ?_
 refine au 4 rfl ?_
 by_cases hb5 : p1 = none
 ·replace s := s.1 hb5
  refine zg rfl (sem_ptrNilT p1 (.inl rfl) true rfl rfl TF.ptr_32 hb5 rfl ?_)
  refine au 2 rfl ?_
  exact zr (s.imp fun _ q => ⟨rfl, q⟩)
 ·replace s := s.2 hb5
  refine zg rfl (sem_ptrNilF p1 (.inl rfl) false rfl rfl TF.ptr_32 hb5 rfl ?_)
  refine au 6 rfl ?_
  refine zg rfl (sem_lenSl a2 n3 c4 rfl TF.sl_116 ?_)
  refine au 3 rfl ?_
  obtain ⟨J11, m9, h0, s⟩ := s
  refine Run.of_fin (h0.imp fun h' h0 => ?_)
  refine Run.loop (σ := Int × Nat) (fun x e h => J11 x.1 x.2 h ∧ Agree [(0, (.pointer p1)), (8, (.slice a2 n3 c4)), (9, (.int .i64 ((n3 : Nat)))), (10, (.int .i64 (x.1)))] e) (fun x => x.2) ((0), m9) ⟨h0, ⟨rfl, rfl, rfl, rfl, trivial⟩⟩ ?_; clear h0
  rintro ⟨i6, m8⟩ e h7 ⟨hJ, hag⟩ ih10
  have s := s i6 m8 h7 hJ; clear hJ
  refine Run.env hag ?_; clear hag
  refine au 2 rfl ?_
  refine zt s rfl rfl rfl binI_lss_t binI_lss_f (fun s => ?_) fun s => ?_
  ·refine au 8 rfl ?_
   obtain ⟨A12, e13, hi0, hi1, s⟩ := s
   refine zg rfl (sem_indexAddrS A12 n3 c4 .i64 (i6) (congrArg (fun a => Value.slice a n3 c4) e13) rfl TF.slc_116 hi0 hi1 ?_)
   obtain ⟨i14, i15, hl, s⟩ := s
   refine zn hl rfl rfl TF.agg_59 TF.sz_59 rfl ?_
   refine zal s rfl TF.zero_59 rfl fun k16 h17 s => ?_
   refine zsn s rfl rfl rfl TF.sz_59 rfl fun h18 s => ?_
   refine au 1 rfl ?_
   refine Run.seqJ (fun e h21 => ∃ b20 : Bool, Agree [(0, (.pointer p1)), (5, (.pointer (some ⟨k16, 0, none⟩))), (8, (.slice a2 n3 c4)), (9, (.int .i64 ((n3 : Nat)))), (10, (.int .i64 (i6))), (21, (.bool b20))] e ∧ S_world_World_Add_J1 B p1 a2 n3 c4 i6 m8 J11 k16 b20 h21 Q) ?_ fun j19 => ?_
   ·rintro e h21 ⟨b20, hag, s⟩
    refine Run.env hag ?_; clear hag
    cases b20
    ·replace s := s.2 rfl
     refine au 7 rfl ?_
     exact Run.of_fin (s.imp fun h' ⟨m', hm, s⟩ => ih10 ((IntKind.wrap .i64 ((i6) + (1))), m') _ _ ⟨s, ⟨rfl, rfl, rfl, rfl, trivial⟩⟩ hm)
    ·replace s := s.1 rfl
     refine au 1 rfl ?_
     refine Run.drawM (fun h' => h' = h21) [13] ⟨[0, 0, 2, 1, 8, 20, 32, 0, 128, 320, 1, 1024, 3071, 5119], [16383, 16383, 16381, 16382, 16375, 16363, 16351, 16383, 16255, 16063, 16382, 15359, 14331, 11775], [0, 0, 2, 1, 9, 31, 63, 0, 128, 511, 1, 1025, 4095, 8191], 8192⟩ (.q 0 (.q 1 (.q 2 (.q 3 (.q 4 (.q 5 (.q 6 (.q 7 (.q 8 (.q 9 (.q 10 (.q 11 (.q 12 (.x 13 .nil .no)))))))))))))) TF.mixed (by kernel_rfl) rfl ?_
     refine auT 2 rfl ?_
     obtain ⟨i22, hl, s⟩ := s
     refine zqe rfl (sem_load1 ⟨k16, 0, none⟩ ((.int .i64 (i22))) rfl TF.agg_3 hl ⟨rfl, rfl⟩) ?_
     obtain ⟨A23, e24, s⟩ := s
     refine zqe rfl (sem_nilCheck A23 (congrArg Value.pointer e24) ⟨rfl, rfl⟩) ?_
     refine auT 1 rfl ?_
     obtain ⟨hi0, hi1, s⟩ := s
     refine zqe rfl (sem_indexAddrA (Addr.add A23 5) .i64 (i22) rfl rfl TF.arr_47 hi0 hi1 ⟨rfl, rfl⟩) ?_
     obtain ⟨i25, hl, s⟩ := s
     refine zqe rfl (sem_load1 (Addr.add (Addr.add A23 5) (Int.toNat (i22) * 1)) ((.int .i64 (i25))) rfl TF.agg_3 hl ⟨rfl, rfl⟩) ?_
     refine auT 1 rfl ?_
     obtain ⟨i26, hl, s⟩ := s
     refine zqe rfl (sem_load1 ⟨k16, 1, none⟩ ((.int .i64 (i26))) rfl TF.agg_3 hl ⟨rfl, rfl⟩) ?_
     refine auT 1 rfl ?_
     obtain ⟨A27, e28, s⟩ := s
     refine zqe rfl (sem_nilCheck A27 (congrArg Value.pointer e28) ⟨rfl, rfl⟩) ?_
     refine auT 1 rfl ?_
     obtain ⟨hi0, hi1, s⟩ := s
     refine zqe rfl (sem_indexAddrA (Addr.add A27 5) .i64 (i22) rfl rfl TF.arr_47 hi0 hi1 ⟨rfl, rfl⟩) ?_
     obtain ⟨h29, hst, s⟩ := s
     refine ⟨zo0 rfl (sem_store1 (Addr.add (Addr.add A27 5) (Int.toNat (i22) * 1)) ((.int .i64 (IntKind.wrap .i64 ((i25) + (i26))))) h29 rfl rfl rfl TF.sz_3 hst ?_), trivial⟩
     refine ⟨fun hz => Bool.noConfusion hz, ?_⟩
     refine au 5 rfl ?_
     exact Run.of_fin (s.imp fun h' ⟨m', hm, s⟩ => ih10 ((IntKind.wrap .i64 ((i6) + (1))), m') _ _ ⟨s, ⟨rfl, rfl, rfl, rfl, trivial⟩⟩ hm)
   refine au 2 rfl ?_
   refine zl s rfl rfl TF.agg_3 fun i30 s => ?_
   refine zt s rfl rfl rfl binI_geq_t binI_geq_f (fun s => ?_) fun s => ?_
   ·refine au 2 rfl ?_
    refine zl s rfl rfl TF.agg_3 fun i31 s => ?_
    refine zt s rfl rfl rfl binI_lss_t binI_lss_f (fun s => ?_) fun s => ?_
    ·refine au 2 rfl ?_
     exact Run.of_fin (s.imp fun h' s => j19 _ _ ⟨(true), ⟨rfl, rfl, rfl, rfl, rfl, rfl, trivial⟩, s⟩)
    ·refine au 2 rfl ?_
     exact Run.of_fin (s.imp fun h' s => j19 _ _ ⟨(false), ⟨rfl, rfl, rfl, rfl, rfl, rfl, trivial⟩, s⟩)
   ·refine au 6 rfl ?_
    exact Run.of_fin (s.imp fun h' s => j19 _ _ ⟨(false), ⟨rfl, rfl, rfl, rfl, rfl, rfl, trivial⟩, s⟩)
  ·refine au 4 rfl ?_
   exact zf (s.imp fun _ q => ⟨rfl, q⟩)
theorem C_world_World_Send.of {B : RO} {p1 : Option Addr} {a2 : Option Addr} {n3 : Nat} {c4 : Nat} {h : Heap} {Q : Heap → Prop} (s : S_world_World_Send B p1 a2 n3 c4 h Q) : C_world_World_Send B p1 a2 n3 c4 h Q := by
 refine zspec Try.func19 [] rfl rfl rfl rfl rfl ?_
 refine au 4 rfl ?_
 by_cases hb5 : p1 = none
 ·replace s := s.1 hb5
  refine zg rfl (sem_ptrNilT p1 (.inl rfl) true rfl rfl TF.ptr_32 hb5 rfl ?_)
  refine au 2 rfl ?_
  exact zr (s.imp fun _ q => ⟨rfl, q⟩)
 ·replace s := s.2 hb5
  refine zg rfl (sem_ptrNilF p1 (.inl rfl) false rfl rfl TF.ptr_32 hb5 rfl ?_)
  refine au 6 rfl ?_
  refine zg rfl (sem_lenSl a2 n3 c4 rfl TF.sl_117 ?_)
  refine au 3 rfl ?_
  obtain ⟨J11, m9, h0, s⟩ := s
  refine Run.of_fin (h0.imp fun h' h0 => ?_)
  refine Run.loop (σ := Int × Nat) (fun x e h => J11 x.1 x.2 h ∧ Agree [(0, (.pointer p1)), (8, (.slice a2 n3 c4)), (9, (.int .i64 ((n3 : Nat)))), (10, (.int .i64 (x.1)))] e) (fun x => x.2) ((0), m9) ⟨h0, ⟨rfl, rfl, rfl, rfl, trivial⟩⟩ ?_; clear h0
  rintro ⟨i6, m8⟩ e h7 ⟨hJ, hag⟩ ih10
  have s := s i6 m8 h7 hJ; clear hJ
  refine Run.env hag ?_; clear hag
  refine au 2 rfl ?_
  refine zt s rfl rfl rfl binI_lss_t binI_lss_f (fun s => ?_) fun s => ?_
  ·refine au 8 rfl ?_
   obtain ⟨A12, e13, hi0, hi1, s⟩ := s
   refine zg rfl (sem_indexAddrS A12 n3 c4 .i64 (i6) (congrArg (fun a => Value.slice a n3 c4) e13) rfl TF.slc_117 hi0 hi1 ?_)
   obtain ⟨i14, i15, hl, s⟩ := s
   refine zn hl rfl rfl TF.agg_62 TF.sz_62 rfl ?_
   refine zal s rfl TF.zero_62 rfl fun k16 h17 s => ?_
   refine zsn s rfl rfl rfl TF.sz_62 rfl fun h18 s => ?_
   refine au 1 rfl ?_
   obtain ⟨A20, e21, s⟩ := s
   obtain ⟨p24, hl, s⟩ := s
   have f25 := hl
   obtain ⟨i27, hl, s⟩ := s
   have f28 := hl
   obtain ⟨i30, hl, s⟩ := s
   have f31 := hl
   refine Run.drawM (fun h' => cellH B h' (Addr.add A20 1) = some (.pointer p24) ∧ cellH B h' ⟨k16, 0, none⟩ = some (.int .i64 (i27)) ∧ cellH B h' ⟨k16, 1, none⟩ = some (.int .u8 (i30)) ∧ True) [10] ⟨[0, 1, 2, 4, 0, 16, 0, 64, 128, 256, 552], [2047, 2046, 2045, 2043, 2047, 2031, 2047, 1983, 1919, 1791, 1495], [0, 1, 3, 7, 0, 16, 0, 64, 192, 448, 1023], 1024⟩ (.q 0 (.q 1 (.q 2 (.q 3 (.q 4 (.q 5 (.q 6 (.q 7 (.x 8 (.x 9 (.x 10 .nil .no) .no) .no))))))))) TF.mixed (by kernel_rfl) ⟨f25, f28, f31, trivial⟩ ?_
   refine auT 1 rfl ?_
   refine zq rfl (fun _ hC => sem_nilCheck A20 (congrArg Value.pointer e21) ⟨rfl, rfl⟩) ?_
   refine auT 1 rfl ?_
   refine zq rfl (fun _ hC => sem_load1 (Addr.add A20 1) ((.pointer p24)) rfl TF.agg_73 hC.1 ⟨rfl, rfl⟩) ?_
   refine auT 1 rfl ?_
   refine zq rfl (fun _ hC => sem_load1 ⟨k16, 0, none⟩ ((.int .i64 (i27))) rfl TF.agg_3 hC.2.1 ⟨rfl, rfl⟩) ?_
   refine auT 1 rfl ?_
   refine zq rfl (fun _ hC => sem_load1 ⟨k16, 1, none⟩ ((.int .u8 (i30))) rfl TF.agg_5 hC.2.2.1 ⟨rfl, rfl⟩) ?_
   refine ⟨zo rfl (sem_buildSliceL [(0, (.int .u8 (i30)))] [(.int .u8 (i30))] TF.slc_63 TF.zero_5 rfl (by decide) (by decide) rfl rfl (fun k32 hb1 hb2 h33 hb3 => ?_)), trivial⟩
   have s := s k32 hb1 hb2 h33 hb3
   obtain ⟨g34, g35, g36, s⟩ := s
   refine ⟨fun _ => ⟨g34, g35, g36, trivial⟩, ?_⟩
   refine ⟨zo rfl (sem_convW ((.slice (some ⟨k32, 0, none⟩) 1 1)) rfl (semH_mono (fun v h38 hv => ?_) s)), trivial⟩
   obtain ⟨s37, rfl, s⟩ := hv
   obtain ⟨g39, g40, g41, s⟩ := s
   refine ⟨fun _ => ⟨g39, g40, g41, trivial⟩, ?_⟩
   refine ⟨zo rfl (sem_callL [(.pointer p24), (.int .i64 (i27)), (.string s37)] (TF.goes_46) rfl rfl (Spec.mono s fun v h42 hv => ?_)), trivial⟩
   obtain ⟨b43, rfl, s⟩ := hv
   refine ⟨fun hz => Bool.noConfusion hz, ?_⟩
   refine au 5 rfl ?_
   exact Run.of_fin (s.imp fun h' ⟨m', hm, s⟩ => ih10 ((IntKind.wrap .i64 ((i6) + (1))), m') _ _ ⟨s, ⟨rfl, rfl, rfl, rfl, trivial⟩⟩ hm)
  ·refine au 4 rfl ?_
   exact zf (s.imp fun _ q => ⟨rfl, q⟩)
theorem C_world_World_Tell.of {B : RO} {p1 : Option Addr} {i2 : Int} {a3 : Option Addr} {n4 : Nat} {c5 : Nat} {h : Heap} {Q : Heap → Prop} (s : S_world_World_Tell B p1 i2 a3 n4 c5 h Q) : C_world_World_Tell B p1 i2 a3 n4 c5 h Q := by
 refine zspec Try.func20 [] rfl rfl rfl rfl rfl ?_
 refine au 4 rfl ?_
 by_cases hb6 : p1 = none
 ·replace s := s.1 hb6
  refine zg rfl (sem_ptrNilT p1 (.inl rfl) true rfl rfl TF.ptr_32 hb6 rfl ?_)
  refine au 2 rfl ?_
  exact zr (s.imp fun _ q => ⟨rfl, q⟩)
 ·replace s := s.2 hb6
  refine zg rfl (sem_ptrNilF p1 (.inl rfl) false rfl rfl TF.ptr_32 hb6 rfl ?_)
  refine au 6 rfl ?_
  refine zg rfl (sem_lenSl a3 n4 c5 rfl TF.sl_119 ?_)
  refine au 3 rfl ?_
  obtain ⟨J12, m10, h0, s⟩ := s
  refine Run.of_fin (h0.imp fun h' h0 => ?_)
  refine Run.loop (σ := Int × Nat) (fun x e h => J12 x.1 x.2 h ∧ Agree [(0, (.pointer p1)), (1, (.int .i64 (i2))), (10, (.slice a3 n4 c5)), (11, (.int .i64 ((n4 : Nat)))), (12, (.int .i64 (x.1)))] e) (fun x => x.2) ((0), m10) ⟨h0, ⟨rfl, rfl, rfl, rfl, rfl, trivial⟩⟩ ?_; clear h0
  rintro ⟨i7, m9⟩ e h8 ⟨hJ, hag⟩ ih11
  have s := s i7 m9 h8 hJ; clear hJ
  refine Run.env hag ?_; clear hag
  refine au 2 rfl ?_
  refine zt s rfl rfl rfl binI_lss_t binI_lss_f (fun s => ?_) fun s => ?_
  ·refine au 8 rfl ?_
   obtain ⟨A13, e14, hi0, hi1, s⟩ := s
   refine zg rfl (sem_indexAddrS A13 n4 c5 .i64 (i7) (congrArg (fun a => Value.slice a n4 c5) e14) rfl TF.slc_119 hi0 hi1 ?_)
   refine zl s rfl rfl TF.agg_3 fun i15 s => ?_
   refine au 5 rfl ?_
   refine znil s rfl rfl fun A16 s => ?_
   refine au 1 rfl ?_
   refine Run.ldSl s fun a18 n19 c20 h21 hl s => ?_
   refine zg rfl (sem_load1 (Addr.add A16 9) ((.slice a18 n19 c20)) rfl TF.agg_49 hl ?_)
   refine au 2 rfl ?_
   refine zg rfl (sem_buildSL [(0, (.int .i64 (i2))), (1, (.int .i64 (i15)))] [(.int .i64 (i2)), (.int .i64 (i15))] TF.zero_66 TF.places_66 rfl rfl ?_)
   refine zg rfl (sem_buildSliceL [(0, (.agg #[(.int .i64 (i2)), (.int .i64 (i15))]))] [(.int .i64 (i2)), (.int .i64 (i15))] TF.slc_49 TF.zero_66 rfl (by decide) (by decide) rfl rfl (fun k22 hb1 hb2 h23 hb3 => ?_))
   have s := s k22 hb1 hb2 h23 hb3
   refine zg rfl (sem_appendL [(.slice a18 n19 c20), (.slice (some ⟨k22, 0, none⟩) 1 1)] rfl (semH_mono (fun v h24 hv => ?_) s))
   obtain ⟨a25, n26, c27, rfl, s⟩ := hv
   refine znil s rfl rfl fun A28 s => ?_
   refine au 1 rfl ?_
   refine zs1 s rfl rfl rfl rfl TF.sz_49 fun h30 s => ?_
   refine au 6 rfl ?_
   exact Run.of_fin (s.imp fun h' ⟨m', hm, s⟩ => ih11 ((IntKind.wrap .i64 ((i7) + (1))), m') _ _ ⟨s, ⟨rfl, rfl, rfl, rfl, rfl, trivial⟩⟩ hm)
  ·refine au 4 rfl ?_
   exact zf (s.imp fun _ q => ⟨rfl, q⟩)
theorem C_world_World_Fail.of {B : RO} {p1 : Option Addr} {i2 : Int} {h : Heap} {Q : Heap → Prop} (s : S_world_World_Fail B p1 i2 h Q) : C_world_World_Fail B p1 i2 h Q := by
 refine zspec Try.func21 [] rfl rfl rfl rfl rfl ?_
 refine au 3 rfl ?_
 by_cases hb3 : p1 = none
 ·replace s := s.1 hb3
  refine zg rfl (sem_ptrNilT p1 (.inr rfl) false rfl rfl TF.ptr_32 hb3 rfl ?_)
  refine au 3 rfl ?_
  exact zf (s.imp fun _ q => ⟨rfl, q⟩)
 ·replace s := s.2 hb3
  refine zg rfl (sem_ptrNilF p1 (.inr rfl) true rfl rfl TF.ptr_32 hb3 rfl ?_)
  refine au 5 rfl ?_
  refine zg rfl (sem_max .i64 (i2) (0) rfl rfl ?_)
  refine znil s rfl rfl fun A4 s => ?_
  refine au 1 rfl ?_
  refine zs1 s rfl rfl rfl rfl TF.sz_3 fun h6 s => ?_
  refine au 1 rfl ?_
  exact zf (s.imp fun _ q => ⟨rfl, q⟩)
theorem C_world_World_Write.of {B : RO} {p1 : Option Addr} {p2 : Option Addr} {h : Heap} {Q : Int → Heap → Prop} (s : S_world_World_Write B p1 p2 h Q) : C_world_World_Write B p1 p2 h Q := by
 refine zspec Try.func22 [ResultVar.tmp 4] rfl rfl rfl rfl rfl ?_
 refine au 8 rfl ?_
 by_cases hb4 : p1 = none
 ·replace s := s.1 hb4
  refine zg rfl (sem_ptrNilT p1 (.inl rfl) true rfl rfl TF.ptr_32 hb4 rfl ?_)
  refine au 6 rfl ?_
  exact zr (s.imp fun _ q => ⟨_, rfl, q⟩)
 ·replace s := s.2 hb4
  refine zg rfl (sem_ptrNilF p1 (.inl rfl) false rfl rfl TF.ptr_32 hb4 rfl ?_)
  refine au 7 rfl ?_
  refine znil s rfl rfl fun A5 s => ?_
  refine au 1 rfl ?_
  refine zl s rfl rfl TF.agg_3 fun i7 s => ?_
  refine zt s rfl rfl rfl binI_gtr_t binI_gtr_f (fun s => ?_) fun s => ?_
  ·refine au 5 rfl ?_
   refine znil s rfl rfl fun A8 s => ?_
   refine au 1 rfl ?_
   refine zl s rfl rfl TF.agg_3 fun i10 s => ?_
   refine au 1 rfl ?_
   refine znil s rfl rfl fun A11 s => ?_
   refine au 1 rfl ?_
   refine zs1 s rfl rfl rfl rfl TF.sz_3 fun h13 s => ?_
   refine au 5 rfl ?_
   exact zr (s.imp fun _ q => ⟨_, rfl, q⟩)
  ·refine au 7 rfl ?_
   refine znil s rfl rfl fun A14 s => ?_
   refine au 1 rfl ?_
   refine zl s rfl rfl TF.agg_3 fun i16 s => ?_
   refine zt s rfl rfl rfl binI_geq_t binI_geq_f (fun s => ?_) fun s => ?_
   ·refine au 6 rfl ?_
    exact zr (s.imp fun _ q => ⟨_, rfl, q⟩)
   ·refine au 3 rfl ?_
    refine Run.seqJ (fun e h18 => Agree [(0, (.pointer p1)), (1, (.pointer p2))] e ∧ S_world_World_Write_J1 B p1 p2 h18 Q) ?_ fun j17 => ?_
    ·rintro e h18 ⟨hag, s⟩
     refine Run.env hag ?_; clear hag
     refine au 1 rfl ?_
     obtain ⟨A20, e21, s⟩ := s
     obtain ⟨p24, hl, s⟩ := s
     have f25 := hl
     obtain ⟨A27, e28, s⟩ := s
     obtain ⟨i31, hl, s⟩ := s
     have f32 := hl
     refine Run.drawM (fun h' => cellH B h' (Addr.add A20 4) = some (.pointer p24) ∧ cellH B h' (Addr.add A27 10) = some (.int .i64 (i31)) ∧ True) [] ⟨[0, 1, 2, 4, 0, 16, 32, 64, 128, 0, 768, 1032, 4095], [8191, 8190, 8189, 8187, 8191, 8175, 8159, 8127, 8063, 8191, 7423, 7159, 6143], [0, 0, 0, 0, 0, 0, 0, 0, 0, 0, 0, 0, 0], 0⟩ (.q 0 (.q 1 (.q 2 (.q 3 (.q 4 (.q 5 (.q 6 (.q 7 (.q 8 (.q 9 (.x 10 (.x 11 (.q 12 .nil) .no) .no))))))))))) TF.mixed (by kernel_rfl) ⟨f25, f32, trivial⟩ ?_
     refine auT 1 rfl ?_
     refine zq rfl (fun _ hC => sem_nilCheck A20 (congrArg Value.pointer e21) ⟨rfl, rfl⟩) ?_
     refine auT 1 rfl ?_
     refine zq rfl (fun _ hC => sem_load1 (Addr.add A20 4) ((.pointer p24)) rfl TF.agg_97 hC.1 ⟨rfl, rfl⟩) ?_
     refine auT 1 rfl ?_
     refine zq rfl (fun _ hC => sem_nilCheck A27 (congrArg Value.pointer e28) ⟨rfl, rfl⟩) ?_
     refine auT 1 rfl ?_
     refine zq rfl (fun _ hC => sem_load1 (Addr.add A27 10) ((.int .i64 (i31))) rfl TF.agg_3 hC.2.1 ⟨rfl, rfl⟩) ?_
     refine auT 2 rfl ?_
     refine ⟨zo rfl (sem_callL [(.int .i64 (IntKind.wrap .i64 ((i31) + (1)))), (.pointer p2)] (TF.goes_49) rfl rfl (Spec.mono s fun v h35 hv => ?_)), trivial⟩
     obtain ⟨s36, rfl, s⟩ := hv
     obtain ⟨g37, g38, s⟩ := s
     refine ⟨fun _ => ⟨g37, g38, trivial⟩, ?_⟩
     refine ⟨zo rfl (sem_callL [(.pointer p24), (.string s36)] (TF.goes_48) rfl rfl (Spec.mono s fun v h39 hv => ?_)), trivial⟩
     obtain ⟨i40, rfl, s⟩ := hv
     obtain ⟨g41, g42, s⟩ := s
     refine ⟨fun _ => ⟨g41, g42, trivial⟩, ?_⟩
     refine auT 1 rfl ?_
     exact zr (s.imp fun _ q => ⟨_, rfl, q⟩)
    refine au 3 rfl ?_
    refine znil s rfl rfl fun A43 s => ?_
    refine au 1 rfl ?_
    refine zl s rfl rfl TF.agg_97 fun p45 s => ?_
    refine zcall s rfl rfl TF.goes_47 ?_
    rintro _ h46 ⟨i47, rfl, s⟩
    refine zt s rfl rfl rfl binI_gtr_t binI_gtr_f (fun s => ?_) fun s => ?_
    ·refine au 3 rfl ?_
     obtain ⟨A49, e50, s⟩ := s
     obtain ⟨p53, hl, s⟩ := s
     have f54 := hl
     obtain ⟨A56, e57, s⟩ := s
     obtain ⟨i60, hl, s⟩ := s
     have f61 := hl
     obtain ⟨A63, e64, s⟩ := s
     obtain ⟨p67, hl, s⟩ := s
     have f68 := hl
     obtain ⟨A69, e70, s⟩ := s
     obtain ⟨p73, hl, s⟩ := s
     have f74 := hl
     refine Run.drawM (fun h' => cellH B h' (Addr.add A49 4) = some (.pointer p53) ∧ cellH B h' (Addr.add A56 10) = some (.int .i64 (i60)) ∧ cellH B h' A63 = some (.pointer p67) ∧ cellH B h' (Addr.add A69 1) = some (.pointer p73) ∧ True) [] ⟨[0, 1, 2, 4, 0, 16, 32, 64, 0, 256, 512, 1024, 2048, 4096, 8192, 16512, 32776, 131071], [262143, 262142, 262141, 262139, 262143, 262127, 262111, 262079, 262143, 261887, 261631, 261119, 260095, 258047, 253951, 245631, 229367, 196607], [0, 0, 0, 0, 0, 0, 0, 0, 0, 0, 0, 0, 0, 0, 0, 0, 0, 0], 0⟩ (.q 0 (.q 1 (.q 2 (.q 3 (.q 4 (.q 5 (.q 6 (.q 7 (.q 8 (.q 9 (.q 10 (.q 11 (.q 12 (.q 13 (.q 14 (.x 15 (.x 16 (.q 17 .nil) .no) .no)))))))))))))))) TF.mixed (by kernel_rfl) ⟨f54, f61, f68, f74, trivial⟩ ?_
     refine auT 1 rfl ?_
     refine zq rfl (fun _ hC => sem_nilCheck A49 (congrArg Value.pointer e50) ⟨rfl, rfl⟩) ?_
     refine auT 1 rfl ?_
     refine zq rfl (fun _ hC => sem_load1 (Addr.add A49 4) ((.pointer p53)) rfl TF.agg_97 hC.1 ⟨rfl, rfl⟩) ?_
     refine auT 1 rfl ?_
     refine zq rfl (fun _ hC => sem_nilCheck A56 (congrArg Value.pointer e57) ⟨rfl, rfl⟩) ?_
     refine auT 1 rfl ?_
     refine zq rfl (fun _ hC => sem_load1 (Addr.add A56 10) ((.int .i64 (i60))) rfl TF.agg_3 hC.2.1 ⟨rfl, rfl⟩) ?_
     refine auT 1 rfl ?_
     refine zq rfl (fun _ hC => sem_nilCheck A63 (congrArg Value.pointer e64) ⟨rfl, rfl⟩) ?_
     refine auT 1 rfl ?_
     refine zq rfl (fun _ hC => sem_load1 A63 ((.pointer p67)) rfl TF.agg_45 hC.2.2.1 ⟨rfl, rfl⟩) ?_
     refine zq rfl (fun _ hC => sem_nilCheck A69 (congrArg Value.pointer e70) ⟨rfl, rfl⟩) ?_
     refine auT 1 rfl ?_
     refine zq rfl (fun _ hC => sem_load1 (Addr.add A69 1) ((.pointer p73)) rfl TF.agg_41 hC.2.2.2.1 ⟨rfl, rfl⟩) ?_
     refine ⟨zo rfl (sem_callL [(.int .i64 (i60)), (.pointer p73)] (TF.goes_38) rfl rfl (Spec.mono s fun v h75 hv => ?_)), trivial⟩
     obtain ⟨s76, rfl, s⟩ := hv
     obtain ⟨g77, g78, g79, g80, s⟩ := s
     refine ⟨fun _ => ⟨g77, g78, g79, g80, trivial⟩, ?_⟩
     refine ⟨zo rfl (sem_callL [(.pointer p53), (.string s76)] (TF.goes_37) rfl rfl (Spec.mono s fun v h81 hv => ?_)), trivial⟩
     obtain ⟨i82, rfl, s⟩ := hv
     obtain ⟨g83, g84, g85, g86, s⟩ := s
     refine ⟨fun _ => ⟨g83, g84, g85, g86, trivial⟩, ?_⟩
     refine auT 1 rfl ?_
     refine au 3 rfl ?_
     refine zu s rfl rfl rfl binI_neq_t binI_neq_f (fun s => ?_) fun s => ?_
     ·refine au 3 rfl ?_
      exact Run.of_fin (s.imp fun h' s => j17 _ _ ⟨⟨rfl, rfl, trivial⟩, s⟩)
     ·refine au 7 rfl ?_
      exact zr (s.imp fun _ q => ⟨_, rfl, q⟩)
    ·refine au 3 rfl ?_
     exact Run.of_fin (s.imp fun h' s => j17 _ _ ⟨⟨rfl, rfl, trivial⟩, s⟩)
theorem C_world_World_Done.of {B : RO} {p1 : Option Addr} {h : Heap} {Q : Heap → Prop} (s : S_world_World_Done B p1 h Q) : C_world_World_Done B p1 h Q := by
 refine zspec Try.func23 [] rfl rfl rfl rfl rfl ?_
 refine au 3 rfl ?_
 by_cases hb2 : p1 = none
 ·replace s := s.1 hb2
  refine zg rfl (sem_ptrNilT p1 (.inr rfl) false rfl rfl TF.ptr_32 hb2 rfl ?_)
  refine au 3 rfl ?_
  exact zf (s.imp fun _ q => ⟨rfl, q⟩)
 ·replace s := s.2 hb2
  refine zg rfl (sem_ptrNilF p1 (.inr rfl) true rfl rfl TF.ptr_32 hb2 rfl ?_)
  refine au 4 rfl ?_
  refine znil s rfl rfl fun A3 s => ?_
  refine au 1 rfl ?_
  refine zl s rfl rfl TF.agg_3 fun i5 s => ?_
  refine au 1 rfl ?_
  refine znil s rfl rfl fun A6 s => ?_
  refine au 1 rfl ?_
  refine zs1 s rfl rfl rfl rfl TF.sz_3 fun h8 s => ?_
  refine au 1 rfl ?_
  exact zf (s.imp fun _ q => ⟨rfl, q⟩)
theorem C_world_World_Wire.of {B : RO} {p1 : Option Addr} {h : Heap} {Q : Option Addr → Heap → Prop} (s : S_world_World_Wire B p1 h Q) : C_world_World_Wire B p1 h Q := by
 refine zspec Try.func24 [ResultVar.tmp 2] rfl rfl rfl rfl rfl ?_
 refine au 8 rfl ?_
 by_cases hb3 : p1 = none
 ·replace s := s.1 hb3
  refine zg rfl (sem_ptrNilT p1 (.inl rfl) true rfl rfl TF.ptr_32 hb3 rfl ?_)
  refine au 6 rfl ?_
  exact zr (s.imp fun _ q => ⟨_, rfl, q⟩)
 ·replace s := s.2 hb3
  refine zg rfl (sem_ptrNilF p1 (.inl rfl) false rfl rfl TF.ptr_32 hb3 rfl ?_)
  refine au 6 rfl ?_
  refine znil s rfl rfl fun A4 s => ?_
  refine au 1 rfl ?_
  refine zl s rfl rfl TF.agg_73 fun p6 s => ?_
  refine au 2 rfl ?_
  exact zr (s.imp fun _ q => ⟨_, rfl, q⟩)
theorem C_wire_Wire_All.of {B : RO} {p1 : Option Addr} {i2 : Int} {h : Heap} {Q : ByteArray → Heap → Prop} (s : S_wire_Wire_All B p1 i2 h Q) : C_wire_Wire_All B p1 i2 h Q := by
 refine zspec Try.func25 [ResultVar.tmp 4] rfl rfl rfl rfl rfl ?_
 refine au 8 rfl ?_
 refine zcall s rfl rfl TF.goes_50 ?_
 rintro _ h4 ⟨p5, rfl, s⟩
 refine au 6 rfl ?_
 by_cases hb6 : p5 = none
 ·replace s := s.1 hb6
  refine zg rfl (sem_ptrNilT p5 (.inl rfl) true rfl rfl TF.ptr_121 hb6 rfl ?_)
  refine au 6 rfl ?_
  exact zr (s.imp fun _ q => ⟨_, rfl, q⟩)
 ·replace s := s.2 hb6
  refine zg rfl (sem_ptrNilF p5 (.inl rfl) false rfl rfl TF.ptr_121 hb6 rfl ?_)
  refine au 4 rfl ?_
  refine Run.drawM (fun h' => h' = h4) [] ⟨[0, 1, 2, 4, 0, 16, 32, 64, 136, 0, 512, 1024, 2048, 4352, 16383], [32767, 32766, 32765, 32763, 32767, 32751, 32735, 32703, 32631, 32767, 32255, 31743, 30719, 28415, 24575], [0, 0, 0, 0, 0, 0, 0, 0, 0, 0, 0, 0, 0, 0, 0], 0⟩ (.q 0 (.q 1 (.q 2 (.q 3 (.q 4 (.q 5 (.q 6 (.q 7 (.q 8 (.q 9 (.q 10 (.q 11 (.q 12 (.q 13 (.q 14 .nil))))))))))))))) TF.mixed (by kernel_rfl) rfl ?_
  refine auT 1 rfl ?_
  obtain ⟨A7, e8, s⟩ := s
  refine zqe rfl (sem_nilCheck A7 (congrArg Value.pointer e8) ⟨rfl, rfl⟩) ?_
  refine auT 1 rfl ?_
  obtain ⟨s9, hl, s⟩ := s
  refine zqe rfl (sem_load1 (Addr.add A7 2) ((.string s9)) rfl TF.agg_9 hl ⟨rfl, rfl⟩) ?_
  refine auT 1 rfl ?_
  obtain ⟨A10, e11, s⟩ := s
  refine zqe rfl (sem_nilCheck A10 (congrArg Value.pointer e11) ⟨rfl, rfl⟩) ?_
  refine auT 1 rfl ?_
  obtain ⟨s12, hl, s⟩ := s
  refine zqe rfl (sem_load1 (Addr.add A10 1) ((.string s12)) rfl TF.agg_9 hl ⟨rfl, rfl⟩) ?_
  obtain ⟨hi0, s⟩ := s
  refine zqe rfl (sem_strAdd s9 s12 rfl rfl hi0 ⟨rfl, rfl⟩) ?_
  refine auT 1 rfl ?_
  obtain ⟨A13, e14, s⟩ := s
  refine zqe rfl (sem_nilCheck A13 (congrArg Value.pointer e14) ⟨rfl, rfl⟩) ?_
  refine auT 1 rfl ?_
  obtain ⟨s15, hl, s⟩ := s
  refine zqe rfl (sem_load1 A13 ((.string s15)) rfl TF.agg_9 hl ⟨rfl, rfl⟩) ?_
  obtain ⟨hi0, s⟩ := s
  refine zqe rfl (sem_strAdd (s9 ++ s12) s15 rfl rfl hi0 ⟨rfl, rfl⟩) ?_
  refine auT 1 rfl ?_
  exact zr (s.imp fun _ q => ⟨_, rfl, q⟩)
theorem C_world_World_Force.of {B : RO} {p1 : Option Addr} {h : Heap} {Q : Heap → Prop} (s : S_world_World_Force B p1 h Q) : C_world_World_Force B p1 h Q := by
 refine zspec Try.func26 [] rfl rfl rfl rfl rfl ?_
 refine au 3 rfl ?_
 by_cases hb2 : p1 = none
 ·replace s := s.1 hb2
  refine zg rfl (sem_ptrNilT p1 (.inr rfl) false rfl rfl TF.ptr_32 hb2 rfl ?_)
  refine au 3 rfl ?_
  exact zf (s.imp fun _ q => ⟨rfl, q⟩)
 ·replace s := s.2 hb2
  refine zg rfl (sem_ptrNilF p1 (.inr rfl) true rfl rfl TF.ptr_32 hb2 rfl ?_)
  refine au 4 rfl ?_
  refine znil s rfl rfl fun A3 s => ?_
  refine au 1 rfl ?_
  refine zl s rfl rfl TF.agg_97 fun p5 s => ?_
  refine zcall s rfl rfl TF.goes_51 ?_
  rintro _ h6 ⟨rfl, s⟩
  refine au 1 rfl ?_
  exact zf (s.imp fun _ q => ⟨rfl, q⟩)
theorem C_world_World_Token.of {B : RO} {p1 : Option Addr} {h : Heap} {Q : Option Addr → Heap → Prop} (s : S_world_World_Token B p1 h Q) : C_world_World_Token B p1 h Q := by
 refine zspec Try.func27 [ResultVar.tmp 2] rfl rfl rfl rfl rfl ?_
 refine au 8 rfl ?_
 by_cases hb3 : p1 = none
 ·replace s := s.1 hb3
  refine zg rfl (sem_ptrNilT p1 (.inl rfl) true rfl rfl TF.ptr_32 hb3 rfl ?_)
  refine au 6 rfl ?_
  exact zr (s.imp fun _ q => ⟨_, rfl, q⟩)
 ·replace s := s.2 hb3
  refine zg rfl (sem_ptrNilF p1 (.inl rfl) false rfl rfl TF.ptr_32 hb3 rfl ?_)
  refine au 6 rfl ?_
  refine znil s rfl rfl fun A4 s => ?_
  refine au 1 rfl ?_
  refine zl s rfl rfl TF.agg_76 fun p6 s => ?_
  refine au 2 rfl ?_
  exact zr (s.imp fun _ q => ⟨_, rfl, q⟩)
theorem C_token_Token_Free.of {B : RO} {p1 : Option Addr} {i2 : Int} {h : Heap} {Q : Bool → Heap → Prop} (s : S_token_Token_Free B p1 i2 h Q) : C_token_Token_Free B p1 i2 h Q := by
 refine zspec Try.func28 [ResultVar.tmp 4] rfl rfl rfl rfl rfl ?_
 refine au 7 rfl ?_
 by_cases hb4 : p1 = none
 ·replace s := s.1 hb4
  refine zg rfl (sem_ptrNilT p1 (.inr rfl) false rfl rfl TF.ptr_76 hb4 rfl ?_)
  refine au 36 rfl ?_
  exact zr (s.imp fun _ q => ⟨_, rfl, q⟩)
 ·replace s := s.2 hb4
  refine zg rfl (sem_ptrNilF p1 (.inr rfl) true rfl rfl TF.ptr_76 hb4 rfl ?_)
  refine au 2 rfl ?_
  refine zt s rfl rfl rfl binI_geq_t binI_geq_f (fun s => ?_) fun s => ?_
  ·refine au 3 rfl ?_
   refine znil s rfl rfl fun A5 s => ?_
   refine au 1 rfl ?_
   refine zl s rfl rfl TF.agg_3 fun i7 s => ?_
   refine zt s rfl rfl rfl binI_eql_t binI_eql_f (fun s => ?_) fun s => ?_
   ·refine au 11 rfl ?_
    refine znil s rfl rfl fun A8 s => ?_
    refine au 1 rfl ?_
    refine zl s rfl rfl TF.agg_3 fun i10 s => ?_
    refine zt s rfl rfl rfl binI_eql_t binI_eql_f (fun s => ?_) fun s => ?_
    ·refine au 11 rfl ?_
     exact zr (s.imp fun _ q => ⟨_, rfl, q⟩)
    ·refine au 2 rfl ?_
     refine znil s rfl rfl fun A11 s => ?_
     refine au 1 rfl ?_
     refine zl s rfl rfl TF.agg_3 fun i13 s => ?_
     refine au 6 rfl ?_
     exact zr (s.imp fun _ q => ⟨_, rfl, q⟩)
   ·refine au 2 rfl ?_
    refine znil s rfl rfl fun A14 s => ?_
    refine au 1 rfl ?_
    refine zl s rfl rfl TF.agg_3 fun i16 s => ?_
    refine au 1 rfl ?_
    refine zt s rfl rfl rfl binI_eql_t binI_eql_f (fun s => ?_) fun s => ?_
    ·refine au 4 rfl ?_
     refine znil s rfl rfl fun A17 s => ?_
     refine au 1 rfl ?_
     refine zl s rfl rfl TF.agg_3 fun i19 s => ?_
     refine zt s rfl rfl rfl binI_eql_t binI_eql_f (fun s => ?_) fun s => ?_
     ·refine au 11 rfl ?_
      exact zr (s.imp fun _ q => ⟨_, rfl, q⟩)
     ·refine au 2 rfl ?_
      refine znil s rfl rfl fun A20 s => ?_
      refine au 1 rfl ?_
      refine zl s rfl rfl TF.agg_3 fun i22 s => ?_
      refine au 6 rfl ?_
      exact zr (s.imp fun _ q => ⟨_, rfl, q⟩)
    ·refine au 19 rfl ?_
     exact zr (s.imp fun _ q => ⟨_, rfl, q⟩)
  ·refine au 33 rfl ?_
   exact zr (s.imp fun _ q => ⟨_, rfl, q⟩)
theorem C_disk_good.of {B : RO} {i1 : Int} {h : Heap} {Q : Bool → Heap → Prop} (s : S_disk_good B i1 h Q) : C_disk_good B i1 h Q := by
 refine zspec Try.func29 [ResultVar.tmp 2] rfl rfl rfl rfl rfl ?_
 refine au 7 rfl ?_
 refine zt s rfl rfl rfl binI_eql_t binI_eql_f (fun s => ?_) fun s => ?_
 ·refine au 6 rfl ?_
  exact zr (s.imp fun _ q => ⟨_, rfl, q⟩)
 ·refine au 6 rfl ?_
  exact zr (s.imp fun _ q => ⟨_, rfl, q⟩)
theorem C_vault_Open.of {B : RO} {p1 : Option Addr} {h : Heap} {Q : Option Addr → ByteArray → Option Addr → Nat → Nat → Int → Heap → Prop} (s : S_vault_Open B p1 h Q) : C_vault_Open B p1 h Q := by
 refine zspec Try.func34 [ResultVar.tmp 2, ResultVar.cell 3 99, ResultVar.tmp 4] rfl rfl rfl rfl rfl ?_
 refine au 3 rfl ?_
 refine zal s rfl TF.zero_99 rfl fun k8 h9 s => ?_
 refine au 6 rfl ?_
 by_cases hb10 : p1 = none
 ·replace s := s.1 hb10
  refine zg rfl (sem_ptrNilT p1 (.inl rfl) true rfl rfl TF.ptr_23 hb10 rfl ?_)
  refine au 4 rfl ?_
  refine zg rfl (sem_buildSL [] [(.string ByteArray.empty), (.slice none 0 0)] TF.zero_99 TF.places_99 rfl rfl ?_)
  refine au 1 rfl ?_
  refine zsn s rfl rfl rfl TF.sz_99 rfl fun h11 s => ?_
  refine au 2 rfl ?_
  obtain ⟨s12, a13, n14, c15, hl1, s⟩ := s
  exact zr (⟨⟨k8, 0, none⟩, (.agg #[(.string s12), (.slice a13 n14 c15)]), rfl, loadHN TF.agg_99 TF.sz_99 hl1, s.imp fun _ q => ⟨_, _, _, _, _, _, rfl, q⟩⟩)
 ·replace s := s.2 hb10
  refine zg rfl (sem_ptrNilF p1 (.inl rfl) false rfl rfl TF.ptr_23 hb10 rfl ?_)
  refine au 6 rfl ?_
  refine zg rfl (sem_buildSL [(0, (.pointer p1))] [(.pointer p1), (.pointer none), (.int .i64 (0)), (.bool false)] TF.zero_135 TF.places_135 rfl rfl ?_)
  refine zbn s rfl rfl rfl fun k16 h17 s => ?_
  refine au 4 rfl ?_
  refine zal s rfl TF.zero_99 rfl fun k18 h19 s => ?_
  refine au 7 rfl ?_
  obtain ⟨J25, m23, h0, s⟩ := s
  refine Run.of_fin (h0.imp fun h' h0 => ?_)
  refine Run.loop (σ := Int × Nat) (fun x e h => J25 x.1 x.2 h ∧ Agree [(0, (.pointer p1)), (3, (.pointer (some ⟨k8, 0, none⟩))), (5, (.pointer (some ⟨k16, 0, none⟩))), (6, (.pointer (some ⟨k18, 0, none⟩))), (18, (.int .i64 (x.1)))] e) (fun x => x.2) ((0), m23) ⟨h0, ⟨rfl, rfl, rfl, rfl, rfl, trivial⟩⟩ ?_; clear h0
  rintro ⟨i20, m22⟩ e h21 ⟨hJ, hag⟩ ih24
  have s := s i20 m22 h21 hJ; clear hJ
  refine Run.env hag ?_; clear hag
  refine au 2 rfl ?_
  refine zt s rfl rfl rfl binI_lss_t binI_lss_f (fun s => ?_) fun s => ?_
  ·refine au 15 rfl ?_
   refine zcall s rfl rfl TF.goes_54 ?_
   rintro _ h26 ⟨p27, i28, rfl, s⟩
   refine au 9 rfl ?_
   refine zcall s rfl rfl TF.goes_55 ?_
   rintro _ h29 ⟨i30, s31, a32, n33, c34, rfl, s⟩
   refine au 3 rfl ?_
   refine zal s rfl TF.zero_99 rfl fun k35 h36 s => ?_
   refine au 1 rfl ?_
   refine zsn s rfl rfl rfl TF.sz_99 rfl fun h37 s => ?_
   refine au 1 rfl ?_
   refine Run.seqJ (fun e h40 => ∃ b39 : Bool, Agree [(0, (.pointer p1)), (3, (.pointer (some ⟨k8, 0, none⟩))), (5, (.pointer (some ⟨k16, 0, none⟩))), (6, (.pointer (some ⟨k18, 0, none⟩))), (8, (.pointer p27)), (10, (.int .i64 (i30))), (11, (.pointer (some ⟨k35, 0, none⟩))), (18, (.int .i64 (i20))), (44, (.bool b39))] e ∧ S_vault_Open_J1 B p1 k8 k16 k18 i20 m22 J25 p27 i30 k35 b39 h40 Q) ?_ fun j38 => ?_
   ·rintro e h40 ⟨b39, hag, s⟩
    refine Run.env hag ?_; clear hag
    cases b39
    ·replace s := s.2 rfl
     refine au 7 rfl ?_
     exact Run.of_fin (s.imp fun h' ⟨m', hm, s⟩ => ih24 ((IntKind.wrap .i64 ((i20) + (1))), m') _ _ ⟨s, ⟨rfl, rfl, rfl, rfl, rfl, trivial⟩⟩ hm)
    ·replace s := s.1 rfl
     refine au 1 rfl ?_
     obtain ⟨s45, a46, n47, c48, hl, s⟩ := s
     have f49 := hl
     refine Run.drawM (fun h' => CellsAt B h' ⟨k35, 0, none⟩ 0 [(.string s45), (.slice a46 n47 c48)] ∧ True) [11] ⟨[0, 0, 0, 0, 0, 5, 37, 69, 239, 495, 751, 2047], [4095, 4095, 4095, 4095, 4095, 4094, 4063, 4027, 4093, 3839, 3575, 4079], [0, 0, 0, 0, 0, 5, 37, 101, 239, 495, 1007, 2047], 2048⟩ (.q 0 (.q 1 (.q 2 (.q 3 (.q 4 (.q 5 (.q 6 (.x 7 (.q 8 (.q 9 (.x 10 (.x 11 .nil .no) .no))) .no)))))))) TF.mixed (by kernel_rfl) ⟨f49, trivial⟩ ?_
     refine auT 4 rfl ?_
     refine zq rfl (fun _ hC => sem_loadN ⟨k35, 0, none⟩ [(.string s45), (.slice a46 n47 c48)] rfl TF.agg_99 TF.sz_99 hC.1 ⟨rfl, rfl⟩) ?_
     refine auT 2 rfl ?_
     obtain ⟨h52, hst, s⟩ := s
     refine ⟨zo0 rfl (sem_store1 ⟨k16, 1, none⟩ ((.pointer p27)) h52 rfl rfl rfl TF.sz_133 hst ?_), trivial⟩
     obtain ⟨g53, s⟩ := s
     refine ⟨fun _ => ⟨g53, trivial⟩, ?_⟩
     refine auT 2 rfl ?_
     obtain ⟨h54, hst, s⟩ := s
     refine ⟨zo0 rfl (sem_store1 ⟨k16, 2, none⟩ ((.int .i64 (i30))) h54 rfl rfl rfl TF.sz_3 hst ?_), trivial⟩
     obtain ⟨g55, s⟩ := s
     refine ⟨fun _ => ⟨g55, trivial⟩, ?_⟩
     obtain ⟨h56, hst, s⟩ := s
     refine ⟨zo0 rfl (sem_storeN ⟨k18, 0, none⟩ [(.string s45), (.slice a46 n47 c48)] h56 rfl rfl TF.sz_99 hst ?_), trivial⟩
     refine ⟨fun hz => Bool.noConfusion hz, ?_⟩
     refine au 5 rfl ?_
     exact Run.of_fin (s.imp fun h' ⟨m', hm, s⟩ => ih24 ((IntKind.wrap .i64 ((i20) + (1))), m') _ _ ⟨s, ⟨rfl, rfl, rfl, rfl, rfl, trivial⟩⟩ hm)
   refine au 4 rfl ?_
   refine zl s rfl rfl TF.agg_133 fun p57 s => ?_
   by_cases hb58 : p57 = none
   ·replace s := s.1 hb58
    refine zg rfl (sem_ptrNilT p57 (.inl rfl) true rfl rfl TF.ptr_133 hb58 rfl ?_)
    refine au 9 rfl ?_
    exact Run.of_fin (s.imp fun h' s => j38 _ _ ⟨(true), ⟨rfl, rfl, rfl, rfl, rfl, rfl, rfl, rfl, rfl, trivial⟩, s⟩)
   ·replace s := s.2 hb58
    refine zg rfl (sem_ptrNilF p57 (.inl rfl) false rfl rfl TF.ptr_133 hb58 rfl ?_)
    refine au 5 rfl ?_
    refine zl s rfl rfl TF.agg_3 fun i59 s => ?_
    refine zt s rfl rfl rfl binI_gtr_t binI_gtr_f (fun s => ?_) fun s => ?_
    ·refine au 2 rfl ?_
     exact Run.of_fin (s.imp fun h' s => j38 _ _ ⟨(true), ⟨rfl, rfl, rfl, rfl, rfl, rfl, rfl, rfl, rfl, trivial⟩, s⟩)
    ·refine au 2 rfl ?_
     exact Run.of_fin (s.imp fun h' s => j38 _ _ ⟨(false), ⟨rfl, rfl, rfl, rfl, rfl, rfl, rfl, rfl, rfl, trivial⟩, s⟩)
  ·refine au 5 rfl ?_
   obtain ⟨s61, a62, n63, c64, hl, s⟩ := s
   have f65 := hl
   refine Run.drawM (fun h' => CellsAt B h' ⟨k18, 0, none⟩ 0 [(.string s61), (.slice a62 n63 c64)] ∧ True) [] ⟨[0, 0, 1, 7, 15], [31, 31, 30, 29, 31], [0, 0, 0, 0, 0], 0⟩ (.q 0 (.q 1 (.q 2 (.x 3 (.q 4 .nil) .no)))) TF.mixed (by kernel_rfl) ⟨f65, trivial⟩ ?_
   refine auT 1 rfl ?_
   refine zq rfl (fun _ hC => sem_loadN ⟨k18, 0, none⟩ [(.string s61), (.slice a62 n63 c64)] rfl TF.agg_99 TF.sz_99 hC.1 ⟨rfl, rfl⟩) ?_
   refine auT 1 rfl ?_
   obtain ⟨h67, hst, s⟩ := s
   refine ⟨zo0 rfl (sem_storeN ⟨k8, 0, none⟩ [(.string s61), (.slice a62 n63 c64)] h67 rfl rfl TF.sz_99 hst ?_), trivial⟩
   obtain ⟨g68, s⟩ := s
   refine ⟨fun _ => ⟨g68, trivial⟩, ?_⟩
   refine auT 1 rfl ?_
   obtain ⟨s69, a70, n71, c72, hl1, s⟩ := s
   exact zr (⟨⟨k8, 0, none⟩, (.agg #[(.string s69), (.slice a70 n71 c72)]), rfl, loadHN TF.agg_99 TF.sz_99 hl1, s.imp fun _ q => ⟨_, _, _, _, _, _, rfl, q⟩⟩)
theorem C_world_read.of {B : RO} {s1 : ByteArray} {h : Heap} {Q : Int → Option Addr → Bool → Heap → Prop} (s : S_world_read B s1 h Q) : C_world_read B s1 h Q := by
 refine zspec Try.func35 [ResultVar.tmp 2, ResultVar.tmp 3, ResultVar.tmp 4] rfl rfl rfl rfl rfl ?_
 refine au 10 rfl ?_
 by_cases hb5 : s1 = (ByteArray.mk #[])
 ·replace s := s.1 hb5
  refine zg rfl (sem_strEqT s1 (ByteArray.mk #[]) rfl rfl hb5 ?_)
  refine au 4 rfl ?_
  refine zcall s rfl rfl TF.goes_56 ?_
  rintro _ h6 ⟨p7, rfl, s⟩
  refine au 4 rfl ?_
  exact zr (s.imp fun _ q => ⟨_, _, _, rfl, q⟩)
 ·replace s := s.2 hb5
  refine zg rfl (sem_strEqF s1 (ByteArray.mk #[]) rfl rfl hb5 ?_)
  refine au 6 rfl ?_
  refine zcall s rfl rfl TF.goes_57 ?_
  rintro _ h8 ⟨p9, rfl, s⟩
  refine au 5 rfl ?_
  refine zcall s rfl rfl TF.goes_58 ?_
  rintro _ h10 ⟨i11, rfl, s⟩
  refine au 6 rfl ?_
  refine zcall s rfl rfl TF.goes_59 ?_
  rintro _ h12 ⟨b13, rfl, s⟩
  cases b13
  ·replace s := s.2 rfl
   refine au 7 rfl ?_
   refine zcall s rfl rfl TF.goes_62 ?_
   rintro _ h14 ⟨i15, rfl, s⟩
   refine zcall s rfl rfl TF.goes_61 ?_
   rintro _ h16 ⟨s17, rfl, s⟩
   refine zcall s rfl rfl TF.goes_60 ?_
   rintro _ h18 ⟨p19, b20, rfl, s⟩
   refine au 15 rfl ?_
   exact zr (s.imp fun _ q => ⟨_, _, _, rfl, q⟩)
  ·replace s := s.1 rfl
   refine au 8 rfl ?_
   exact zr (s.imp fun _ q => ⟨_, _, _, rfl, q⟩)
theorem C_redo_Replay.of {B : RO} {p1 : Option Addr} {a2 : Option Addr} {n3 : Nat} {c4 : Nat} {h : Heap} {Q : Int → Int → Heap → Prop} (s : S_redo_Replay B p1 a2 n3 c4 h Q) : C_redo_Replay B p1 a2 n3 c4 h Q := by
 refine zspec Try.func36 [ResultVar.tmp 4, ResultVar.tmp 5] rfl rfl rfl rfl rfl ?_
 refine au 13 rfl ?_
 refine zg rfl (sem_lenSl a2 n3 c4 rfl TF.sl_35 ?_)
 refine au 3 rfl ?_
 obtain ⟨J13, m11, h0, s⟩ := s
 refine Run.of_fin (h0.imp fun h' h0 => ?_)
 refine Run.loop (σ := Int × Int × Nat) (fun x e h => J13 x.1 x.2.1 x.2.2 h ∧ Agree [(0, (.pointer p1)), (1, (.slice a2 n3 c4)), (6, (.int .i64 (x.1))), (12, (.slice a2 n3 c4)), (13, (.int .i64 ((n3 : Nat)))), (14, (.int .i64 (x.2.1)))] e) (fun x => x.2.2) ((0), (0), m11) ⟨h0, ⟨rfl, rfl, rfl, rfl, rfl, rfl, trivial⟩⟩ ?_; clear h0
 rintro ⟨i7, i8, m10⟩ e h9 ⟨hJ, hag⟩ ih12
 have s := s i7 i8 m10 h9 hJ; clear hJ
 refine Run.env hag ?_; clear hag
 refine au 2 rfl ?_
 refine zt s rfl rfl rfl binI_lss_t binI_lss_f (fun s => ?_) fun s => ?_
 ·refine au 9 rfl ?_
  obtain ⟨A14, e15, hi0, hi1, s⟩ := s
  refine zg rfl (sem_indexAddrS A14 n3 c4 .i64 (i8) (congrArg (fun a => Value.slice a n3 c4) e15) rfl TF.slc_35 hi0 hi1 ?_)
  refine zl s rfl rfl TF.agg_9 fun s16 s => ?_
  refine au 6 rfl ?_
  refine zcall s rfl rfl TF.goes_63 ?_
  rintro _ h17 ⟨i18, a19, n20, c21, b22, rfl, s⟩
  refine au 3 rfl ?_
  cases b22
  ·replace s := s.2 rfl
   refine au 1 rfl ?_
   refine au 18 rfl ?_
   exact zr (s.imp fun _ q => ⟨_, _, rfl, q⟩)
  ·replace s := s.1 rfl
   refine au 1 rfl ?_
   refine au 16 rfl ?_
   refine zcall s rfl rfl TF.goes_64 ?_
   rintro _ h23 ⟨rfl, s⟩
   refine au 4 rfl ?_
   refine zg rfl (sem_max .i64 (i7) (i18) rfl rfl ?_)
   refine au 7 rfl ?_
   exact Run.of_fin (s.imp fun h' ⟨m', hm, s⟩ => ih12 ((if (i18 : Int) > (i7) then (i18 : Int) else (i7)), (IntKind.wrap .i64 ((i8) + (1))), m') _ _ ⟨s, ⟨rfl, rfl, rfl, rfl, rfl, rfl, trivial⟩⟩ hm)
 ·refine au 8 rfl ?_
  refine zg rfl (sem_lenSl a2 n3 c4 rfl TF.sl_35 ?_)
  refine au 3 rfl ?_
  exact zr (s.imp fun _ q => ⟨_, _, rfl, q⟩)
theorem C_vault_Vault_Settle.of {B : RO} {p1 : Option Addr} {s2 : ByteArray} {h : Heap} {Q : Int → Heap → Prop} (s : S_vault_Vault_Settle B p1 s2 h Q) : C_vault_Vault_Settle B p1 s2 h Q := by
 refine zspec Try.func37 [ResultVar.tmp 4] rfl rfl rfl rfl rfl ?_
 refine au 4 rfl ?_
 refine Run.seqJ (fun e h5 => Agree [(0, (.pointer p1)), (1, (.string s2))] e ∧ S_vault_Vault_Settle_J1 B p1 s2 h5 Q) ?_ fun j4 => ?_
 ·rintro e h5 ⟨hag, s⟩
  refine Run.env hag ?_; clear hag
  refine au 2 rfl ?_
  refine zg rfl (sem_buildSL [] [(.slice none 0 0)] TF.zero_152 TF.places_152 rfl rfl ?_)
  refine zbn s rfl rfl rfl fun k6 h7 s => ?_
  refine au 6 rfl ?_
  refine znil s rfl rfl fun A8 s => ?_
  refine au 1 rfl ?_
  refine zl s rfl rfl TF.agg_3 fun i10 s => ?_
  refine au 1 rfl ?_
  refine zg rfl (sem_buildSliceL [(0, (.int .i64 (0))), (1, (.int .i64 (IntKind.wrap .i64 ((i10) + (1)))))] [(.int .i64 (0)), (.int .i64 (IntKind.wrap .i64 ((i10) + (1))))] TF.slc_119 TF.zero_3 rfl (by decide) (by decide) rfl rfl (fun k11 hb1 hb2 h12 hb3 => ?_))
  have s := s k11 hb1 hb2 h12 hb3
  refine zcall s rfl rfl TF.goes_65 ?_
  rintro _ h13 ⟨rfl, s⟩
  refine au 5 rfl ?_
  refine zcall s rfl rfl TF.goes_66 ?_
  rintro _ h14 ⟨rfl, s⟩
  refine au 5 rfl ?_
  refine zcall s rfl rfl TF.goes_67 ?_
  rintro _ h15 ⟨s16, rfl, s⟩
  refine zg rfl (sem_lenStr s16 rfl TF.isStr_9 ?_)
  refine zt s rfl rfl rfl binI_gtr_t binI_gtr_f (fun s => ?_) fun s => ?_
  ·refine au 6 rfl ?_
   exact zr (s.imp fun _ q => ⟨_, rfl, q⟩)
  ·refine au 6 rfl ?_
   refine znil s rfl rfl fun A17 s => ?_
   refine au 1 rfl ?_
   refine zl s rfl rfl TF.agg_133 fun p19 s => ?_
   refine au 3 rfl ?_
   obtain ⟨A21, e22, s⟩ := s
   obtain ⟨p25, hl, s⟩ := s
   have f26 := hl
   refine Run.drawM (fun h' => cellH B h' A21 = some (.pointer p25) ∧ True) [] ⟨[0, 1, 2, 4, 0, 16, 32, 104, 128, 256, 256, 1023, 4095], [8191, 8190, 8189, 8187, 8191, 8175, 8159, 8119, 8063, 7935, 7935, 7679, 7167], [0, 0, 0, 0, 0, 0, 0, 0, 0, 0, 0, 0, 0], 0⟩ (.q 0 (.q 1 (.q 2 (.q 3 (.q 4 (.x 5 (.q 6 (.x 7 (.q 8 (.q 9 (.q 10 (.q 11 (.q 12 .nil))))) .no)) .no)))))) TF.mixed (by kernel_rfl) ⟨f26, trivial⟩ ?_
   refine auT 1 rfl ?_
   refine zq rfl (fun _ hC => sem_nilCheck A21 (congrArg Value.pointer e22) ⟨rfl, rfl⟩) ?_
   refine auT 1 rfl ?_
   refine zq rfl (fun _ hC => sem_load1 A21 ((.pointer p25)) rfl TF.agg_23 hC.1 ⟨rfl, rfl⟩) ?_
   refine auT 1 rfl ?_
   refine ⟨zo rfl (sem_callL [(.pointer p19)] (TF.goes_68) rfl rfl (Spec.mono s fun v h28 hv => ?_)), trivial⟩
   obtain ⟨i29, rfl, s⟩ := hv
   obtain ⟨g30, s⟩ := s
   refine ⟨fun _ => ⟨g30, trivial⟩, ?_⟩
   refine auT 1 rfl ?_
   refine ⟨zo rfl (sem_callL [(.pointer p25), (.int .i64 (IntKind.wrap .i64 ((1) - (i29))))] (TF.goes_54) rfl rfl (Spec.mono s fun v h31 hv => ?_)), trivial⟩
   obtain ⟨p32, i33, rfl, s⟩ := hv
   obtain ⟨g34, s⟩ := s
   refine ⟨fun _ => ⟨g34, trivial⟩, ?_⟩
   refine auT 5 rfl ?_
   refine au 3 rfl ?_
   refine zcall s rfl rfl TF.goes_69 ?_
   rintro _ h35 ⟨rfl, s⟩
   refine au 4 rfl ?_
   refine zcall s rfl rfl TF.goes_70 ?_
   rintro _ h36 ⟨rfl, s⟩
   refine au 5 rfl ?_
   refine zcall s rfl rfl TF.goes_67 ?_
   rintro _ h37 ⟨s38, rfl, s⟩
   refine zcall s rfl rfl TF.goes_71 ?_
   rintro _ h39 ⟨i40, rfl, s⟩
   refine au 4 rfl ?_
   refine zcall s rfl rfl TF.goes_70 ?_
   rintro _ h41 ⟨rfl, s⟩
   refine au 4 rfl ?_
   refine zcall s rfl rfl TF.goes_69 ?_
   rintro _ h42 ⟨rfl, s⟩
   refine au 4 rfl ?_
   refine zcall s rfl rfl TF.goes_70 ?_
   rintro _ h43 ⟨rfl, s⟩
   refine au 8 rfl ?_
   refine znil s rfl rfl fun A44 s => ?_
   refine au 1 rfl ?_
   refine zl s rfl rfl TF.agg_3 fun i46 s => ?_
   refine au 1 rfl ?_
   refine znil s rfl rfl fun A47 s => ?_
   refine au 1 rfl ?_
   refine zs1 s rfl rfl rfl rfl TF.sz_133 fun h49 s => ?_
   refine znil s rfl rfl fun A50 s => ?_
   refine au 1 rfl ?_
   refine zs1 s rfl rfl rfl rfl TF.sz_3 fun h52 s => ?_
   refine znil s rfl rfl fun A53 s => ?_
   refine au 1 rfl ?_
   refine zs1 s rfl rfl rfl rfl TF.sz_4 fun h55 s => ?_
   refine au 5 rfl ?_
   exact zr (s.imp fun _ q => ⟨_, rfl, q⟩)
 refine au 4 rfl ?_
 by_cases hb56 : p1 = none
 ·replace s := s.1 hb56
  refine zg rfl (sem_ptrNilT p1 (.inl rfl) true rfl rfl TF.ptr_97 hb56 rfl ?_)
  refine au 7 rfl ?_
  exact zr (s.imp fun _ q => ⟨_, rfl, q⟩)
 ·replace s := s.2 hb56
  refine zg rfl (sem_ptrNilF p1 (.inl rfl) false rfl rfl TF.ptr_97 hb56 rfl ?_)
  refine au 6 rfl ?_
  refine znil s rfl rfl fun A57 s => ?_
  refine au 1 rfl ?_
  refine zl s rfl rfl TF.agg_3 fun i59 s => ?_
  refine zt s rfl rfl rfl binI_geq_t binI_geq_f (fun s => ?_) fun s => ?_
  ·refine au 7 rfl ?_
   exact zr (s.imp fun _ q => ⟨_, rfl, q⟩)
  ·refine au 5 rfl ?_
   exact Run.of_fin (s.imp fun h' s => j4 _ _ ⟨⟨rfl, rfl, trivial⟩, s⟩)
theorem C_world_image.of {B : RO} {i1 : Int} {p2 : Option Addr} {h : Heap} {Q : ByteArray → Heap → Prop} (s : S_world_image B i1 p2 h Q) : C_world_image B i1 p2 h Q := by
 refine zspec Try.func38 [ResultVar.tmp 4] rfl rfl rfl rfl rfl ?_
 refine au 6 rfl ?_
 refine zg rfl (sem_buildSL [] [(.slice none 0 0)] TF.zero_152 TF.places_152 rfl rfl ?_)
 refine zbn s rfl rfl rfl fun k4 h5 s => ?_
 refine au 6 rfl ?_
 refine zg rfl (sem_buildSliceL [(0, (.int .i64 (i1)))] [(.int .i64 (i1))] TF.slc_119 TF.zero_3 rfl (by decide) (by decide) rfl rfl (fun k6 hb1 hb2 h7 hb3 => ?_))
 have s := s k6 hb1 hb2 h7 hb3
 refine zcall s rfl rfl TF.goes_65 ?_
 rintro _ h8 ⟨rfl, s⟩
 refine au 5 rfl ?_
 refine zcall s rfl rfl TF.goes_72 ?_
 rintro _ h9 ⟨s10, rfl, s⟩
 refine zcall s rfl rfl TF.goes_66 ?_
 rintro _ h11 ⟨rfl, s⟩
 refine au 4 rfl ?_
 refine zcall s rfl rfl TF.goes_67 ?_
 rintro _ h12 ⟨s13, rfl, s⟩
 refine au 2 rfl ?_
 exact zr (s.imp fun _ q => ⟨_, rfl, q⟩)
theorem C_attempt_NewView.of {B : RO} {h : Heap} {Q : Option Addr → Heap → Prop} (s : S_attempt_NewView B h Q) : C_attempt_NewView B h Q := by
 refine zspec Try.func39 [ResultVar.tmp 0] rfl rfl rfl rfl rfl ?_
 refine au 6 rfl ?_
 refine zcall s rfl rfl TF.goes_73 ?_
 rintro _ h2 ⟨p3, rfl, s⟩
 refine zcall s rfl rfl TF.goes_56 ?_
 rintro _ h4 ⟨p5, rfl, s⟩
 refine zcall s rfl rfl TF.goes_74 ?_
 rintro _ h6 ⟨p7, rfl, s⟩
 refine zg rfl (sem_buildSL [(0, (.pointer p3)), (1, (.pointer p5)), (2, (.pointer p7))] [(.pointer p3), (.pointer p5), (.pointer p7), (.int .i64 (0))] TF.zero_44 TF.places_44 rfl rfl ?_)
 refine zbn s rfl rfl rfl fun k8 h9 s => ?_
 refine au 2 rfl ?_
 exact zr (s.imp fun _ q => ⟨_, rfl, q⟩)
theorem C_wire_New.of {B : RO} {h : Heap} {Q : Option Addr → Heap → Prop} (s : S_wire_New B h Q) : C_wire_New B h Q := by
 refine zspec Try.func40 [ResultVar.tmp 0] rfl rfl rfl rfl rfl ?_
 refine au 6 rfl ?_
 refine zg rfl (sem_buildSL [] [(.string ByteArray.empty), (.string ByteArray.empty), (.string ByteArray.empty), (.string ByteArray.empty), (.string ByteArray.empty), (.string ByteArray.empty), (.string ByteArray.empty), (.string ByteArray.empty), (.string ByteArray.empty)] TF.zero_160 TF.places_160 rfl rfl ?_)
 refine zbn s rfl rfl rfl fun k2 h3 s => ?_
 refine au 2 rfl ?_
 exact zr (s.imp fun _ q => ⟨_, rfl, q⟩)
theorem C_token_New.of {B : RO} {h : Heap} {Q : Option Addr → Heap → Prop} (s : S_token_New B h Q) : C_token_New B h Q := by
 refine zspec Try.func41 [ResultVar.tmp 0] rfl rfl rfl rfl rfl ?_
 refine au 6 rfl ?_
 refine zg rfl (sem_buildSL [(0, (.int .i64 ((-1)))), (2, (.int .i64 ((-1))))] [(.int .i64 ((-1))), (.bool false), (.int .i64 ((-1)))] TF.zero_126 TF.places_126 rfl rfl ?_)
 refine zbn s rfl rfl rfl fun k2 h3 s => ?_
 refine au 2 rfl ?_
 exact zr (s.imp fun _ q => ⟨_, rfl, q⟩)
theorem C_slices_Clone_s_world_Note_world_Note.of {B : RO} {a1 : Option Addr} {n2 : Nat} {c3 : Nat} {h : Heap} {Q : Option Addr → Nat → Nat → Heap → Prop} (s : S_slices_Clone_s_world_Note_world_Note B a1 n2 c3 h Q) : C_slices_Clone_s_world_Note_world_Note B a1 n2 c3 h Q := by
 refine zspec Try.func44 [ResultVar.tmp 2] rfl rfl rfl rfl rfl ?_
 refine au 8 rfl ?_
 by_cases hb7 : a1 = none
 ·replace s := s.1 hb7
  refine zg rfl (sem_slNilT (a1) (n2) (c3) (.inl rfl) true rfl rfl TF.sl_49 hb7 rfl ?_)
  refine au 6 rfl ?_
  exact zr (s.imp fun _ q => ⟨_, _, _, rfl, q⟩)
 ·replace s := s.2 hb7
  refine zg rfl (sem_slNilF (a1) (n2) (c3) (.inl rfl) false rfl rfl TF.sl_49 hb7 rfl ?_)
  refine au 5 rfl ?_
  refine zg rfl (sem_buildSlice0N TF.slc_49 (fun k8 hb1 hb2 h9 hb3 => ?_))
  have s := s k8 hb1 hb2 h9 hb3
  refine au 1 rfl ?_
  refine zg rfl (sem_appendL [(.slice (some ⟨k8, 0, none⟩) 0 0), (.slice a1 n2 c3)] rfl (semH_mono (fun v h10 hv => ?_) s))
  obtain ⟨a11, n12, c13, rfl, s⟩ := hv
  refine au 2 rfl ?_
  exact zr (s.imp fun _ q => ⟨_, _, _, rfl, q⟩)
theorem C_disk_Disk_land.of {B : RO} {p1 : Option Addr} {i2 : Int} {b3 : Bool} {s4 : ByteArray} {h : Heap} {Q : Heap → Prop} (s : S_disk_Disk_land B p1 i2 b3 s4 h Q) : C_disk_Disk_land B p1 i2 b3 s4 h Q := by
 refine zspec Try.func45 [] rfl rfl rfl rfl rfl ?_
 refine au 2 rfl ?_
 refine zbn s rfl rfl rfl fun k5 h6 s => ?_
 refine au 4 rfl ?_
 refine zl s rfl rfl TF.agg_4 fun b7 s => ?_
 cases b7
 ·replace s := s.2 rfl
  refine au 2 rfl ?_
  refine Run.drawM (fun h' => h' = h6) [15] ⟨[0, 0, 2, 1, 8, 20, 32, 64, 0, 256, 640, 1, 2048, 6143, 10239, 18431], [65535, 65535, 65533, 65534, 65527, 65515, 65503, 65471, 65535, 65279, 64895, 65534, 63487, 61435, 57343, 48127], [0, 0, 2, 1, 9, 31, 63, 127, 0, 256, 1023, 1, 2049, 8191, 16383, 32767], 32768⟩ (.q 0 (.q 1 (.q 2 (.q 3 (.q 4 (.q 5 (.q 6 (.q 7 (.q 8 (.q 9 (.q 10 (.q 11 (.q 12 (.q 13 (.q 14 (.x 15 .nil .no)))))))))))))))) TF.mixed (by kernel_rfl) rfl ?_
  refine auT 2 rfl ?_
  obtain ⟨i8, hl, s⟩ := s
  refine zqe rfl (sem_load1 ⟨k5, 0, none⟩ ((.int .i64 (i8))) rfl TF.agg_3 hl ⟨rfl, rfl⟩) ?_
  obtain ⟨A9, e10, s⟩ := s
  refine zqe rfl (sem_nilCheck A9 (congrArg Value.pointer e10) ⟨rfl, rfl⟩) ?_
  refine auT 1 rfl ?_
  obtain ⟨hi0, hi1, s⟩ := s
  refine zqe rfl (sem_indexAddrA A9 .i64 (i8) rfl rfl TF.arr_82 hi0 hi1 ⟨rfl, rfl⟩) ?_
  refine auT 1 rfl ?_
  obtain ⟨s11, hl, s⟩ := s
  refine zqe rfl (sem_load1 (Addr.add (Addr.add A9 (Int.toNat (i8) * 2)) 1) ((.string s11)) rfl TF.agg_9 hl ⟨rfl, rfl⟩) ?_
  refine auT 1 rfl ?_
  obtain ⟨s12, hl, s⟩ := s
  refine zqe rfl (sem_load1 ⟨k5, 2, none⟩ ((.string s12)) rfl TF.agg_9 hl ⟨rfl, rfl⟩) ?_
  obtain ⟨hi0, s⟩ := s
  refine zqe rfl (sem_strAdd s11 s12 rfl rfl hi0 ⟨rfl, rfl⟩) ?_
  obtain ⟨A13, e14, s⟩ := s
  refine zqe rfl (sem_nilCheck A13 (congrArg Value.pointer e14) ⟨rfl, rfl⟩) ?_
  refine auT 1 rfl ?_
  obtain ⟨hi0, hi1, s⟩ := s
  refine zqe rfl (sem_indexAddrA A13 .i64 (i8) rfl rfl TF.arr_82 hi0 hi1 ⟨rfl, rfl⟩) ?_
  refine auT 1 rfl ?_
  obtain ⟨h15, hst, s⟩ := s
  refine ⟨zo0 rfl (sem_store1 (Addr.add (Addr.add A13 (Int.toNat (i8) * 2)) 1) ((.string (s11 ++ s12))) h15 rfl rfl rfl TF.sz_9 hst ?_), trivial⟩
  refine ⟨fun hz => Bool.noConfusion hz, ?_⟩
  exact zf (s.imp fun _ q => ⟨rfl, q⟩)
 ·replace s := s.1 rfl
  refine au 2 rfl ?_
  refine Run.drawM (fun h' => h' = h6) [7] ⟨[0, 0, 2, 1, 8, 23, 39, 71], [255, 255, 253, 254, 247, 235, 223, 191], [0, 0, 2, 1, 9, 31, 63, 127], 128⟩ (.q 0 (.q 1 (.q 2 (.q 3 (.q 4 (.q 5 (.q 6 (.x 7 .nil .no)))))))) TF.mixed (by kernel_rfl) rfl ?_
  refine auT 2 rfl ?_
  obtain ⟨i16, hl, s⟩ := s
  refine zqe rfl (sem_load1 ⟨k5, 0, none⟩ ((.int .i64 (i16))) rfl TF.agg_3 hl ⟨rfl, rfl⟩) ?_
  obtain ⟨A17, e18, s⟩ := s
  refine zqe rfl (sem_nilCheck A17 (congrArg Value.pointer e18) ⟨rfl, rfl⟩) ?_
  refine auT 1 rfl ?_
  obtain ⟨hi0, hi1, s⟩ := s
  refine zqe rfl (sem_indexAddrA A17 .i64 (i16) rfl rfl TF.arr_82 hi0 hi1 ⟨rfl, rfl⟩) ?_
  refine auT 1 rfl ?_
  obtain ⟨h19, hst, s⟩ := s
  refine ⟨zo0 rfl (sem_store1 (Addr.add (Addr.add A17 (Int.toNat (i16) * 2)) 1) ((.string (ByteArray.mk #[]))) h19 rfl rfl rfl TF.sz_9 hst ?_), trivial⟩
  refine ⟨fun hz => Bool.noConfusion hz, ?_⟩
  exact zf (s.imp fun _ q => ⟨rfl, q⟩)
theorem C_wire_Wire_Push.of {B : RO} {p1 : Option Addr} {i2 : Int} {s3 : ByteArray} {h : Heap} {Q : Bool → Heap → Prop} (s : S_wire_Wire_Push B p1 i2 s3 h Q) : C_wire_Wire_Push B p1 i2 s3 h Q := by
 refine zspec Try.func46 [ResultVar.tmp 6] rfl rfl rfl rfl rfl ?_
 refine au 8 rfl ?_
 refine zcall s rfl rfl TF.goes_50 ?_
 rintro _ h5 ⟨p6, rfl, s⟩
 refine au 6 rfl ?_
 by_cases hb7 : p6 = none
 ·replace s := s.1 hb7
  refine zg rfl (sem_ptrNilT p6 (.inl rfl) true rfl rfl TF.ptr_121 hb7 rfl ?_)
  refine au 6 rfl ?_
  exact zr (s.imp fun _ q => ⟨_, rfl, q⟩)
 ·replace s := s.2 hb7
  refine zg rfl (sem_ptrNilF p6 (.inl rfl) false rfl rfl TF.ptr_121 hb7 rfl ?_)
  refine au 6 rfl ?_
  refine znil s rfl rfl fun A8 s => ?_
  refine au 1 rfl ?_
  refine zl s rfl rfl TF.agg_9 fun s10 s => ?_
  refine au 1 rfl ?_
  obtain ⟨hi0, s⟩ := s
  refine zg rfl (sem_strAdd s10 s3 rfl rfl hi0 ?_)
  refine znil s rfl rfl fun A11 s => ?_
  refine au 1 rfl ?_
  refine zs1 s rfl rfl rfl rfl TF.sz_9 fun h13 s => ?_
  refine au 5 rfl ?_
  exact zr (s.imp fun _ q => ⟨_, rfl, q⟩)
theorem C_vault_Vault_Size.of {B : RO} {p1 : Option Addr} {h : Heap} {Q : Int → Heap → Prop} (s : S_vault_Vault_Size B p1 h Q) : C_vault_Vault_Size B p1 h Q := by
 refine zspec Try.func47 [ResultVar.tmp 2] rfl rfl rfl rfl rfl ?_
 refine au 8 rfl ?_
 by_cases hb3 : p1 = none
 ·replace s := s.1 hb3
  refine zg rfl (sem_ptrNilT p1 (.inl rfl) true rfl rfl TF.ptr_97 hb3 rfl ?_)
  refine au 6 rfl ?_
  exact zr (s.imp fun _ q => ⟨_, rfl, q⟩)
 ·replace s := s.2 hb3
  refine zg rfl (sem_ptrNilF p1 (.inl rfl) false rfl rfl TF.ptr_97 hb3 rfl ?_)
  refine au 6 rfl ?_
  refine znil s rfl rfl fun A4 s => ?_
  refine au 1 rfl ?_
  refine zl s rfl rfl TF.agg_133 fun p6 s => ?_
  refine zcall s rfl rfl TF.goes_77 ?_
  rintro _ h7 ⟨i8, rfl, s⟩
  refine au 2 rfl ?_
  exact zr (s.imp fun _ q => ⟨_, rfl, q⟩)
end Go.Proofs.Ytlehephbflgblaa.H
