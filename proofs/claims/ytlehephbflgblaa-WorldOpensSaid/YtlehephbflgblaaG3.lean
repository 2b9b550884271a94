/- What the law's proof stands on, part 3. No condition. -/
import Derived.Test.YtlehephbflgblaaProg
import Derived.KernelRfl
import Derived.Test.YtlehephbflgblaaG2
namespace Go.Proofs.Ytlehephbflgblaa.H
open Go
set_option linter.unusedVariables false
set_option maxRecDepth 100000
set_option maxHeartbeats 4000000
noncomputable abbrev PG : Program := Go.Proofs.Try.prog
abbrev TY.int : TypeId := 3
abbrev TY.bool : TypeId := 4
abbrev TY.uint8 : TypeId := 5
abbrev TY.string : TypeId := 9
abbrev TY.countermandref09_File : TypeId := 28
abbrev TY.a_6_countermandref09_File : TypeId := 29
abbrev TY.s_string : TypeId := 35
abbrev TY.p_tome_Tome : TypeId := 41
abbrev TY.attempt_View : TypeId := 44
abbrev TY.a_4_int : TypeId := 47
abbrev TY.s_world_Note : TypeId := 49
abbrev TY.acts_Open : TypeId := 59
abbrev TY.s_uint8 : TypeId := 63
abbrev TY.world_Note : TypeId := 66
abbrev TY.draft_Draft_file_File : TypeId := 72
abbrev TY.s_disk_change : TypeId := 83
abbrev TY.disk_Disk : TypeId := 85
abbrev TY.disk_change : TypeId := 87
abbrev TY.s_countermandref18_Change : TypeId := 93
abbrev TY.vault_Found : TypeId := 99
abbrev TY.world_World : TypeId := 109
abbrev TY.file_File : TypeId := 111
abbrev TY.token_Token : TypeId := 126
abbrev TY.countermandref18_Change : TypeId := 132
abbrev TY.p_wal_Log : TypeId := 133
abbrev TY.vault_Vault : TypeId := 135
abbrev TY.s_redo_Change : TypeId := 146
abbrev TY.p_stylus_Stylus : TypeId := 150
abbrev TY.stylus_Stylus : TypeId := 152
abbrev TY.wire_Wire : TypeId := 160
abbrev TY.p_cell_Row_file_File : TypeId := 162
abbrev TY.tome_Tome : TypeId := 164
abbrev TY.wal_Log : TypeId := 171
abbrev TY.stylus_Reader : TypeId := 178
abbrev TY.redo_Change : TypeId := 182
abbrev TY.s_cell_slot_int : TypeId := 186
abbrev TY.cell_Row_int : TypeId := 188
abbrev TY.cell_slot_int : TypeId := 190
abbrev TY.feed_Feed : TypeId := 192
abbrev TY.cell_slot_file_File : TypeId := 196
abbrev TY.s_cell_slot_file_File : TypeId := 197
abbrev TY.cell_Row_file_File : TypeId := 199
abbrev TY.draft_entry_file_File : TypeId := 202
theorem TF.agg_111 : aggB PG 111 = some true := by kernel_rfl
theorem TF.agg_132 : aggB PG 132 = some true := by kernel_rfl
theorem TF.agg_133 : aggB PG 133 = some false := by kernel_rfl
theorem TF.agg_150 : aggB PG 150 = some false := by kernel_rfl
theorem TF.agg_162 : aggB PG 162 = some false := by kernel_rfl
theorem TF.agg_182 : aggB PG 182 = some true := by kernel_rfl
theorem TF.agg_186 : aggB PG 186 = some false := by kernel_rfl
theorem TF.agg_196 : aggB PG 196 = some true := by kernel_rfl
theorem TF.agg_197 : aggB PG 197 = some false := by kernel_rfl
theorem TF.agg_200 : aggB PG 200 = some false := by kernel_rfl
theorem TF.agg_204 : aggB PG 204 = some false := by kernel_rfl
theorem TF.agg_23 : aggB PG 23 = some false := by kernel_rfl
theorem TF.agg_28 : aggB PG 28 = some true := by kernel_rfl
theorem TF.agg_29 : aggB PG 29 = some true := by kernel_rfl
theorem TF.agg_3 : aggB PG 3 = some false := by kernel_rfl
theorem TF.agg_35 : aggB PG 35 = some false := by kernel_rfl
theorem TF.agg_4 : aggB PG 4 = some false := by kernel_rfl
theorem TF.agg_41 : aggB PG 41 = some false := by kernel_rfl
theorem TF.agg_45 : aggB PG 45 = some false := by kernel_rfl
theorem TF.agg_47 : aggB PG 47 = some true := by kernel_rfl
theorem TF.agg_49 : aggB PG 49 = some false := by kernel_rfl
theorem TF.agg_59 : aggB PG 59 = some true := by kernel_rfl
theorem TF.agg_63 : aggB PG 63 = some false := by kernel_rfl
theorem TF.agg_83 : aggB PG 83 = some false := by kernel_rfl
theorem TF.agg_87 : aggB PG 87 = some true := by kernel_rfl
theorem TF.agg_9 : aggB PG 9 = some false := by kernel_rfl
theorem TF.agg_99 : aggB PG 99 = some true := by kernel_rfl
theorem TF.arr_29 : arrB PG 29 = some (6, 28, 2, true) := by kernel_rfl
theorem TF.arr_47 : arrB PG 47 = some (4, 3, 1, false) := by kernel_rfl
theorem TF.arr_82 : arrB PG 82 = some (2, 81, 2, true) := by kernel_rfl
theorem TF.bool_4 : boolT PG 4 = true := by kernel_rfl
theorem TF.eqg_28 : eqGB PG 28 = false := by kernel_rfl
theorem TF.eqg_47 : eqGB PG 47 = false := by kernel_rfl
theorem TF.flat_28 : flat6B PG 28 = some [.bool, .str] := by kernel_rfl
theorem TF.flat_47 : flat6B PG 47 = some [.int .i64, .int .i64, .int .i64, .int .i64] := by kernel_rfl
theorem TF.goes_10 : Goes PG 10 := ⟨Try.f10, Try.func10, by kernel_rfl, by kernel_rfl⟩
theorem TF.goes_100 : Goes PG 100 := ⟨Try.f100, Try.func100, by kernel_rfl, by kernel_rfl⟩
theorem TF.goes_101 : Goes PG 101 := ⟨Try.f101, Try.func101, by kernel_rfl, by kernel_rfl⟩
theorem TF.goes_102 : Goes PG 102 := ⟨Try.f102, Try.func102, by kernel_rfl, by kernel_rfl⟩
theorem TF.goes_103 : Goes PG 103 := ⟨Try.f103, Try.func103, by kernel_rfl, by kernel_rfl⟩
theorem TF.goes_104 : Goes PG 104 := ⟨Try.f104, Try.func104, by kernel_rfl, by kernel_rfl⟩
theorem TF.goes_105 : Goes PG 105 := ⟨Try.f105, Try.func105, by kernel_rfl, by kernel_rfl⟩
theorem TF.goes_106 : Goes PG 106 := ⟨Try.f106, Try.func106, by kernel_rfl, by kernel_rfl⟩
theorem TF.goes_107 : Goes PG 107 := ⟨Try.f107, Try.func107, by kernel_rfl, by kernel_rfl⟩
theorem TF.goes_108 : Goes PG 108 := ⟨Try.f108, Try.func108, by kernel_rfl, by kernel_rfl⟩
theorem TF.goes_11 : Goes PG 11 := ⟨Try.f11, Try.func11, by kernel_rfl, by kernel_rfl⟩
theorem TF.goes_12 : Goes PG 12 := ⟨Try.f12, Try.func12, by kernel_rfl, by kernel_rfl⟩
theorem TF.goes_13 : Goes PG 13 := ⟨Try.f13, Try.func13, by kernel_rfl, by kernel_rfl⟩
theorem TF.goes_14 : Goes PG 14 := ⟨Try.f14, Try.func14, by kernel_rfl, by kernel_rfl⟩
theorem TF.goes_15 : Goes PG 15 := ⟨Try.f15, Try.func15, by kernel_rfl, by kernel_rfl⟩
theorem TF.goes_16 : Goes PG 16 := ⟨Try.f16, Try.func16, by kernel_rfl, by kernel_rfl⟩
theorem TF.goes_17 : Goes PG 17 := ⟨Try.f17, Try.func17, by kernel_rfl, by kernel_rfl⟩
theorem TF.goes_18 : Goes PG 18 := ⟨Try.f18, Try.func18, by kernel_rfl, by kernel_rfl⟩
theorem TF.goes_23 : Goes PG 23 := ⟨Try.f23, Try.func23, by kernel_rfl, by kernel_rfl⟩
theorem TF.goes_29 : Goes PG 29 := ⟨Try.f29, Try.func29, by kernel_rfl, by kernel_rfl⟩
theorem TF.goes_3 : Goes PG 3 := ⟨Try.f3, Try.func3, by kernel_rfl, by kernel_rfl⟩
theorem TF.goes_30 : Goes PG 30 := ⟨Try.f30, Try.func30, by kernel_rfl, by kernel_rfl⟩
theorem TF.goes_31 : Goes PG 31 := ⟨Try.f31, Try.func31, by kernel_rfl, by kernel_rfl⟩
theorem TF.goes_32 : Goes PG 32 := ⟨Try.f32, Try.func32, by kernel_rfl, by kernel_rfl⟩
theorem TF.goes_33 : Goes PG 33 := ⟨Try.f33, Try.func33, by kernel_rfl, by kernel_rfl⟩
theorem TF.goes_34 : Goes PG 34 := ⟨Try.f34, Try.func34, by kernel_rfl, by kernel_rfl⟩
theorem TF.goes_35 : Goes PG 35 := ⟨Try.f35, Try.func35, by kernel_rfl, by kernel_rfl⟩
theorem TF.goes_36 : Goes PG 36 := ⟨Try.f36, Try.func36, by kernel_rfl, by kernel_rfl⟩
theorem TF.goes_37 : Goes PG 37 := ⟨Try.f37, Try.func37, by kernel_rfl, by kernel_rfl⟩
theorem TF.goes_38 : Goes PG 38 := ⟨Try.f38, Try.func38, by kernel_rfl, by kernel_rfl⟩
theorem TF.goes_39 : Goes PG 39 := ⟨Try.f39, Try.func39, by kernel_rfl, by kernel_rfl⟩
theorem TF.goes_40 : Goes PG 40 := ⟨Try.f40, Try.func40, by kernel_rfl, by kernel_rfl⟩
theorem TF.goes_41 : Goes PG 41 := ⟨Try.f41, Try.func41, by kernel_rfl, by kernel_rfl⟩
theorem TF.goes_42 : Goes PG 42 := ⟨Try.f42, Try.func42, by kernel_rfl, by kernel_rfl⟩
theorem TF.goes_43 : Goes PG 43 := ⟨Try.f43, Try.func43, by kernel_rfl, by kernel_rfl⟩
theorem TF.goes_44 : Goes PG 44 := ⟨Try.f44, Try.func44, by kernel_rfl, by kernel_rfl⟩
theorem TF.goes_45 : Goes PG 45 := ⟨Try.f45, Try.func45, by kernel_rfl, by kernel_rfl⟩
theorem TF.goes_5 : Goes PG 5 := ⟨Try.f5, Try.func5, by kernel_rfl, by kernel_rfl⟩
theorem TF.goes_52 : Goes PG 52 := ⟨Try.f52, Try.func52, by kernel_rfl, by kernel_rfl⟩
theorem TF.goes_53 : Goes PG 53 := ⟨Try.f53, Try.func53, by kernel_rfl, by kernel_rfl⟩
theorem TF.goes_54 : Goes PG 54 := ⟨Try.f54, Try.func54, by kernel_rfl, by kernel_rfl⟩
theorem TF.goes_55 : Goes PG 55 := ⟨Try.f55, Try.func55, by kernel_rfl, by kernel_rfl⟩
theorem TF.goes_56 : Goes PG 56 := ⟨Try.f56, Try.func56, by kernel_rfl, by kernel_rfl⟩
theorem TF.goes_57 : Goes PG 57 := ⟨Try.f57, Try.func57, by kernel_rfl, by kernel_rfl⟩
theorem TF.goes_58 : Goes PG 58 := ⟨Try.f58, Try.func58, by kernel_rfl, by kernel_rfl⟩
theorem TF.goes_59 : Goes PG 59 := ⟨Try.f59, Try.func59, by kernel_rfl, by kernel_rfl⟩
theorem TF.goes_6 : Goes PG 6 := ⟨Try.f6, Try.func6, by kernel_rfl, by kernel_rfl⟩
theorem TF.goes_60 : Goes PG 60 := ⟨Try.f60, Try.func60, by kernel_rfl, by kernel_rfl⟩
theorem TF.goes_61 : Goes PG 61 := ⟨Try.f61, Try.func61, by kernel_rfl, by kernel_rfl⟩
theorem TF.goes_62 : Goes PG 62 := ⟨Try.f62, Try.func62, by kernel_rfl, by kernel_rfl⟩
theorem TF.goes_63 : Goes PG 63 := ⟨Try.f63, Try.func63, by kernel_rfl, by kernel_rfl⟩
theorem TF.goes_64 : Goes PG 64 := ⟨Try.f64, Try.func64, by kernel_rfl, by kernel_rfl⟩
theorem TF.goes_65 : Goes PG 65 := ⟨Try.f65, Try.func65, by kernel_rfl, by kernel_rfl⟩
theorem TF.goes_66 : Goes PG 66 := ⟨Try.f66, Try.func66, by kernel_rfl, by kernel_rfl⟩
theorem TF.goes_67 : Goes PG 67 := ⟨Try.f67, Try.func67, by kernel_rfl, by kernel_rfl⟩
theorem TF.goes_68 : Goes PG 68 := ⟨Try.f68, Try.func68, by kernel_rfl, by kernel_rfl⟩
theorem TF.goes_69 : Goes PG 69 := ⟨Try.f69, Try.func69, by kernel_rfl, by kernel_rfl⟩
theorem TF.goes_7 : Goes PG 7 := ⟨Try.f7, Try.func7, by kernel_rfl, by kernel_rfl⟩
theorem TF.goes_70 : Goes PG 70 := ⟨Try.f70, Try.func70, by kernel_rfl, by kernel_rfl⟩
theorem TF.goes_71 : Goes PG 71 := ⟨Try.f71, Try.func71, by kernel_rfl, by kernel_rfl⟩
theorem TF.goes_72 : Goes PG 72 := ⟨Try.f72, Try.func72, by kernel_rfl, by kernel_rfl⟩
theorem TF.goes_73 : Goes PG 73 := ⟨Try.f73, Try.func73, by kernel_rfl, by kernel_rfl⟩
theorem TF.goes_74 : Goes PG 74 := ⟨Try.f74, Try.func74, by kernel_rfl, by kernel_rfl⟩
theorem TF.goes_75 : Goes PG 75 := ⟨Try.f75, Try.func75, by kernel_rfl, by kernel_rfl⟩
theorem TF.goes_76 : Goes PG 76 := ⟨Try.f76, Try.func76, by kernel_rfl, by kernel_rfl⟩
theorem TF.goes_79 : Goes PG 79 := ⟨Try.f79, Try.func79, by kernel_rfl, by kernel_rfl⟩
theorem TF.goes_8 : Goes PG 8 := ⟨Try.f8, Try.func8, by kernel_rfl, by kernel_rfl⟩
theorem TF.goes_80 : Goes PG 80 := ⟨Try.f80, Try.func80, by kernel_rfl, by kernel_rfl⟩
theorem TF.goes_81 : Goes PG 81 := ⟨Try.f81, Try.func81, by kernel_rfl, by kernel_rfl⟩
theorem TF.goes_82 : Goes PG 82 := ⟨Try.f82, Try.func82, by kernel_rfl, by kernel_rfl⟩
theorem TF.goes_83 : Goes PG 83 := ⟨Try.f83, Try.func83, by kernel_rfl, by kernel_rfl⟩
theorem TF.goes_84 : Goes PG 84 := ⟨Try.f84, Try.func84, by kernel_rfl, by kernel_rfl⟩
theorem TF.goes_85 : Goes PG 85 := ⟨Try.f85, Try.func85, by kernel_rfl, by kernel_rfl⟩
theorem TF.goes_86 : Goes PG 86 := ⟨Try.f86, Try.func86, by kernel_rfl, by kernel_rfl⟩
theorem TF.goes_87 : Goes PG 87 := ⟨Try.f87, Try.func87, by kernel_rfl, by kernel_rfl⟩
theorem TF.goes_88 : Goes PG 88 := ⟨Try.f88, Try.func88, by kernel_rfl, by kernel_rfl⟩
theorem TF.goes_89 : Goes PG 89 := ⟨Try.f89, Try.func89, by kernel_rfl, by kernel_rfl⟩
theorem TF.goes_9 : Goes PG 9 := ⟨Try.f9, Try.func9, by kernel_rfl, by kernel_rfl⟩
theorem TF.goes_90 : Goes PG 90 := ⟨Try.f90, Try.func90, by kernel_rfl, by kernel_rfl⟩
theorem TF.goes_91 : Goes PG 91 := ⟨Try.f91, Try.func91, by kernel_rfl, by kernel_rfl⟩
theorem TF.goes_92 : Goes PG 92 := ⟨Try.f92, Try.func92, by kernel_rfl, by kernel_rfl⟩
theorem TF.goes_93 : Goes PG 93 := ⟨Try.f93, Try.func93, by kernel_rfl, by kernel_rfl⟩
theorem TF.goes_94 : Goes PG 94 := ⟨Try.f94, Try.func94, by kernel_rfl, by kernel_rfl⟩
theorem TF.goes_96 : Goes PG 96 := ⟨Try.f96, Try.func96, by kernel_rfl, by kernel_rfl⟩
theorem TF.goes_97 : Goes PG 97 := ⟨Try.f97, Try.func97, by kernel_rfl, by kernel_rfl⟩
theorem TF.goes_98 : Goes PG 98 := ⟨Try.f98, Try.func98, by kernel_rfl, by kernel_rfl⟩
theorem TF.goes_99 : Goes PG 99 := ⟨Try.f99, Try.func99, by kernel_rfl, by kernel_rfl⟩
theorem TF.int_207 : intB PG 207 = some .u32 := by kernel_rfl
theorem TF.int_3 : intB PG 3 = some .i64 := by kernel_rfl
theorem TF.int_5 : intB PG 5 = some .u8 := by kernel_rfl
theorem TF.int_88 : intB PG 88 = some .u64 := by kernel_rfl
theorem TF.isStr_9 : isStr PG 9 = true := by kernel_rfl
theorem TF.mixed : PG.follows .mixedOrders = true := by kernel_rfl
theorem TF.places_109 : strPlaces PG 109 = some [(0, 1), (1, 1), (2, 1), (3, 1), (4, 1), (5, 4), (9, 1), (10, 1), (11, 1)] := by kernel_rfl
theorem TF.places_111 : strPlaces PG 111 = some [(0, 1), (1, 1)] := by kernel_rfl
theorem TF.places_126 : strPlaces PG 126 = some [(0, 1), (1, 1), (2, 1)] := by kernel_rfl
theorem TF.places_132 : strPlaces PG 132 = some [(0, 1), (1, 2)] := by kernel_rfl
theorem TF.places_135 : strPlaces PG 135 = some [(0, 1), (1, 1), (2, 1), (3, 1)] := by kernel_rfl
theorem TF.places_152 : strPlaces PG 152 = some [(0, 1)] := by kernel_rfl
theorem TF.places_160 : strPlaces PG 160 = some [(0, 9)] := by kernel_rfl
theorem TF.places_164 : strPlaces PG 164 = some [(0, 1)] := by kernel_rfl
theorem TF.places_171 : strPlaces PG 171 = some [(0, 1), (1, 1), (2, 1), (3, 1)] := by kernel_rfl
theorem TF.places_178 : strPlaces PG 178 = some [(0, 1), (1, 1)] := by kernel_rfl
theorem TF.places_182 : strPlaces PG 182 = some [(0, 1), (1, 2)] := by kernel_rfl
theorem TF.places_188 : strPlaces PG 188 = some [(0, 1)] := by kernel_rfl
theorem TF.places_190 : strPlaces PG 190 = some [(0, 1), (1, 1)] := by kernel_rfl
theorem TF.places_192 : strPlaces PG 192 = some [(0, 3), (3, 1)] := by kernel_rfl
theorem TF.places_196 : strPlaces PG 196 = some [(0, 2), (2, 1)] := by kernel_rfl
theorem TF.places_199 : strPlaces PG 199 = some [(0, 1)] := by kernel_rfl
theorem TF.places_28 : strPlaces PG 28 = some [(0, 1), (1, 1)] := by kernel_rfl
theorem TF.places_44 : strPlaces PG 44 = some [(0, 1), (1, 1), (2, 1), (3, 1)] := by kernel_rfl
theorem TF.places_59 : strPlaces PG 59 = some [(0, 1), (1, 1)] := by kernel_rfl
theorem TF.places_85 : strPlaces PG 85 = some [(0, 4), (4, 1)] := by kernel_rfl
theorem TF.places_87 : strPlaces PG 87 = some [(0, 1), (1, 1), (2, 1)] := by kernel_rfl
theorem TF.places_99 : strPlaces PG 99 = some [(0, 1), (1, 1)] := by kernel_rfl
theorem TF.ptr_133 : ptrB PG 133 = true := by kernel_rfl
theorem TF.ptr_141 : ptrB PG 141 = true := by kernel_rfl
theorem TF.ptr_162 : ptrB PG 162 = true := by kernel_rfl
theorem TF.ptr_23 : ptrB PG 23 = true := by kernel_rfl
theorem TF.ptr_32 : ptrB PG 32 = true := by kernel_rfl
theorem TF.ptr_41 : ptrB PG 41 = true := by kernel_rfl
theorem TF.ptr_97 : ptrB PG 97 = true := by kernel_rfl
theorem TF.sl_116 : slT PG 116 = true := by kernel_rfl
theorem TF.sl_119 : slT PG 119 = true := by kernel_rfl
theorem TF.sl_128 : slT PG 128 = true := by kernel_rfl
theorem TF.sl_146 : slT PG 146 = true := by kernel_rfl
theorem TF.sl_197 : slT PG 197 = true := by kernel_rfl
theorem TF.sl_35 : slT PG 35 = true := by kernel_rfl
theorem TF.sl_49 : slT PG 49 = true := by kernel_rfl
theorem TF.sl_83 : slT PG 83 = true := by kernel_rfl
theorem TF.sl_93 : slT PG 93 = true := by kernel_rfl
theorem TF.slc_116 : slcB PG 116 = some (59, 2, 16) := by kernel_rfl
theorem TF.slc_119 : slcB PG 119 = some (3, 1, 8) := by kernel_rfl
theorem TF.slc_128 : slcB PG 128 = some (28, 2, 24) := by kernel_rfl
theorem TF.slc_146 : slcB PG 146 = some (182, 3, 32) := by kernel_rfl
theorem TF.slc_186 : slcB PG 186 = some (190, 2, 16) := by kernel_rfl
theorem TF.slc_197 : slcB PG 197 = some (196, 3, 32) := by kernel_rfl
theorem TF.slc_35 : slcB PG 35 = some (9, 1, 16) := by kernel_rfl
theorem TF.slc_49 : slcB PG 49 = some (66, 2, 16) := by kernel_rfl
theorem TF.slc_63 : slcB PG 63 = some (5, 1, 1) := by kernel_rfl
theorem TF.slc_83 : slcB PG 83 = some (87, 3, 32) := by kernel_rfl
theorem TF.slc_93 : slcB PG 93 = some (132, 3, 32) := by kernel_rfl
theorem TF.sz_111 : szB PG 111 = some 2 := by kernel_rfl
theorem TF.sz_132 : szB PG 132 = some 3 := by kernel_rfl
theorem TF.sz_133 : szB PG 133 = some 1 := by kernel_rfl
theorem TF.sz_150 : szB PG 150 = some 1 := by kernel_rfl
theorem TF.sz_182 : szB PG 182 = some 3 := by kernel_rfl
theorem TF.sz_186 : szB PG 186 = some 1 := by kernel_rfl
theorem TF.sz_196 : szB PG 196 = some 3 := by kernel_rfl
theorem TF.sz_197 : szB PG 197 = some 1 := by kernel_rfl
theorem TF.sz_28 : szB PG 28 = some 2 := by kernel_rfl
theorem TF.sz_29 : szB PG 29 = some 12 := by kernel_rfl
theorem TF.sz_3 : szB PG 3 = some 1 := by kernel_rfl
theorem TF.sz_35 : szB PG 35 = some 1 := by kernel_rfl
theorem TF.sz_4 : szB PG 4 = some 1 := by kernel_rfl
theorem TF.sz_41 : szB PG 41 = some 1 := by kernel_rfl
theorem TF.sz_47 : szB PG 47 = some 4 := by kernel_rfl
theorem TF.sz_59 : szB PG 59 = some 2 := by kernel_rfl
theorem TF.sz_63 : szB PG 63 = some 1 := by kernel_rfl
theorem TF.sz_83 : szB PG 83 = some 1 := by kernel_rfl
theorem TF.sz_87 : szB PG 87 = some 3 := by kernel_rfl
theorem TF.sz_9 : szB PG 9 = some 1 := by kernel_rfl
theorem TF.sz_99 : szB PG 99 = some 2 := by kernel_rfl
theorem TF.zero_109 : zeroB PG 109 = some [(Value.pointer none), (Value.pointer none), (Value.pointer none), (Value.pointer none), (Value.pointer none), (Value.int .i64 (0)), (Value.int .i64 (0)), (Value.int .i64 (0)), (Value.int .i64 (0)), (Value.slice none 0 0), (Value.int .i64 (0)), (Value.int .i64 (0))] := by kernel_rfl
theorem TF.zero_111 : zeroB PG 111 = some [(Value.bool false), (Value.string ByteArray.empty)] := by kernel_rfl
theorem TF.zero_126 : zeroB PG 126 = some [(Value.int .i64 (0)), (Value.bool false), (Value.int .i64 (0))] := by kernel_rfl
theorem TF.zero_132 : zeroB PG 132 = some [(Value.int .i64 (0)), (Value.bool false), (Value.string ByteArray.empty)] := by kernel_rfl
theorem TF.zero_135 : zeroB PG 135 = some [(Value.pointer none), (Value.pointer none), (Value.int .i64 (0)), (Value.bool false)] := by kernel_rfl
theorem TF.zero_150 : zeroB PG 150 = some [(Value.pointer none)] := by kernel_rfl
theorem TF.zero_152 : zeroB PG 152 = some [(Value.slice none 0 0)] := by kernel_rfl
theorem TF.zero_160 : zeroB PG 160 = some [(Value.string ByteArray.empty), (Value.string ByteArray.empty), (Value.string ByteArray.empty), (Value.string ByteArray.empty), (Value.string ByteArray.empty), (Value.string ByteArray.empty), (Value.string ByteArray.empty), (Value.string ByteArray.empty), (Value.string ByteArray.empty)] := by kernel_rfl
theorem TF.zero_164 : zeroB PG 164 = some [(Value.pointer none)] := by kernel_rfl
theorem TF.zero_171 : zeroB PG 171 = some [(Value.pointer none), (Value.int .i64 (0)), (Value.int .i64 (0)), (Value.bool false)] := by kernel_rfl
theorem TF.zero_178 : zeroB PG 178 = some [(Value.string ByteArray.empty), (Value.bool false)] := by kernel_rfl
theorem TF.zero_182 : zeroB PG 182 = some [(Value.int .i64 (0)), (Value.bool false), (Value.string ByteArray.empty)] := by kernel_rfl
theorem TF.zero_188 : zeroB PG 188 = some [(Value.slice none 0 0)] := by kernel_rfl
theorem TF.zero_190 : zeroB PG 190 = some [(Value.int .i64 (0)), (Value.int .i64 (0))] := by kernel_rfl
theorem TF.zero_192 : zeroB PG 192 = some [(Value.string ByteArray.empty), (Value.string ByteArray.empty), (Value.string ByteArray.empty), (Value.pointer none)] := by kernel_rfl
theorem TF.zero_196 : zeroB PG 196 = some [(Value.bool false), (Value.string ByteArray.empty), (Value.int .i64 (0))] := by kernel_rfl
theorem TF.zero_199 : zeroB PG 199 = some [(Value.slice none 0 0)] := by kernel_rfl
theorem TF.zero_28 : zeroB PG 28 = some [(Value.bool false), (Value.string ByteArray.empty)] := by kernel_rfl
theorem TF.zero_29 : zeroB PG 29 = some [(Value.bool false), (Value.string ByteArray.empty), (Value.bool false), (Value.string ByteArray.empty), (Value.bool false), (Value.string ByteArray.empty), (Value.bool false), (Value.string ByteArray.empty), (Value.bool false), (Value.string ByteArray.empty), (Value.bool false), (Value.string ByteArray.empty)] := by kernel_rfl
theorem TF.zero_3 : zeroB PG 3 = some [(Value.int .i64 (0))] := by kernel_rfl
theorem TF.zero_44 : zeroB PG 44 = some [(Value.pointer none), (Value.pointer none), (Value.pointer none), (Value.int .i64 (0))] := by kernel_rfl
theorem TF.zero_47 : zeroB PG 47 = some [(Value.int .i64 (0)), (Value.int .i64 (0)), (Value.int .i64 (0)), (Value.int .i64 (0))] := by kernel_rfl
theorem TF.zero_5 : zeroB PG 5 = some [(Value.int .u8 (0))] := by kernel_rfl
theorem TF.zero_59 : zeroB PG 59 = some [(Value.int .i64 (0)), (Value.int .i64 (0))] := by kernel_rfl
theorem TF.zero_85 : zeroB PG 85 = some [(Value.string ByteArray.empty), (Value.string ByteArray.empty), (Value.string ByteArray.empty), (Value.string ByteArray.empty), (Value.slice none 0 0)] := by kernel_rfl
theorem TF.zero_87 : zeroB PG 87 = some [(Value.int .i64 (0)), (Value.bool false), (Value.string ByteArray.empty)] := by kernel_rfl
theorem TF.zero_9 : zeroB PG 9 = some [(Value.string ByteArray.empty)] := by kernel_rfl
theorem TF.zero_99 : zeroB PG 99 = some [(Value.string ByteArray.empty), (Value.slice none 0 0)] := by kernel_rfl
def FT0 : FT := [(109, 0, 0), (109, 1, 1), (109, 2, 2), (109, 3, 3), (109, 4, 4), (109, 5, 5), (109, 6, 9), (109, 7, 10), (109, 8, 11), (111, 0, 0), (111, 1, 1), (124, 0, 0), (124, 1, 1), (124, 2, 2), (126, 0, 0), (126, 2, 2), (132, 0, 0), (132, 1, 1), (135, 0, 0), (135, 1, 1), (135, 2, 2), (135, 3, 3), (152, 0, 0), (160, 0, 0), (164, 0, 0), (171, 0, 0), (171, 1, 1), (171, 2, 2), (171, 3, 3), (178, 0, 0), (178, 1, 1), (182, 0, 0), (182, 1, 1), (188, 0, 0), (196, 0, 0), (196, 1, 2), (199, 0, 0), (202, 0, 0), (202, 1, 1), (28, 0, 0), (44, 1, 1), (44, 3, 3), (56, 0, 0), (56, 1, 1), (56, 2, 2), (59, 0, 0), (59, 1, 1), (62, 0, 0), (62, 1, 1), (72, 0, 0), (81, 0, 0), (81, 1, 1), (85, 0, 0), (85, 1, 4), (87, 0, 0), (87, 1, 1), (87, 2, 2), (99, 0, 0), (99, 1, 1)]
theorem FT0_ok : FTok PG FT0 := ftB_ok (by kernel_rfl)
theorem au {B : RO} {N : Nat} {e : Env} {h : Heap} {Φ : Lv → Env → Heap → Prop} (n : Nat) {t t' : List Item} {L L' : LE} (ha : aut FT0 N n t L = some (t', L')) (hr : Run PG B N t' (updL L' e) h Φ) : Run PG B N t (updL L e) h Φ := aut_run FT0_ok n ha hr
theorem auT {B : RO} {N : Nat} {k : List Item} {e : Env} {h : Heap} {Φ : Lv → Env → Heap → Prop} {ops : Array Oper} {C : Heap → Prop} {z : List Nat} (n : Nat) {t t' : Ord} {L L' : LE} (ha : autT FT0 N ops.toList n t L = some (t', L')) (hr : RunT PG B N ops k Φ C z t' (updL L' e) h) : RunT PG B N ops k Φ C z t (updL L e) h := autT_run FT0_ok n ha hr
abbrev FN.countermandlaw21_WorldOpens : FuncId := 3
abbrev FN.wal_Log_All_1 : FuncId := 97
abbrev FN.tome_Tome_All_1 : FuncId := 102
abbrev FN.wafer_All_1 : FuncId := 105
abbrev FN.cell_Row_file_File_All_1 : FuncId := 107
theorem TG.countermandlaw21_WorldOpens : Goes PG FN.countermandlaw21_WorldOpens := TF.goes_3
theorem TG.wal_Log_All_1 : Goes PG FN.wal_Log_All_1 := TF.goes_97
theorem TG.tome_Tome_All_1 : Goes PG FN.tome_Tome_All_1 := TF.goes_102
theorem TG.wafer_All_1 : Goes PG FN.wafer_All_1 := TF.goes_105
theorem TG.cell_Row_file_File_All_1 : Goes PG FN.cell_Row_file_File_All_1 := TF.goes_107
def C_countermandlaw21_WorldOpens (B : RO) (s1 : ByteArray) (s2 : ByteArray) (h : Heap) (Q : Bool → Heap → Prop) : Prop :=
  Spec PG B 3 #[(Value.string s1), (Value.string s2)] h (fun v h' => ∃ b3 : Bool, v = (Value.bool b3) ∧ Q b3 h')
def C_countermandlaw21_alive (B : RO) (h : Heap) (Q : Bool → Heap → Prop) : Prop :=
  Spec PG B 5 #[] h (fun v h' => ∃ b1 : Bool, v = (Value.bool b1) ∧ Q b1 h')
def C_disk_New (B : RO) (h : Heap) (Q : Option Addr → Heap → Prop) : Prop :=
  Spec PG B 6 #[] h (fun v h' => ∃ p1 : Option Addr, v = (Value.pointer p1) ∧ Q p1 h')
def C_disk_Disk_Append (B : RO) (p1 : Option Addr) (i2 : Int) (s3 : ByteArray) (h : Heap) (Q : Int → Heap → Prop) : Prop :=
  Spec PG B 7 #[(Value.pointer p1), (Value.int .i64 (i2)), (Value.string s3)] h (fun v h' => ∃ i4 : Int, v = (Value.int .i64 (i4)) ∧ Q i4 h')
def C_countermandref21_Opened (B : RO) (s1 : ByteArray) (s2 : ByteArray) (h : Heap) (Q : List Value → Int → Bool → Heap → Prop) : Prop :=
  Spec PG B 8 #[(Value.string s1), (Value.string s2)] h (fun v h' => ∃ l3 : List Value, ∃ i4 : Int, ∃ b5 : Bool, v = Value.tuple #[(Value.agg (List.toArray l3)), (Value.int .i64 (i4)), (Value.bool b5)] ∧ Q l3 i4 b5 h')
def C_world_Open (B : RO) (p1 : Option Addr) (h : Heap) (Q : Option Addr → Int → Heap → Prop) : Prop :=
  Spec PG B 9 #[(Value.pointer p1)] h (fun v h' => ∃ p2 : Option Addr, ∃ i3 : Int, v = Value.tuple #[(Value.pointer p2), (Value.int .i64 (i3))] ∧ Q p2 i3 h')
def C_countermandref05_Found (B : RO) (s1 : ByteArray) (s2 : ByteArray) (h : Heap) (Q : Int → ByteArray → Option Addr → Nat → Nat → Heap → Prop) : Prop :=
  Spec PG B 10 #[(Value.string s1), (Value.string s2)] h (fun v h' => ∃ i3 : Int, ∃ s4 : ByteArray, ∃ a5 : Option Addr, ∃ n6 : Nat, ∃ c7 : Nat, v = Value.tuple #[(Value.int .i64 (i3)), (Value.string s4), (Value.slice a5 n6 c7)] ∧ Q i3 s4 a5 n6 c7 h')
def C_countermandlaw21_are (B : RO) (p1 : Option Addr) (l2 : List Value) (h : Heap) (Q : Bool → Heap → Prop) : Prop :=
  Spec PG B 11 #[(Value.pointer p1), (Value.agg (List.toArray l2))] h (fun v h' => ∃ b3 : Bool, v = (Value.bool b3) ∧ Q b3 h')
def C_world_World_Blocks (B : RO) (p1 : Option Addr) (h : Heap) (Q : Int → Heap → Prop) : Prop :=
  Spec PG B 12 #[(Value.pointer p1)] h (fun v h' => ∃ i2 : Int, v = (Value.int .i64 (i2)) ∧ Q i2 h')
def C_world_World_View (B : RO) (p1 : Option Addr) (h : Heap) (Q : Option Addr → Heap → Prop) : Prop :=
  Spec PG B 13 #[(Value.pointer p1)] h (fun v h' => ∃ p2 : Option Addr, v = (Value.pointer p2) ∧ Q p2 h')
def C_world_World_Tallies (B : RO) (p1 : Option Addr) (h : Heap) (Q : Int → Int → Int → Int → Heap → Prop) : Prop :=
  Spec PG B 14 #[(Value.pointer p1)] h (fun v h' => ∃ i2 : Int, ∃ i3 : Int, ∃ i4 : Int, ∃ i5 : Int, v = (Value.agg #[(Value.int .i64 (i2)), (Value.int .i64 (i3)), (Value.int .i64 (i4)), (Value.int .i64 (i5))]) ∧ Q i2 i3 i4 i5 h')
def C_world_World_Notes (B : RO) (p1 : Option Addr) (h : Heap) (Q : Option Addr → Nat → Nat → Heap → Prop) : Prop :=
  Spec PG B 15 #[(Value.pointer p1)] h (fun v h' => ∃ a2 : Option Addr, ∃ n3 : Nat, ∃ c4 : Nat, v = (Value.slice a2 n3 c4) ∧ Q a2 n3 c4 h')
def C_world_World_Disk (B : RO) (p1 : Option Addr) (h : Heap) (Q : Option Addr → Heap → Prop) : Prop :=
  Spec PG B 16 #[(Value.pointer p1)] h (fun v h' => ∃ p2 : Option Addr, v = (Value.pointer p2) ∧ Q p2 h')
def C_disk_Disk_Crash (B : RO) (p1 : Option Addr) (i2 : Int) (i3 : Int) (h : Heap) (Q : Heap → Prop) : Prop :=
  Spec PG B 17 #[(Value.pointer p1), (Value.int .i64 (i2)), (Value.int .i64 (i3))] h (fun v h' => v = Value.tuple #[] ∧ Q  h')
def C_world_World_Add (B : RO) (p1 : Option Addr) (a2 : Option Addr) (n3 : Nat) (c4 : Nat) (h : Heap) (Q : Heap → Prop) : Prop :=
  Spec PG B 18 #[(Value.pointer p1), (Value.slice a2 n3 c4)] h (fun v h' => v = Value.tuple #[] ∧ Q  h')
def C_world_World_Done (B : RO) (p1 : Option Addr) (h : Heap) (Q : Heap → Prop) : Prop :=
  Spec PG B 23 #[(Value.pointer p1)] h (fun v h' => v = Value.tuple #[] ∧ Q  h')
def C_disk_good (B : RO) (i1 : Int) (h : Heap) (Q : Bool → Heap → Prop) : Prop :=
  Spec PG B 29 #[(Value.int .i64 (i1))] h (fun v h' => ∃ b2 : Bool, v = (Value.bool b2) ∧ Q b2 h')
def C_countermandref01_Taken (B : RO) (s1 : ByteArray) (h : Heap) (Q : Int → Int → Heap → Prop) : Prop :=
  Spec PG B 30 #[(Value.string s1)] h (fun v h' => ∃ i2 : Int, ∃ i3 : Int, v = Value.tuple #[(Value.int .u64 (i2)), (Value.int .i64 (i3))] ∧ Q i2 i3 h')
def C_countermandref10_Read (B : RO) (s1 : ByteArray) (h : Heap) (Q : List Value → Bool → Heap → Prop) : Prop :=
  Spec PG B 31 #[(Value.string s1)] h (fun v h' => ∃ l2 : List Value, ∃ b3 : Bool, v = Value.tuple #[(Value.agg (List.toArray l2)), (Value.bool b3)] ∧ Q l2 b3 h')
def C_countermandref18_Read (B : RO) (s1 : ByteArray) (h : Heap) (Q : Int → Option Addr → Nat → Nat → Bool → Heap → Prop) : Prop :=
  Spec PG B 32 #[(Value.string s1)] h (fun v h' => ∃ i2 : Int, ∃ a3 : Option Addr, ∃ n4 : Nat, ∃ c5 : Nat, ∃ b6 : Bool, v = Value.tuple #[(Value.int .i64 (i2)), (Value.slice a3 n4 c5), (Value.bool b6)] ∧ Q i2 a3 n4 c5 b6 h')
def C_countermandref18_Apply (B : RO) (l1 : List Value) (a2 : Option Addr) (n3 : Nat) (c4 : Nat) (h : Heap) (Q : List Value → Heap → Prop) : Prop :=
  Spec PG B 33 #[(Value.agg (List.toArray l1)), (Value.slice a2 n3 c4)] h (fun v h' => ∃ l5 : List Value, v = (Value.agg (List.toArray l5)) ∧ Q l5 h')
def C_vault_Open (B : RO) (p1 : Option Addr) (h : Heap) (Q : Option Addr → ByteArray → Option Addr → Nat → Nat → Int → Heap → Prop) : Prop :=
  Spec PG B 34 #[(Value.pointer p1)] h (fun v h' => ∃ p2 : Option Addr, ∃ s3 : ByteArray, ∃ a4 : Option Addr, ∃ n5 : Nat, ∃ c6 : Nat, ∃ i7 : Int, v = Value.tuple #[(Value.pointer p2), (Value.agg #[(Value.string s3), (Value.slice a4 n5 c6)]), (Value.int .i64 (i7))] ∧ Q p2 s3 a4 n5 c6 i7 h')
def C_world_read (B : RO) (s1 : ByteArray) (h : Heap) (Q : Int → Option Addr → Bool → Heap → Prop) : Prop :=
  Spec PG B 35 #[(Value.string s1)] h (fun v h' => ∃ i2 : Int, ∃ p3 : Option Addr, ∃ b4 : Bool, v = Value.tuple #[(Value.int .i64 (i2)), (Value.pointer p3), (Value.bool b4)] ∧ Q i2 p3 b4 h')
def C_redo_Replay (B : RO) (p1 : Option Addr) (a2 : Option Addr) (n3 : Nat) (c4 : Nat) (h : Heap) (Q : Int → Int → Heap → Prop) : Prop :=
  Spec PG B 36 #[(Value.pointer p1), (Value.slice a2 n3 c4)] h (fun v h' => ∃ i5 : Int, ∃ i6 : Int, v = Value.tuple #[(Value.int .i64 (i5)), (Value.int .i64 (i6))] ∧ Q i5 i6 h')
def C_vault_Vault_Settle (B : RO) (p1 : Option Addr) (s2 : ByteArray) (h : Heap) (Q : Int → Heap → Prop) : Prop :=
  Spec PG B 37 #[(Value.pointer p1), (Value.string s2)] h (fun v h' => ∃ i3 : Int, v = (Value.int .i64 (i3)) ∧ Q i3 h')
def C_world_image (B : RO) (i1 : Int) (p2 : Option Addr) (h : Heap) (Q : ByteArray → Heap → Prop) : Prop :=
  Spec PG B 38 #[(Value.int .i64 (i1)), (Value.pointer p2)] h (fun v h' => ∃ s3 : ByteArray, v = (Value.string s3) ∧ Q s3 h')
def C_attempt_NewView (B : RO) (h : Heap) (Q : Option Addr → Heap → Prop) : Prop :=
  Spec PG B 39 #[] h (fun v h' => ∃ p1 : Option Addr, v = (Value.pointer p1) ∧ Q p1 h')
def C_wire_New (B : RO) (h : Heap) (Q : Option Addr → Heap → Prop) : Prop :=
  Spec PG B 40 #[] h (fun v h' => ∃ p1 : Option Addr, v = (Value.pointer p1) ∧ Q p1 h')
def C_token_New (B : RO) (h : Heap) (Q : Option Addr → Heap → Prop) : Prop :=
  Spec PG B 41 #[] h (fun v h' => ∃ p1 : Option Addr, v = (Value.pointer p1) ∧ Q p1 h')
def C_countermandref05_Told (B : RO) (s1 : ByteArray) (h : Heap) (Q : Int → ByteArray → Option Addr → Nat → Nat → Heap → Prop) : Prop :=
  Spec PG B 42 #[(Value.string s1)] h (fun v h' => ∃ i2 : Int, ∃ s3 : ByteArray, ∃ a4 : Option Addr, ∃ n5 : Nat, ∃ c6 : Nat, v = Value.tuple #[(Value.int .i64 (i2)), (Value.string s3), (Value.slice a4 n5 c6)] ∧ Q i2 s3 a4 n5 c6 h')
def C_tome_Tome_Get (B : RO) (p1 : Option Addr) (i2 : Int) (h : Heap) (Q : Bool → ByteArray → Int → Heap → Prop) : Prop :=
  Spec PG B 43 #[(Value.pointer p1), (Value.int .i64 (i2))] h (fun v h' => ∃ b3 : Bool, ∃ s4 : ByteArray, ∃ i5 : Int, v = Value.tuple #[(Value.agg #[(Value.bool b3), (Value.string s4)]), (Value.int .i64 (i5))] ∧ Q b3 s4 i5 h')
def C_slices_Clone_s_world_Note_world_Note (B : RO) (a1 : Option Addr) (n2 : Nat) (c3 : Nat) (h : Heap) (Q : Option Addr → Nat → Nat → Heap → Prop) : Prop :=
  Spec PG B 44 #[(Value.slice a1 n2 c3)] h (fun v h' => ∃ a4 : Option Addr, ∃ n5 : Nat, ∃ c6 : Nat, v = (Value.slice a4 n5 c6) ∧ Q a4 n5 c6 h')
def C_disk_Disk_land (B : RO) (p1 : Option Addr) (i2 : Int) (b3 : Bool) (s4 : ByteArray) (h : Heap) (Q : Heap → Prop) : Prop :=
  Spec PG B 45 #[(Value.pointer p1), (Value.agg #[(Value.int .i64 (i2)), (Value.bool b3), (Value.string s4)])] h (fun v h' => v = Value.tuple #[] ∧ Q  h')
def C_countermandref01_Wide (B : RO) (i1 : Int) (h : Heap) (Q : ByteArray → Heap → Prop) : Prop :=
  Spec PG B 52 #[(Value.int .u64 (i1))] h (fun v h' => ∃ s2 : ByteArray, v = (Value.string s2) ∧ Q s2 h')
def C_countermandref18_nat (B : RO) (s1 : ByteArray) (i2 : Int) (h : Heap) (Q : Int → ByteArray → Bool → Heap → Prop) : Prop :=
  Spec PG B 53 #[(Value.string s1), (Value.int .u64 (i2))] h (fun v h' => ∃ i3 : Int, ∃ s4 : ByteArray, ∃ b5 : Bool, v = Value.tuple #[(Value.int .i64 (i3)), (Value.string s4), (Value.bool b5)] ∧ Q i3 s4 b5 h')
def C_wal_Open (B : RO) (p1 : Option Addr) (i2 : Int) (h : Heap) (Q : Option Addr → Int → Heap → Prop) : Prop :=
  Spec PG B 54 #[(Value.pointer p1), (Value.int .i64 (i2))] h (fun v h' => ∃ p3 : Option Addr, ∃ i4 : Int, v = Value.tuple #[(Value.pointer p3), (Value.int .i64 (i4))] ∧ Q p3 i4 h')
def C_vault_look (B : RO) (p1 : Option Addr) (h : Heap) (Q : Int → ByteArray → Option Addr → Nat → Nat → Heap → Prop) : Prop :=
  Spec PG B 55 #[(Value.pointer p1)] h (fun v h' => ∃ i2 : Int, ∃ s3 : ByteArray, ∃ a4 : Option Addr, ∃ n5 : Nat, ∃ c6 : Nat, v = Value.tuple #[(Value.int .i64 (i2)), (Value.agg #[(Value.string s3), (Value.slice a4 n5 c6)])] ∧ Q i2 s3 a4 n5 c6 h')
def C_tome_New (B : RO) (h : Heap) (Q : Option Addr → Heap → Prop) : Prop :=
  Spec PG B 56 #[] h (fun v h' => ∃ p1 : Option Addr, v = (Value.pointer p1) ∧ Q p1 h')
def C_stylus_Of (B : RO) (s1 : ByteArray) (h : Heap) (Q : Option Addr → Heap → Prop) : Prop :=
  Spec PG B 57 #[(Value.string s1)] h (fun v h' => ∃ p2 : Option Addr, v = (Value.pointer p2) ∧ Q p2 h')
def C_stylus_Reader_Nat (B : RO) (p1 : Option Addr) (i2 : Int) (h : Heap) (Q : Int → Heap → Prop) : Prop :=
  Spec PG B 58 #[(Value.pointer p1), (Value.int .i64 (i2))] h (fun v h' => ∃ i3 : Int, v = (Value.int .i64 (i3)) ∧ Q i3 h')
def C_stylus_Reader_Bad (B : RO) (p1 : Option Addr) (h : Heap) (Q : Bool → Heap → Prop) : Prop :=
  Spec PG B 59 #[(Value.pointer p1)] h (fun v h' => ∃ b2 : Bool, v = (Value.bool b2) ∧ Q b2 h')
def C_tome_Read (B : RO) (s1 : ByteArray) (h : Heap) (Q : Option Addr → Bool → Heap → Prop) : Prop :=
  Spec PG B 60 #[(Value.string s1)] h (fun v h' => ∃ p2 : Option Addr, ∃ b3 : Bool, v = Value.tuple #[(Value.pointer p2), (Value.bool b3)] ∧ Q p2 b3 h')
def C_stylus_Reader_Raw (B : RO) (p1 : Option Addr) (i2 : Int) (h : Heap) (Q : ByteArray → Heap → Prop) : Prop :=
  Spec PG B 61 #[(Value.pointer p1), (Value.int .i64 (i2))] h (fun v h' => ∃ s3 : ByteArray, v = (Value.string s3) ∧ Q s3 h')
def C_stylus_Reader_Left (B : RO) (p1 : Option Addr) (h : Heap) (Q : Int → Heap → Prop) : Prop :=
  Spec PG B 62 #[(Value.pointer p1)] h (fun v h' => ∃ i2 : Int, v = (Value.int .i64 (i2)) ∧ Q i2 h')
def C_redo_Read (B : RO) (s1 : ByteArray) (h : Heap) (Q : Int → Option Addr → Nat → Nat → Bool → Heap → Prop) : Prop :=
  Spec PG B 63 #[(Value.string s1)] h (fun v h' => ∃ i2 : Int, ∃ a3 : Option Addr, ∃ n4 : Nat, ∃ c5 : Nat, ∃ b6 : Bool, v = Value.tuple #[(Value.int .i64 (i2)), (Value.slice a3 n4 c5), (Value.bool b6)] ∧ Q i2 a3 n4 c5 b6 h')
def C_redo_Apply (B : RO) (p1 : Option Addr) (a2 : Option Addr) (n3 : Nat) (c4 : Nat) (i5 : Int) (h : Heap) (Q : Heap → Prop) : Prop :=
  Spec PG B 64 #[(Value.pointer p1), (Value.slice a2 n3 c4), (Value.int .i64 (i5))] h (fun v h' => v = Value.tuple #[] ∧ Q  h')
def C_stylus_Stylus_Nat (B : RO) (p1 : Option Addr) (a2 : Option Addr) (n3 : Nat) (c4 : Nat) (h : Heap) (Q : Heap → Prop) : Prop :=
  Spec PG B 65 #[(Value.pointer p1), (Value.slice a2 n3 c4)] h (fun v h' => v = Value.tuple #[] ∧ Q  h')
def C_stylus_Stylus_Raw (B : RO) (p1 : Option Addr) (s2 : ByteArray) (h : Heap) (Q : Heap → Prop) : Prop :=
  Spec PG B 66 #[(Value.pointer p1), (Value.string s2)] h (fun v h' => v = Value.tuple #[] ∧ Q  h')
def C_stylus_Stylus_Bytes (B : RO) (p1 : Option Addr) (h : Heap) (Q : ByteArray → Heap → Prop) : Prop :=
  Spec PG B 67 #[(Value.pointer p1)] h (fun v h' => ∃ s2 : ByteArray, v = (Value.string s2) ∧ Q s2 h')
def C_wal_Log_Area (B : RO) (p1 : Option Addr) (h : Heap) (Q : Int → Heap → Prop) : Prop :=
  Spec PG B 68 #[(Value.pointer p1)] h (fun v h' => ∃ i2 : Int, v = (Value.int .i64 (i2)) ∧ Q i2 h')
def C_wal_Log_Clear (B : RO) (p1 : Option Addr) (h : Heap) (Q : Heap → Prop) : Prop :=
  Spec PG B 69 #[(Value.pointer p1)] h (fun v h' => v = Value.tuple #[] ∧ Q  h')
def C_wal_Log_Force (B : RO) (p1 : Option Addr) (h : Heap) (Q : Heap → Prop) : Prop :=
  Spec PG B 70 #[(Value.pointer p1)] h (fun v h' => v = Value.tuple #[] ∧ Q  h')
def C_wal_Log_Append (B : RO) (p1 : Option Addr) (s2 : ByteArray) (h : Heap) (Q : Int → Heap → Prop) : Prop :=
  Spec PG B 71 #[(Value.pointer p1), (Value.string s2)] h (fun v h' => ∃ i3 : Int, v = (Value.int .i64 (i3)) ∧ Q i3 h')
def C_tome_Tome_Bytes (B : RO) (p1 : Option Addr) (h : Heap) (Q : ByteArray → Heap → Prop) : Prop :=
  Spec PG B 72 #[(Value.pointer p1)] h (fun v h' => ∃ s2 : ByteArray, v = (Value.string s2) ∧ Q s2 h')
def C_cell_New_int (B : RO) (i1 : Int) (i2 : Int) (h : Heap) (Q : Option Addr → Heap → Prop) : Prop :=
  Spec PG B 73 #[(Value.int .i64 (i1)), (Value.int .i64 (i2))] h (fun v h' => ∃ p3 : Option Addr, v = (Value.pointer p3) ∧ Q p3 h')
def C_feed_New (B : RO) (h : Heap) (Q : Option Addr → Heap → Prop) : Prop :=
  Spec PG B 74 #[] h (fun v h' => ∃ p1 : Option Addr, v = (Value.pointer p1) ∧ Q p1 h')
def C_countermandref02_All (B : RO) (s1 : ByteArray) (h : Heap) (Q : Option Addr → Nat → Nat → Heap → Prop) : Prop :=
  Spec PG B 75 #[(Value.string s1)] h (fun v h' => ∃ a2 : Option Addr, ∃ n3 : Nat, ∃ c4 : Nat, v = (Value.slice a2 n3 c4) ∧ Q a2 n3 c4 h')
def C_cell_Row_file_File_Get (B : RO) (p1 : Option Addr) (i2 : Int) (h : Heap) (Q : Bool → ByteArray → Int → Heap → Prop) : Prop :=
  Spec PG B 76 #[(Value.pointer p1), (Value.int .i64 (i2))] h (fun v h' => ∃ b3 : Bool, ∃ s4 : ByteArray, ∃ i5 : Int, v = Value.tuple #[(Value.agg #[(Value.bool b3), (Value.string s4)]), (Value.int .i64 (i5))] ∧ Q b3 s4 i5 h')
def C_stylus_Stylus_Text (B : RO) (p1 : Option Addr) (a2 : Option Addr) (n3 : Nat) (c4 : Nat) (h : Heap) (Q : Heap → Prop) : Prop :=
  Spec PG B 79 #[(Value.pointer p1), (Value.slice a2 n3 c4)] h (fun v h' => v = Value.tuple #[] ∧ Q  h')
def C_disk_Disk_Read (B : RO) (p1 : Option Addr) (i2 : Int) (h : Heap) (Q : ByteArray → Heap → Prop) : Prop :=
  Spec PG B 80 #[(Value.pointer p1), (Value.int .i64 (i2))] h (fun v h' => ∃ s3 : ByteArray, v = (Value.string s3) ∧ Q s3 h')
def C_wafer_Whole (B : RO) (s1 : ByteArray) (h : Heap) (Q : Int → Heap → Prop) : Prop :=
  Spec PG B 81 #[(Value.string s1)] h (fun v h' => ∃ i2 : Int, v = (Value.int .i64 (i2)) ∧ Q i2 h')
def C_wal_Log_All (B : RO) (p1 : Option Addr) (h : Heap) (Q : Value → Heap → Prop) : Prop :=
  Spec PG B 82 #[(Value.pointer p1)] h (fun v h' => ∃ v2 : Value, v = v2 ∧ Q v2 h')
def C_vault_first (B : RO) (s1 : ByteArray) (h : Heap) (Q : Int → ByteArray → Bool → Heap → Prop) : Prop :=
  Spec PG B 83 #[(Value.string s1)] h (fun v h' => ∃ i2 : Int, ∃ s3 : ByteArray, ∃ b4 : Bool, v = Value.tuple #[(Value.int .i64 (i2)), (Value.string s3), (Value.bool b4)] ∧ Q i2 s3 b4 h')
def C_cell_New_file_File (B : RO) (i1 : Int) (b2 : Bool) (s3 : ByteArray) (h : Heap) (Q : Option Addr → Heap → Prop) : Prop :=
  Spec PG B 84 #[(Value.int .i64 (i1)), (Value.agg #[(Value.bool b2), (Value.string s3)])] h (fun v h' => ∃ p4 : Option Addr, v = (Value.pointer p4) ∧ Q p4 h')
def C_stylus_Reader_word (B : RO) (p1 : Option Addr) (h : Heap) (Q : Int → Heap → Prop) : Prop :=
  Spec PG B 85 #[(Value.pointer p1)] h (fun v h' => ∃ i2 : Int, v = (Value.int .u64 (i2)) ∧ Q i2 h')
def C_stylus_Reader_Spoil (B : RO) (p1 : Option Addr) (h : Heap) (Q : Heap → Prop) : Prop :=
  Spec PG B 86 #[(Value.pointer p1)] h (fun v h' => v = Value.tuple #[] ∧ Q  h')
def C_stylus_Reader_Text (B : RO) (p1 : Option Addr) (i2 : Int) (h : Heap) (Q : ByteArray → Heap → Prop) : Prop :=
  Spec PG B 87 #[(Value.pointer p1), (Value.int .i64 (i2))] h (fun v h' => ∃ s3 : ByteArray, v = (Value.string s3) ∧ Q s3 h')
def C_tome_Tome_Set (B : RO) (p1 : Option Addr) (i2 : Int) (b3 : Bool) (s4 : ByteArray) (i5 : Int) (h : Heap) (Q : Bool → Heap → Prop) : Prop :=
  Spec PG B 88 #[(Value.pointer p1), (Value.int .i64 (i2)), (Value.agg #[(Value.bool b3), (Value.string s4)]), (Value.int .i64 (i5))] h (fun v h' => ∃ b6 : Bool, v = (Value.bool b6) ∧ Q b6 h')
def C_disk_Disk_Reset (B : RO) (p1 : Option Addr) (i2 : Int) (h : Heap) (Q : Int → Heap → Prop) : Prop :=
  Spec PG B 89 #[(Value.pointer p1), (Value.int .i64 (i2))] h (fun v h' => ∃ i3 : Int, v = (Value.int .i64 (i3)) ∧ Q i3 h')
def C_disk_Disk_Sync (B : RO) (p1 : Option Addr) (h : Heap) (Q : Heap → Prop) : Prop :=
  Spec PG B 90 #[(Value.pointer p1)] h (fun v h' => v = Value.tuple #[] ∧ Q  h')
def C_wafer_Close (B : RO) (s1 : ByteArray) (h : Heap) (Q : ByteArray → Heap → Prop) : Prop :=
  Spec PG B 91 #[(Value.string s1)] h (fun v h' => ∃ s2 : ByteArray, v = (Value.string s2) ∧ Q s2 h')
def C_tome_Tome_All (B : RO) (p1 : Option Addr) (h : Heap) (Q : Value → Heap → Prop) : Prop :=
  Spec PG B 92 #[(Value.pointer p1)] h (fun v h' => ∃ v2 : Value, v = v2 ∧ Q v2 h')
def C_countermandref02_Open (B : RO) (s1 : ByteArray) (h : Heap) (Q : ByteArray → Int → Heap → Prop) : Prop :=
  Spec PG B 93 #[(Value.string s1)] h (fun v h' => ∃ s2 : ByteArray, ∃ i3 : Int, v = Value.tuple #[(Value.string s2), (Value.int .i64 (i3))] ∧ Q s2 i3 h')
def C_cell_Row_file_File_is (B : RO) (p1 : Option Addr) (i2 : Int) (h : Heap) (Q : Bool → Heap → Prop) : Prop :=
  Spec PG B 94 #[(Value.pointer p1), (Value.int .i64 (i2))] h (fun v h' => ∃ b3 : Bool, v = (Value.bool b3) ∧ Q b3 h')
def C_wafer_All (B : RO) (s1 : ByteArray) (h : Heap) (Q : Value → Heap → Prop) : Prop :=
  Spec PG B 96 #[(Value.string s1)] h (fun v h' => ∃ v2 : Value, v = v2 ∧ Q v2 h')
def C_wal_Log_All_1 (B : RO) (v1 : Value) (A2 : Addr) (h : Heap) (Q : Heap → Prop) : Prop :=
  Spec PG B 97 #[v1, (Value.pointer (some A2))] h (fun v h' => v = Value.tuple #[] ∧ Q  h')
def C_file_Good (B : RO) (b1 : Bool) (s2 : ByteArray) (h : Heap) (Q : Bool → Heap → Prop) : Prop :=
  Spec PG B 98 #[(Value.agg #[(Value.bool b1), (Value.string s2)])] h (fun v h' => ∃ b3 : Bool, v = (Value.bool b3) ∧ Q b3 h')
def C_cell_Row_file_File_Set (B : RO) (p1 : Option Addr) (i2 : Int) (b3 : Bool) (s4 : ByteArray) (i5 : Int) (h : Heap) (Q : Bool → Heap → Prop) : Prop :=
  Spec PG B 99 #[(Value.pointer p1), (Value.int .i64 (i2)), (Value.agg #[(Value.bool b3), (Value.string s4)]), (Value.int .i64 (i5))] h (fun v h' => ∃ b6 : Bool, v = (Value.bool b6) ∧ Q b6 h')
def C_wafer_foots (B : RO) (i1 : Int) (h : Heap) (Q : ByteArray → Heap → Prop) : Prop :=
  Spec PG B 100 #[(Value.int .u32 (i1))] h (fun v h' => ∃ s2 : ByteArray, v = (Value.string s2) ∧ Q s2 h')
def C_wafer_Sum (B : RO) (s1 : ByteArray) (h : Heap) (Q : Int → Heap → Prop) : Prop :=
  Spec PG B 101 #[(Value.string s1)] h (fun v h' => ∃ i2 : Int, v = (Value.int .u32 (i2)) ∧ Q i2 h')
def C_tome_Tome_All_1 (B : RO) (v1 : Value) (A2 : Addr) (h : Heap) (Q : Heap → Prop) : Prop :=
  Spec PG B 102 #[v1, (Value.pointer (some A2))] h (fun v h' => v = Value.tuple #[] ∧ Q  h')
def C_cell_Row_file_File_All (B : RO) (p1 : Option Addr) (h : Heap) (Q : Value → Heap → Prop) : Prop :=
  Spec PG B 103 #[(Value.pointer p1)] h (fun v h' => ∃ v2 : Value, v = v2 ∧ Q v2 h')
def C_countermandref02_Close (B : RO) (s1 : ByteArray) (h : Heap) (Q : ByteArray → Heap → Prop) : Prop :=
  Spec PG B 104 #[(Value.string s1)] h (fun v h' => ∃ s2 : ByteArray, v = (Value.string s2) ∧ Q s2 h')
def C_wafer_All_1 (B : RO) (v1 : Value) (A2 : Addr) (h : Heap) (Q : Heap → Prop) : Prop :=
  Spec PG B 105 #[v1, (Value.pointer (some A2))] h (fun v h' => v = Value.tuple #[] ∧ Q  h')
def C_wafer_Open (B : RO) (s1 : ByteArray) (h : Heap) (Q : ByteArray → Int → Heap → Prop) : Prop :=
  Spec PG B 106 #[(Value.string s1)] h (fun v h' => ∃ s2 : ByteArray, ∃ i3 : Int, v = Value.tuple #[(Value.string s2), (Value.int .i64 (i3))] ∧ Q s2 i3 h')
def C_cell_Row_file_File_All_1 (B : RO) (v1 : Value) (A2 : Addr) (h : Heap) (Q : Heap → Prop) : Prop :=
  Spec PG B 107 #[v1, (Value.pointer (some A2))] h (fun v h' => v = Value.tuple #[] ∧ Q  h')
def C_countermandref02_Sum (B : RO) (s1 : ByteArray) (h : Heap) (Q : Int → Heap → Prop) : Prop :=
  Spec PG B 108 #[(Value.string s1)] h (fun v h' => ∃ i2 : Int, v = (Value.int .u32 (i2)) ∧ Q i2 h')
end Go.Proofs.Ytlehephbflgblaa.H
namespace Go.Proofs.Ytlehephbflgblaa.H
open Go
set_option linter.unusedVariables false
set_option maxRecDepth 100000
set_option maxHeartbeats 4000000
def S_countermandlaw21_WorldOpens_J2 (B : RO) (p9 : Option Addr) (i16 : Int) (k24 : Nat) (i31 : Int) (h37 : Heap) (Q : Bool → Heap → Prop) : Prop :=
 C_disk_Disk_Crash B p9 (0) (0) h37 (fun h38 =>
 C_world_Open B p9 h38 (fun p40 i41 h39 =>
 ((i31 : Int) = 1099511627775 →
 ((i41 : Int) = 6 →
 Fin B h39 (Q ((decide (p40 = none))))) ∧ (¬ ((i41 : Int) = 6) →
 Fin B h39 (Q (false)))) ∧ (¬ ((i31 : Int) = 1099511627775) →
 ((i41 : Int) = 0 →
 ∃ l42 : List Value, List.length l42 = 12 ∧ CellsAt B h39 ⟨k24, 0, none⟩ 0 l42 ∧
 C_countermandlaw21_are B p40 l42 h39 (fun b44 h43 =>
 (b44 = true →
 C_world_World_Blocks B p40 h43 (fun i46 h45 =>
 Fin B h45 (Q (((i46 : Int) == (i16)))))) ∧ (b44 = false →
 Fin B h43 (Q (false))))) ∧ (¬ ((i41 : Int) = 0) →
 Fin B h39 (Q (false))))))
def S_countermandlaw21_WorldOpens_J1 (B : RO) (s1 : ByteArray) (s2 : ByteArray) (h7 : Heap) (Q : Bool → Heap → Prop) : Prop :=
 C_disk_New B h7 (fun p9 h8 =>
 C_disk_Disk_Append B p9 (0) s1 h8 (fun i11 h10 =>
 C_disk_Disk_Append B p9 (1) s2 h10 (fun i13 h12 =>
 C_countermandref21_Opened B s1 s2 h12 (fun l15 i16 b17 h14 =>
 (b17 = true →
 ∀ k24 : Nat, h14 k24 = none → B k24 = none → ∀ h25 : Heap, h25 = Heap.set h14 k24 (.vec 29 (plains [(.bool false), (.string ByteArray.empty), (.bool false), (.string ByteArray.empty), (.bool false), (.string ByteArray.empty), (.bool false), (.string ByteArray.empty), (.bool false), (.string ByteArray.empty), (.bool false), (.string ByteArray.empty)]) 12) →
 List.length l15 = 12 ∧ ∃ h26 : Heap, StoresAt ⟨k24, 0, none⟩ h25 0 l15 h26 ∧
 C_world_Open B p9 h26 (fun p28 i29 h27 =>
 C_countermandref05_Found B s1 s2 h27 (fun i31 s32 a33 n34 c35 h30 =>
 ((i31 : Int) = 1099511627776 →
 ((i29 : Int) = 6 →
 Fin B h30 (Q ((decide (p28 = none))))) ∧ (¬ ((i29 : Int) = 6) →
 Fin B h30 (Q (false)))) ∧ (¬ ((i31 : Int) = 1099511627776) →
 ((i29 : Int) = 0 →
 ∃ l47 : List Value, List.length l47 = 12 ∧ CellsAt B h30 ⟨k24, 0, none⟩ 0 l47 ∧
 C_countermandlaw21_are B p28 l47 h30 (fun b49 h48 =>
 (b49 = true →
 C_world_World_Blocks B p28 h48 (fun i51 h50 =>
 ((i51 : Int) = i16 →
 C_world_World_View B p28 h50 (fun p53 h52 =>
 ∃ A54 : Addr, p53 = some A54 ∧
 ∃ i56 : Int, cellH B h52 (Addr.add A54 3) = some (.int .i64 (i56)) ∧
 ((i56 : Int) = 0 →
 C_world_World_Tallies B p28 h52 (fun i58 i59 i60 i61 h57 =>
 (eqL [(.int .i64 (i58)), (.int .i64 (i59)), (.int .i64 (i60)), (.int .i64 (i61))] [(.int .i64 (0)), (.int .i64 (0)), (.int .i64 (0)), (.int .i64 (0))] = true →
 C_world_World_Notes B p28 h57 (fun a64 n65 c66 h63 =>
 (((n65 : Nat) : Int) = 0 →
 C_world_World_Disk B p28 h63 (fun p68 h67 =>
 semH PG B (do eqGuard .neq 23 (Operand.tmp 104) (Operand.tmp 105) (.pointer p68) (.pointer p9); binOp .neq 23 (.pointer p68) (.pointer p9)) h67 (fun v h70 => ∃ b69 : Bool, v = .bool b69 ∧ (b69 = true →
 Fin B h70 (Q (false))) ∧ (b69 = false →
 Fin B h70 (fun h' => S_countermandlaw21_WorldOpens_J2 B p9 i16 k24 i31 h' Q))))) ∧ (¬ (((n65 : Nat) : Int) = 0) →
 Fin B h63 (Q (false))))) ∧ (¬ (eqL [(.int .i64 (i58)), (.int .i64 (i59)), (.int .i64 (i60)), (.int .i64 (i61))] [(.int .i64 (0)), (.int .i64 (0)), (.int .i64 (0)), (.int .i64 (0))] = true) →
 Fin B h57 (Q (false))))) ∧ (¬ ((i56 : Int) = 0) →
 Fin B h52 (Q (false))))) ∧ (¬ ((i51 : Int) = i16) →
 Fin B h50 (Q (false))))) ∧ (b49 = false →
 Fin B h48 (Q (false))))) ∧ (¬ ((i29 : Int) = 0) →
 Fin B h30 (Q (false))))))) ∧ (b17 = false →
 ∀ k18 : Nat, h14 k18 = none → B k18 = none → ∀ h19 : Heap, h19 = Heap.set h14 k18 (.vec 29 (plains [(.bool false), (.string ByteArray.empty), (.bool false), (.string ByteArray.empty), (.bool false), (.string ByteArray.empty), (.bool false), (.string ByteArray.empty), (.bool false), (.string ByteArray.empty), (.bool false), (.string ByteArray.empty)]) 12) →
 List.length l15 = 12 ∧ ∃ h20 : Heap, StoresAt ⟨k18, 0, none⟩ h19 0 l15 h20 ∧
 C_world_Open B p9 h20 (fun p22 i23 h21 =>
 ((i23 : Int) = 4 →
 Fin B h21 (Q ((decide (p22 = none))))) ∧ (¬ ((i23 : Int) = 4) →
 Fin B h21 (Q (false)))))))))
def S_countermandlaw21_WorldOpens (B : RO) (s1 : ByteArray) (s2 : ByteArray) (h : Heap) (Q : Bool → Heap → Prop) : Prop :=
 C_countermandlaw21_alive B h (fun b5 h4 =>
 (b5 = true →
 (((ByteArray.size s1 : Nat) : Int) > (4096) →
 Fin B h4 (Q (true))) ∧ (¬ (((ByteArray.size s1 : Nat) : Int) > (4096)) →
 (((ByteArray.size s2 : Nat) : Int) > (4096) →
 Fin B h4 (Q (true))) ∧ (¬ (((ByteArray.size s2 : Nat) : Int) > (4096)) →
 Fin B h4 (fun h' => S_countermandlaw21_WorldOpens_J1 B s1 s2 h' Q)))) ∧ (b5 = false →
 Fin B h4 (Q (false))))
def S_countermandlaw21_alive (B : RO) (h : Heap) (Q : Bool → Heap → Prop) : Prop :=
 C_disk_New B h (fun p3 h2 =>
 C_world_Open B p3 h2 (fun p5 i6 h4 =>
 ((i6 : Int) = 0 →
 ∀ k7 : Nat, h4 k7 = none → B k7 = none → ∀ h8 : Heap, h8 = Heap.set h4 k7 (.vec 59 (plains [(.int .i64 (1)), (.int .i64 (5))]) 2) →
 C_world_World_Add B p5 (some ⟨k7, 0, none⟩) 1 1 h8 (fun h9 =>
 C_world_World_Done B p5 h9 (fun h10 =>
 C_world_World_Tallies B p5 h10 (fun i12 i13 i14 i15 h11 =>
 0 ≤ (1 : Int) ∧ (1 : Int) < (4 : Nat) ∧ ∃ i16 : Int, (#[(.int .i64 (i12)), (.int .i64 (i13)), (.int .i64 (i14)), (.int .i64 (i15))] : Array Value)[Int.toNat (1) * 1]? = some (.int .i64 (i16)) ∧
 ((i16 : Int) = 5 →
 C_world_World_Blocks B p5 h11 (fun i18 h17 =>
 ((i18 : Int) = 1 →
 C_world_World_View B p5 h17 (fun p20 h19 =>
 ∃ A21 : Addr, p20 = some A21 ∧
 ∃ i23 : Int, cellH B h19 (Addr.add A21 3) = some (.int .i64 (i23)) ∧
 Fin B h19 (Q (((i23 : Int) == (0)))))) ∧ (¬ ((i18 : Int) = 1) →
 Fin B h17 (Q (false))))) ∧ (¬ ((i16 : Int) = 5) →
 Fin B h11 (Q (false))))))) ∧ (¬ ((i6 : Int) = 0) →
 Fin B h4 (Q (false)))))
def S_disk_New (B : RO) (h : Heap) (Q : Option Addr → Heap → Prop) : Prop :=
 ∀ k2 : Nat, h k2 = none → B k2 = none → ∀ h3 : Heap, h3 = Heap.set h k2 (.vec 85 (plains [(.string ByteArray.empty), (.string ByteArray.empty), (.string ByteArray.empty), (.string ByteArray.empty), (.slice none 0 0)]) 5) →
 Fin B h3 (Q (some ⟨k2, 0, none⟩))
def S_disk_Disk_Append_J1 (B : RO) (p1 : Option Addr) (i2 : Int) (s3 : ByteArray) (h6 : Heap) (Q : Int → Heap → Prop) : Prop :=
 ∃ A7 : Addr, p1 = some A7 ∧
 0 ≤ (i2 : Int) ∧ (i2 : Int) < (2 : Nat) ∧
 ∃ s9 : ByteArray, cellH B h6 (Addr.add A7 (Int.toNat (i2) * 2)) = some (.string s9) ∧
 ByteArray.size s9 + ByteArray.size s3 ≤ 4611686018427387904 ∧
 ∃ A10 : Addr, p1 = some A10 ∧
 0 ≤ (i2 : Int) ∧ (i2 : Int) < (2 : Nat) ∧
 ∃ h12 : Heap, storeH h6 (Addr.add A10 (Int.toNat (i2) * 2)) (.string (s9 ++ s3)) = some h12 ∧
 ∃ A13 : Addr, p1 = some A13 ∧
 LdSl B h12 (Addr.add A13 4) fun a15 n16 c17 h18 =>
 ∀ k19 : Nat, h18 k19 = none → B k19 = none → ∀ h20 : Heap, h20 = Heap.set h18 k19 (.vec 87 (plains [(.int .i64 (i2)), (.bool false), (.string s3)]) 3) →
 semH PG B (Builtin.append_ #[83, 83] 83 #[(.slice a15 n16 c17), (.slice (some ⟨k19, 0, none⟩) 1 1)]) h20 (fun v h21 => ∃ a22 : Option Addr, ∃ n23 : Nat, ∃ c24 : Nat, v = (.slice a22 n23 c24) ∧
 ∃ A25 : Addr, p1 = some A25 ∧
 ∃ h27 : Heap, storeH h21 (Addr.add A25 4) (.slice a22 n23 c24) = some h27 ∧
 Fin B h27 (Q (0)))
def S_disk_Disk_Append (B : RO) (p1 : Option Addr) (i2 : Int) (s3 : ByteArray) (h : Heap) (Q : Int → Heap → Prop) : Prop :=
 (p1 = none →
 Fin B h (Q (2))) ∧ (¬ (p1 = none) →
 C_disk_good B (i2) h (fun b30 h29 =>
 (b30 = true →
 ∃ A31 : Addr, p1 = some A31 ∧
 0 ≤ (i2 : Int) ∧ (i2 : Int) < (2 : Nat) ∧
 ∃ s33 : ByteArray, cellH B h29 (Addr.add A31 (Int.toNat (i2) * 2)) = some (.string s33) ∧
 (((ByteArray.size s3 : Nat) : Int) > (IntKind.wrap .i64 ((16384) - ((ByteArray.size s33 : Nat)))) →
 Fin B h29 (Q (6))) ∧ (¬ (((ByteArray.size s3 : Nat) : Int) > (IntKind.wrap .i64 ((16384) - ((ByteArray.size s33 : Nat))))) →
 Fin B h29 (fun h' => S_disk_Disk_Append_J1 B p1 i2 s3 h' Q))) ∧ (b30 = false →
 Fin B h29 (Q (1)))))
def S_countermandref21_Opened_J1 (B : RO) (k6 : Nat) (a11 : Option Addr) (n12 : Nat) (c13 : Nat) (k14 : Nat) (i17 : Int) (h18 : Heap) (Q : List Value → Int → Bool → Heap → Prop) : Prop :=
 ∃ (J25 : Int → Int → Nat → Heap → Prop) (m23 : Nat), Fin B h18 (J25 (i17) (0) m23) ∧
 ∀ (i19 : Int) (i20 : Int) (m22 : Nat) (h21 : Heap), J25 i19 i20 m22 h21 →
 ((i20 : Int) < ((n12 : Nat)) →
 ∃ A26 : Addr, a11 = some A26 ∧ 0 ≤ (i20 : Int) ∧ (i20 : Int) < (n12 : Nat) ∧
 ∃ s28 : ByteArray, cellH B h21 (Addr.add A26 (Int.toNat (i20) * 1)) = some (.string s28) ∧
 C_countermandref18_Read B s28 h21 (fun i30 a31 n32 c33 b34 h29 =>
 (b34 = true →
 ∃ l38 : List Value, List.length l38 = 12 ∧ CellsAt B h29 ⟨k14, 0, none⟩ 0 l38 ∧
 C_countermandref18_Apply B l38 a31 n32 c33 h29 (fun l40 h39 =>
 List.length l40 = 12 ∧ ∃ h41 : Heap, StoresAt ⟨k14, 0, none⟩ h39 0 l40 h41 ∧
 Fin B h41 (fun h' => ∃ m', m' < m22 ∧ J25 (if (i30 : Int) > (i19) then (i30 : Int) else (i19)) (IntKind.wrap .i64 ((i20) + (1))) m' h'))) ∧ (b34 = false →
 ∃ l35 : List Value, List.length l35 = 12 ∧ CellsAt B h29 ⟨k14, 0, none⟩ 0 l35 ∧
 List.length l35 = 12 ∧ ∃ h36 : Heap, StoresAt ⟨k6, 0, none⟩ h29 0 l35 h36 ∧
 ∃ l37 : List Value, List.length l37 = 12 ∧ CellsAt B h36 ⟨k6, 0, none⟩ 0 l37 ∧ Fin B h36 (Q l37 (0) (false))))) ∧ (¬ ((i20 : Int) < ((n12 : Nat))) →
 ∃ l42 : List Value, List.length l42 = 12 ∧ CellsAt B h21 ⟨k14, 0, none⟩ 0 l42 ∧
 List.length l42 = 12 ∧ ∃ h43 : Heap, StoresAt ⟨k6, 0, none⟩ h21 0 l42 h43 ∧
 ∃ l44 : List Value, List.length l44 = 12 ∧ CellsAt B h43 ⟨k6, 0, none⟩ 0 l44 ∧ Fin B h43 (Q l44 (i19) (true)))
def S_countermandref21_Opened_J2 (B : RO) (k6 : Nat) (s10 : ByteArray) (a11 : Option Addr) (n12 : Nat) (c13 : Nat) (k14 : Nat) (i47 : Int) (i48 : Int) (h50 : Heap) (Q : List Value → Int → Bool → Heap → Prop) : Prop :=
 0 ≤ (i48 : Int) ∧ (i48 : Int) ≤ ((ByteArray.size s10 : Nat) : Int) ∧ ((ByteArray.size s10 : Nat) : Int) ≤ (ByteArray.size s10 : Nat) ∧
 C_countermandref10_Read B (ByteArray.extract s10 (Int.toNat (i48)) (Int.toNat ((ByteArray.size s10 : Nat)))) h50 (fun l52 b53 h51 =>
 (b53 = true →
 ∀ k60 : Nat, h51 k60 = none → B k60 = none → ∀ h61 : Heap, h61 = Heap.set h51 k60 (.vec 29 (plains [(.bool false), (.string ByteArray.empty), (.bool false), (.string ByteArray.empty), (.bool false), (.string ByteArray.empty), (.bool false), (.string ByteArray.empty), (.bool false), (.string ByteArray.empty), (.bool false), (.string ByteArray.empty)]) 12) →
 List.length l52 = 12 ∧ ∃ h62 : Heap, StoresAt ⟨k60, 0, none⟩ h61 0 l52 h62 ∧
 ∃ l63 : List Value, List.length l63 = 12 ∧ CellsAt B h62 ⟨k60, 0, none⟩ 0 l63 ∧
 List.length l63 = 12 ∧ ∃ h64 : Heap, StoresAt ⟨k14, 0, none⟩ h62 0 l63 h64 ∧
 Fin B h64 (fun h' => S_countermandref21_Opened_J1 B k6 a11 n12 c13 k14 (IntKind.wrap .i64 (i47)) h' Q)) ∧ (b53 = false →
 ∀ k54 : Nat, h51 k54 = none → B k54 = none → ∀ h55 : Heap, h55 = Heap.set h51 k54 (.vec 29 (plains [(.bool false), (.string ByteArray.empty), (.bool false), (.string ByteArray.empty), (.bool false), (.string ByteArray.empty), (.bool false), (.string ByteArray.empty), (.bool false), (.string ByteArray.empty), (.bool false), (.string ByteArray.empty)]) 12) →
 List.length l52 = 12 ∧ ∃ h56 : Heap, StoresAt ⟨k54, 0, none⟩ h55 0 l52 h56 ∧
 ∃ l57 : List Value, List.length l57 = 12 ∧ CellsAt B h56 ⟨k14, 0, none⟩ 0 l57 ∧
 List.length l57 = 12 ∧ ∃ h58 : Heap, StoresAt ⟨k6, 0, none⟩ h56 0 l57 h58 ∧
 ∃ l59 : List Value, List.length l59 = 12 ∧ CellsAt B h58 ⟨k6, 0, none⟩ 0 l59 ∧ Fin B h58 (Q l59 (0) (false))))
def S_countermandref21_Opened (B : RO) (s1 : ByteArray) (s2 : ByteArray) (h : Heap) (Q : List Value → Int → Bool → Heap → Prop) : Prop :=
 ∀ k6 : Nat, h k6 = none → B k6 = none → ∀ h7 : Heap, h7 = Heap.set h k6 (.vec 29 (plains [(.bool false), (.string ByteArray.empty), (.bool false), (.string ByteArray.empty), (.bool false), (.string ByteArray.empty), (.bool false), (.string ByteArray.empty), (.bool false), (.string ByteArray.empty), (.bool false), (.string ByteArray.empty)]) 12) →
 C_countermandref05_Found B s1 s2 h7 (fun i9 s10 a11 n12 c13 h8 =>
 ∀ k14 : Nat, h8 k14 = none → B k14 = none → ∀ h15 : Heap, h15 = Heap.set h8 k14 (.vec 29 (plains [(.bool false), (.string ByteArray.empty), (.bool false), (.string ByteArray.empty), (.bool false), (.string ByteArray.empty), (.bool false), (.string ByteArray.empty), (.bool false), (.string ByteArray.empty), (.bool false), (.string ByteArray.empty)]) 12) →
 (s10 = (ByteArray.mk #[]) →
 Fin B h15 (fun h' => S_countermandref21_Opened_J1 B k6 a11 n12 c13 k14 (0) h' Q)) ∧ (¬ (s10 = (ByteArray.mk #[])) →
 C_countermandref01_Taken B s10 h15 (fun i47 i48 h46 =>
 ((i48 : Int) = 0 →
 ∃ l65 : List Value, List.length l65 = 12 ∧ CellsAt B h46 ⟨k14, 0, none⟩ 0 l65 ∧
 List.length l65 = 12 ∧ ∃ h66 : Heap, StoresAt ⟨k6, 0, none⟩ h46 0 l65 h66 ∧
 ∃ l67 : List Value, List.length l67 = 12 ∧ CellsAt B h66 ⟨k6, 0, none⟩ 0 l67 ∧ Fin B h66 (Q l67 (0) (false))) ∧ (¬ ((i48 : Int) = 0) →
 ((i47 : Int) > (1099511627776) →
 ∃ l68 : List Value, List.length l68 = 12 ∧ CellsAt B h46 ⟨k14, 0, none⟩ 0 l68 ∧
 List.length l68 = 12 ∧ ∃ h69 : Heap, StoresAt ⟨k6, 0, none⟩ h46 0 l68 h69 ∧
 ∃ l70 : List Value, List.length l70 = 12 ∧ CellsAt B h69 ⟨k6, 0, none⟩ 0 l70 ∧ Fin B h69 (Q l70 (0) (false))) ∧ (¬ ((i47 : Int) > (1099511627776)) →
 Fin B h46 (fun h' => S_countermandref21_Opened_J2 B k6 s10 a11 n12 c13 k14 i47 i48 h' Q))))))
def S_world_Open (B : RO) (p1 : Option Addr) (h : Heap) (Q : Option Addr → Int → Heap → Prop) : Prop :=
 C_vault_Open B p1 h (fun p5 s6 a7 n8 c9 i10 h4 =>
 ∀ k11 : Nat, h4 k11 = none → B k11 = none → ∀ h12 : Heap, h12 = Heap.set h4 k11 (.vec 99 (plains [(.string ByteArray.empty), (.slice none 0 0)]) 2) →
 ∃ h13 : Heap, StoresAt ⟨k11, 0, none⟩ h12 0 [(.string s6), (.slice a7 n8 c9)] h13 ∧
 ((i10 : Int) = 0 →
 ∃ s14 : ByteArray, cellH B h13 ⟨k11, 0, none⟩ = some (.string s14) ∧
 C_world_read B s14 h13 (fun i16 p17 b18 h15 =>
 (b18 = true →
 LdSl B h15 ⟨k11, 1, none⟩ fun a19 n20 c21 h22 =>
 C_redo_Replay B p17 a19 n20 c21 h22 (fun i24 i25 h23 =>
 LdSl B h23 ⟨k11, 1, none⟩ fun a26 n27 c28 h29 =>
 ((i25 : Int) < ((n27 : Nat)) →
 Fin B h29 (Q none (4))) ∧ (¬ ((i25 : Int) < ((n27 : Nat))) →
 C_world_image B (if (i24 : Int) > (i16) then (i24 : Int) else (i16)) p17 h29 (fun s31 h30 =>
 C_vault_Vault_Settle B p5 s31 h30 (fun i33 h32 =>
 ((i33 : Int) = 0 →
 C_attempt_NewView B h32 (fun p35 h34 =>
 C_wire_New B h34 (fun p37 h36 =>
 C_token_New B h36 (fun p39 h38 =>
 ∀ k40 : Nat, h38 k40 = none → B k40 = none → ∀ h41 : Heap, h41 = Heap.set h38 k40 (.vec 109 (plains [(.pointer p35), (.pointer p37), (.pointer p39), (.pointer p1), (.pointer p5), (.int .i64 (0)), (.int .i64 (0)), (.int .i64 (0)), (.int .i64 (0)), (.slice none 0 0), (.int .i64 (if (i24 : Int) > (i16) then (i24 : Int) else (i16))), (.int .i64 (0))]) 12) →
 ∃ p42 : Option Addr, cellH B h41 ⟨k40, 0, none⟩ = some (.pointer p42) ∧
 ∃ A43 : Addr, p42 = some A43 ∧
 ∃ h45 : Heap, storeH h41 (Addr.add A43 1) (.pointer p17) = some h45 ∧
 Fin B h45 (Q (some ⟨k40, 0, none⟩) (0)))))) ∧ (¬ ((i33 : Int) = 0) →
 Fin B h32 (Q none (i33)))))))) ∧ (b18 = false →
 Fin B h15 (Q none (4))))) ∧ (¬ ((i10 : Int) = 0) →
 Fin B h13 (Q none (i10))))
def S_countermandref05_Found (B : RO) (s1 : ByteArray) (s2 : ByteArray) (h : Heap) (Q : Int → ByteArray → Option Addr → Nat → Nat → Heap → Prop) : Prop :=
 C_countermandref05_Told B s1 h (fun i9 s10 a11 n12 c13 h8 =>
 C_countermandref05_Told B s2 h8 (fun i15 s16 a17 n18 c19 h14 =>
 ((i15 : Int) > (i9) →
 Fin B h14 (Q (i15) s16 a17 n18 c19)) ∧ (¬ ((i15 : Int) > (i9)) →
 Fin B h14 (Q (i9) s10 a11 n12 c13))))
def S_countermandlaw21_are (B : RO) (p1 : Option Addr) (l2 : List Value) (h : Heap) (Q : Bool → Heap → Prop) : Prop :=
 ∀ k4 : Nat, h k4 = none → B k4 = none → ∀ h5 : Heap, h5 = Heap.set h k4 (.vec 29 (plains l2) (List.length l2)) →
 ∃ l6 : List Value, List.length l6 = 12 ∧ CellsAt B h5 ⟨k4, 0, none⟩ 0 l6 ∧
 ∃ (J12 : Int → Nat → Heap → Prop) (m10 : Nat), Fin B h5 (J12 (0) m10) ∧
 ∀ (i7 : Int) (m9 : Nat) (h8 : Heap), J12 i7 m9 h8 →
 ((i7 : Int) < (6) →
 0 ≤ (i7 : Int) ∧ (i7 : Int) < (6 : Nat) ∧ ∃ b13 : Bool, ∃ s14 : ByteArray, Array.extract (List.toArray l6) (Int.toNat (i7) * 2) (Int.toNat (i7) * 2 + 2) = #[(.bool b13), (.string s14)] ∧
 ∀ k15 : Nat, h8 k15 = none → B k15 = none → ∀ h16 : Heap, h16 = Heap.set h8 k15 (.vec 28 (plains [(.bool false), (.string ByteArray.empty)]) 2) →
 ∃ h17 : Heap, StoresAt ⟨k15, 0, none⟩ h16 0 [(.bool b13), (.string s14)] h17 ∧
 C_world_World_View B p1 h17 (fun p19 h18 =>
 ∃ A20 : Addr, p19 = some A20 ∧
 ∃ p22 : Option Addr, cellH B h18 (Addr.add A20 1) = some (.pointer p22) ∧
 C_tome_Tome_Get B p22 (i7) h18 (fun b24 s25 i26 h23 =>
 ∀ k27 : Nat, h23 k27 = none → B k27 = none → ∀ h28 : Heap, h28 = Heap.set h23 k27 (.vec 111 (plains [(.bool false), (.string ByteArray.empty)]) 2) →
 ∃ h29 : Heap, StoresAt ⟨k27, 0, none⟩ h28 0 [(.bool b24), (.string s25)] h29 ∧
 ∃ b30 : Bool, ∃ s31 : ByteArray, CellsAt B h29 ⟨k27, 0, none⟩ 0 [(.bool b30), (.string s31)] ∧
 ∃ b32 : Bool, ∃ s33 : ByteArray, CellsAt B h29 ⟨k15, 0, none⟩ 0 [(.bool b32), (.string s33)] ∧
 (eqL [(.bool b30), (.string s31)] [(.bool b32), (.string s33)] = true →
 Fin B h29 (fun h' => ∃ m', m' < m9 ∧ J12 (IntKind.wrap .i64 ((i7) + (1))) m' h')) ∧ (¬ (eqL [(.bool b30), (.string s31)] [(.bool b32), (.string s33)] = true) →
 Fin B h29 (Q (false)))))) ∧ (¬ ((i7 : Int) < (6)) →
 Fin B h8 (Q (true)))
def S_world_World_Blocks (B : RO) (p1 : Option Addr) (h : Heap) (Q : Int → Heap → Prop) : Prop :=
 (p1 = none →
 Fin B h (Q (0))) ∧ (¬ (p1 = none) →
 ∃ A4 : Addr, p1 = some A4 ∧
 ∃ i6 : Int, cellH B h (Addr.add A4 10) = some (.int .i64 (i6)) ∧
 Fin B h (Q (i6)))
def S_world_World_View (B : RO) (p1 : Option Addr) (h : Heap) (Q : Option Addr → Heap → Prop) : Prop :=
 (p1 = none →
 Fin B h (Q none)) ∧ (¬ (p1 = none) →
 ∃ A4 : Addr, p1 = some A4 ∧
 ∃ p6 : Option Addr, cellH B h A4 = some (.pointer p6) ∧
 Fin B h (Q p6))
def S_world_World_Tallies (B : RO) (p1 : Option Addr) (h : Heap) (Q : Int → Int → Int → Int → Heap → Prop) : Prop :=
 ∀ k6 : Nat, h k6 = none → B k6 = none → ∀ h7 : Heap, h7 = Heap.set h k6 (.vec 47 (plains [(.int .i64 (0)), (.int .i64 (0)), (.int .i64 (0)), (.int .i64 (0))]) 4) →
 (p1 = none →
 ∃ h9 : Heap, StoresAt ⟨k6, 0, none⟩ h7 0 [(.int .i64 (0)), (.int .i64 (0)), (.int .i64 (0)), (.int .i64 (0))] h9 ∧
 ∃ i10 : Int, ∃ i11 : Int, ∃ i12 : Int, ∃ i13 : Int, CellsAt B h9 ⟨k6, 0, none⟩ 0 [(.int .i64 (i10)), (.int .i64 (i11)), (.int .i64 (i12)), (.int .i64 (i13))] ∧ Fin B h9 (Q (i10) (i11) (i12) (i13))) ∧ (¬ (p1 = none) →
 ∃ A14 : Addr, p1 = some A14 ∧
 ∃ i16 : Int, ∃ i17 : Int, ∃ i18 : Int, ∃ i19 : Int, CellsAt B h7 (Addr.add A14 5) 0 [(.int .i64 (i16)), (.int .i64 (i17)), (.int .i64 (i18)), (.int .i64 (i19))] ∧
 ∃ h20 : Heap, StoresAt ⟨k6, 0, none⟩ h7 0 [(.int .i64 (i16)), (.int .i64 (i17)), (.int .i64 (i18)), (.int .i64 (i19))] h20 ∧
 ∃ i21 : Int, ∃ i22 : Int, ∃ i23 : Int, ∃ i24 : Int, CellsAt B h20 ⟨k6, 0, none⟩ 0 [(.int .i64 (i21)), (.int .i64 (i22)), (.int .i64 (i23)), (.int .i64 (i24))] ∧ Fin B h20 (Q (i21) (i22) (i23) (i24)))
def S_world_World_Notes (B : RO) (p1 : Option Addr) (h : Heap) (Q : Option Addr → Nat → Nat → Heap → Prop) : Prop :=
 (p1 = none →
 Fin B h (Q none 0 0)) ∧ (¬ (p1 = none) →
 ∃ A6 : Addr, p1 = some A6 ∧
 LdSl B h (Addr.add A6 9) fun a8 n9 c10 h11 =>
 C_slices_Clone_s_world_Note_world_Note B a8 n9 c10 h11 (fun a13 n14 c15 h12 =>
 Fin B h12 (Q a13 n14 c15)))
def S_world_World_Disk (B : RO) (p1 : Option Addr) (h : Heap) (Q : Option Addr → Heap → Prop) : Prop :=
 (p1 = none →
 Fin B h (Q none)) ∧ (¬ (p1 = none) →
 ∃ A4 : Addr, p1 = some A4 ∧
 ∃ p6 : Option Addr, cellH B h (Addr.add A4 3) = some (.pointer p6) ∧
 Fin B h (Q p6))
def S_disk_Disk_Crash_J1 (B : RO) (p1 : Option Addr) (h6 : Heap) (Q : Heap → Prop) : Prop :=
 ∃ A7 : Addr, p1 = some A7 ∧
 ∃ h9 : Heap, storeH h6 (Addr.add A7 4) (.slice none 0 0) = some h9 ∧
 ∃ (J15 : Int → Nat → Heap → Prop) (m13 : Nat), Fin B h9 (J15 (0) m13) ∧
 ∀ (i10 : Int) (m12 : Nat) (h11 : Heap), J15 i10 m12 h11 →
 ((i10 : Int) < (2) →
 ∃ A16 : Addr, p1 = some A16 ∧
 0 ≤ (i10 : Int) ∧ (i10 : Int) < (2 : Nat) ∧
 ∃ s18 : ByteArray, cellH B h11 (Addr.add (Addr.add A16 (Int.toNat (i10) * 2)) 1) = some (.string s18) ∧
 ∃ A19 : Addr, p1 = some A19 ∧
 0 ≤ (i10 : Int) ∧ (i10 : Int) < (2 : Nat) ∧
 ∃ h21 : Heap, storeH h11 (Addr.add A19 (Int.toNat (i10) * 2)) (.string s18) = some h21 ∧
 Fin B h21 (fun h' => ∃ m', m' < m12 ∧ J15 (IntKind.wrap .i64 ((i10) + (1))) m' h')) ∧ (¬ ((i10 : Int) < (2)) →
 Fin B h11 (Q))
def S_disk_Disk_Crash (B : RO) (p1 : Option Addr) (i2 : Int) (i3 : Int) (h : Heap) (Q : Heap → Prop) : Prop :=
 (p1 = none →
 Fin B h (Q)) ∧ (¬ (p1 = none) →
 ∃ A22 : Addr, p1 = some A22 ∧
 LdSl B h (Addr.add A22 4) fun a24 n25 c26 h27 =>
 ∃ (J33 : Int → Nat → Heap → Prop) (m31 : Nat), Fin B h27 (J33 (0) m31) ∧
 ∀ (i28 : Int) (m30 : Nat) (h29 : Heap), J33 i28 m30 h29 →
 ((i28 : Int) < ((n25 : Nat)) →
 ∃ A34 : Addr, a24 = some A34 ∧ 0 ≤ (i28 : Int) ∧ (i28 : Int) < (n25 : Nat) ∧
 ∃ i36 : Int, ∃ b37 : Bool, ∃ s38 : ByteArray, CellsAt B h29 (Addr.add A34 (Int.toNat (i28) * 3)) 0 [(.int .i64 (i36)), (.bool b37), (.string s38)] ∧
 ∀ k39 : Nat, h29 k39 = none → B k39 = none → ∀ h40 : Heap, h40 = Heap.set h29 k39 (.vec 87 (plains [(.int .i64 (0)), (.bool false), (.string ByteArray.empty)]) 3) →
 ∃ h41 : Heap, StoresAt ⟨k39, 0, none⟩ h40 0 [(.int .i64 (i36)), (.bool b37), (.string s38)] h41 ∧
 ((i28 : Int) ≥ (i2) →
 ∃ b42 : Bool, cellH B h41 ⟨k39, 1, none⟩ = some (.bool b42) ∧ (b42 = true →
 Fin B h41 (fun h' => S_disk_Disk_Crash_J1 B p1 h' Q)) ∧ (b42 = false →
 ∃ s43 : ByteArray, cellH B h41 ⟨k39, 2, none⟩ = some (.string s43) ∧
 ∃ s44 : ByteArray, cellH B h41 ⟨k39, 2, none⟩ = some (.string s44) ∧
 0 ≤ (0 : Int) ∧ (0 : Int) ≤ (if ((ByteArray.size s44 : Nat) : Int) < (if (0 : Int) > (i3) then (0 : Int) else (i3)) then ((ByteArray.size s44 : Nat) : Int) else (if (0 : Int) > (i3) then (0 : Int) else (i3)) : Int) ∧ (if ((ByteArray.size s44 : Nat) : Int) < (if (0 : Int) > (i3) then (0 : Int) else (i3)) then ((ByteArray.size s44 : Nat) : Int) else (if (0 : Int) > (i3) then (0 : Int) else (i3)) : Int) ≤ (ByteArray.size s43 : Nat) ∧
 ∃ h45 : Heap, storeH h41 ⟨k39, 2, none⟩ (.string (ByteArray.extract s43 (Int.toNat (0)) (Int.toNat (if ((ByteArray.size s44 : Nat) : Int) < (if (0 : Int) > (i3) then (0 : Int) else (i3)) then ((ByteArray.size s44 : Nat) : Int) else (if (0 : Int) > (i3) then (0 : Int) else (i3)))))) = some h45 ∧
 ∃ i46 : Int, ∃ b47 : Bool, ∃ s48 : ByteArray, CellsAt B h45 ⟨k39, 0, none⟩ 0 [(.int .i64 (i46)), (.bool b47), (.string s48)] ∧
 C_disk_Disk_land B p1 (i46) (b47) s48 h45 (fun h49 =>
 Fin B h49 (fun h' => S_disk_Disk_Crash_J1 B p1 h' Q)))) ∧ (¬ ((i28 : Int) ≥ (i2)) →
 ∃ i50 : Int, ∃ b51 : Bool, ∃ s52 : ByteArray, CellsAt B h41 ⟨k39, 0, none⟩ 0 [(.int .i64 (i50)), (.bool b51), (.string s52)] ∧
 C_disk_Disk_land B p1 (i50) (b51) s52 h41 (fun h53 =>
 Fin B h53 (fun h' => ∃ m', m' < m30 ∧ J33 (IntKind.wrap .i64 ((i28) + (1))) m' h')))) ∧ (¬ ((i28 : Int) < ((n25 : Nat))) →
 Fin B h29 (fun h' => S_disk_Disk_Crash_J1 B p1 h' Q)))
def S_world_World_Add_J1 (B : RO) (p1 : Option Addr) (a2 : Option Addr) (n3 : Nat) (c4 : Nat) (i6 : Int) (m8 : Nat) (J11 : Int → Nat → Heap → Prop) (k16 : Nat) (b20 : Bool) (h21 : Heap) (Q : Heap → Prop) : Prop :=
 (b20 = true →
 ∃ i22 : Int, cellH B h21 ⟨k16, 0, none⟩ = some (.int .i64 (i22)) ∧
 ∃ A23 : Addr, p1 = some A23 ∧
 0 ≤ (i22 : Int) ∧ (i22 : Int) < (4 : Nat) ∧
 ∃ i25 : Int, cellH B h21 (Addr.add (Addr.add A23 5) (Int.toNat (i22) * 1)) = some (.int .i64 (i25)) ∧
 ∃ i26 : Int, cellH B h21 ⟨k16, 1, none⟩ = some (.int .i64 (i26)) ∧
 ∃ A27 : Addr, p1 = some A27 ∧
 0 ≤ (i22 : Int) ∧ (i22 : Int) < (4 : Nat) ∧
 ∃ h29 : Heap, storeH h21 (Addr.add (Addr.add A27 5) (Int.toNat (i22) * 1)) (.int .i64 (IntKind.wrap .i64 ((i25) + (i26)))) = some h29 ∧
 Fin B h29 (fun h' => ∃ m', m' < m8 ∧ J11 (IntKind.wrap .i64 ((i6) + (1))) m' h')) ∧ (b20 = false →
 Fin B h21 (fun h' => ∃ m', m' < m8 ∧ J11 (IntKind.wrap .i64 ((i6) + (1))) m' h'))
def S_world_World_Add (B : RO) (p1 : Option Addr) (a2 : Option Addr) (n3 : Nat) (c4 : Nat) (h : Heap) (Q : Heap → Prop) : Prop :=
 (p1 = none →
 Fin B h (Q)) ∧ (¬ (p1 = none) →
 ∃ (J11 : Int → Nat → Heap → Prop) (m9 : Nat), Fin B h (J11 (0) m9) ∧
 ∀ (i6 : Int) (m8 : Nat) (h7 : Heap), J11 i6 m8 h7 →
 ((i6 : Int) < ((n3 : Nat)) →
 ∃ A12 : Addr, a2 = some A12 ∧ 0 ≤ (i6 : Int) ∧ (i6 : Int) < (n3 : Nat) ∧
 ∃ i14 : Int, ∃ i15 : Int, CellsAt B h7 (Addr.add A12 (Int.toNat (i6) * 2)) 0 [(.int .i64 (i14)), (.int .i64 (i15))] ∧
 ∀ k16 : Nat, h7 k16 = none → B k16 = none → ∀ h17 : Heap, h17 = Heap.set h7 k16 (.vec 59 (plains [(.int .i64 (0)), (.int .i64 (0))]) 2) →
 ∃ h18 : Heap, StoresAt ⟨k16, 0, none⟩ h17 0 [(.int .i64 (i14)), (.int .i64 (i15))] h18 ∧
 ∃ i30 : Int, cellH B h18 ⟨k16, 0, none⟩ = some (.int .i64 (i30)) ∧
 ((i30 : Int) ≥ (0) →
 ∃ i31 : Int, cellH B h18 ⟨k16, 0, none⟩ = some (.int .i64 (i31)) ∧
 ((i31 : Int) < (4) →
 Fin B h18 (fun h' => S_world_World_Add_J1 B p1 a2 n3 c4 i6 m8 J11 k16 (true) h' Q)) ∧ (¬ ((i31 : Int) < (4)) →
 Fin B h18 (fun h' => S_world_World_Add_J1 B p1 a2 n3 c4 i6 m8 J11 k16 (false) h' Q))) ∧ (¬ ((i30 : Int) ≥ (0)) →
 Fin B h18 (fun h' => S_world_World_Add_J1 B p1 a2 n3 c4 i6 m8 J11 k16 (false) h' Q))) ∧ (¬ ((i6 : Int) < ((n3 : Nat))) →
 Fin B h7 (Q)))
def S_world_World_Done (B : RO) (p1 : Option Addr) (h : Heap) (Q : Heap → Prop) : Prop :=
 (p1 = none →
 Fin B h (Q)) ∧ (¬ (p1 = none) →
 ∃ A3 : Addr, p1 = some A3 ∧
 ∃ i5 : Int, cellH B h (Addr.add A3 10) = some (.int .i64 (i5)) ∧
 ∃ A6 : Addr, p1 = some A6 ∧
 ∃ h8 : Heap, storeH h (Addr.add A6 10) (.int .i64 (IntKind.wrap .i64 ((i5) + (1)))) = some h8 ∧
 Fin B h8 (Q))
def S_disk_good (B : RO) (i1 : Int) (h : Heap) (Q : Bool → Heap → Prop) : Prop :=
 ((i1 : Int) = 0 →
 Fin B h (Q (true))) ∧ (¬ ((i1 : Int) = 0) →
 Fin B h (Q (((i1 : Int) == (1)))))
def S_countermandref01_Taken_J2 (B : RO) (s1 : ByteArray) (i4 : Int) (i13 : Int) (h14 : Heap) (Q : Int → Int → Heap → Prop) : Prop :=
 0 ≤ (0 : Int) ∧ (0 : Int) ≤ (i4 : Int) ∧ (i4 : Int) ≤ (ByteArray.size s1 : Nat) ∧
 C_countermandref01_Wide B (i13) h14 (fun s23 h22 =>
 (s23 = (ByteArray.extract s1 (Int.toNat (0)) (Int.toNat (i4))) →
 Fin B h22 (Q (i13) (i4))) ∧ (¬ (s23 = (ByteArray.extract s1 (Int.toNat (0)) (Int.toNat (i4)))) →
 Fin B h22 (Q (0) (0))))
def S_countermandref01_Taken_J1 (B : RO) (s1 : ByteArray) (i4 : Int) (m6 : Nat) (J9 : Int → Nat → Heap → Prop) (h11 : Heap) (Q : Int → Int → Heap → Prop) : Prop :=
 0 ≤ (IntKind.wrap .i64 ((i4) - (1)) : Int) ∧ (IntKind.wrap .i64 ((i4) - (1)) : Int) < (ByteArray.size s1 : Nat) ∧
 ((byteAt s1 (Int.toNat (IntKind.wrap .i64 ((i4) - (1)))) : Int) > (127) →
 Fin B h11 (fun h' => ∃ m', m' < m6 ∧ J9 (IntKind.wrap .i64 ((i4) + (1))) m' h')) ∧ (¬ ((byteAt s1 (Int.toNat (IntKind.wrap .i64 ((i4) - (1)))) : Int) > (127)) →
 ∃ (J31 : Int → Int → Nat → Heap → Prop) (m29 : Nat), Fin B h11 (J31 (0) (IntKind.wrap .i64 ((i4) - (1))) m29) ∧
 ∀ (i25 : Int) (i26 : Int) (m28 : Nat) (h27 : Heap), J31 i25 i26 m28 h27 →
 ((i26 : Int) ≥ (0) →
 0 ≤ (i26 : Int) ∧ (i26 : Int) < (ByteArray.size s1 : Nat) ∧
 ¬ ((128 : Int) = 0) ∧
 Fin B h27 (fun h' => ∃ m', m' < m28 ∧ J31 (IntKind.wrap .u64 ((IntKind.wrap .u64 ((i25) * (128))) + (Int.tmod (IntKind.wrap .u64 (byteAt s1 (Int.toNat (i26)))) (128)))) (IntKind.wrap .i64 ((i26) - (1))) m' h')) ∧ (¬ ((i26 : Int) ≥ (0)) →
 Fin B h27 (fun h' => S_countermandref01_Taken_J2 B s1 i4 (i25) h' Q)))
def S_countermandref01_Taken (B : RO) (s1 : ByteArray) (h : Heap) (Q : Int → Int → Heap → Prop) : Prop :=
 ∃ (J9 : Int → Nat → Heap → Prop) (m7 : Nat), Fin B h (J9 (1) m7) ∧
 ∀ (i4 : Int) (m6 : Nat) (h5 : Heap), J9 i4 m6 h5 →
 ((i4 : Int) ≤ (10) →
 ((i4 : Int) ≤ ((ByteArray.size s1 : Nat)) →
 Fin B h5 (fun h' => S_countermandref01_Taken_J1 B s1 i4 m6 J9 h' Q)) ∧ (¬ ((i4 : Int) ≤ ((ByteArray.size s1 : Nat))) →
 Fin B h5 (Q (0) (0)))) ∧ (¬ ((i4 : Int) ≤ (10)) →
 Fin B h5 (Q (0) (0)))
def S_countermandref10_Read_J3 (B : RO) (k4 : Nat) (k6 : Nat) (s8 : ByteArray) (m10 : Nat) (J13 : ByteArray → Nat → Heap → Prop) (i15 : Int) (i16 : Int) (i20 : Int) (i21 : Int) (h25 : Heap) (Q : List Value → Bool → Heap → Prop) : Prop :=
 0 ≤ (i21 : Int) ∧ (i21 : Int) ≤ (IntKind.wrap .i64 ((i21) + (IntKind.wrap .i64 (i20))) : Int) ∧ (IntKind.wrap .i64 ((i21) + (IntKind.wrap .i64 (i20))) : Int) ≤ (ByteArray.size (ByteArray.extract s8 (Int.toNat (i16)) (Int.toNat ((ByteArray.size s8 : Nat)))) : Nat) ∧
 0 ≤ (i15 : Int) ∧ (i15 : Int) < (6 : Nat) ∧
 ∃ h26 : Heap, StoresAt (Addr.add ⟨k6, 0, none⟩ (Int.toNat (i15) * 2)) h25 0 [(.bool true), (.string (ByteArray.extract (ByteArray.extract s8 (Int.toNat (i16)) (Int.toNat ((ByteArray.size s8 : Nat)))) (Int.toNat (i21)) (Int.toNat (IntKind.wrap .i64 ((i21) + (IntKind.wrap .i64 (i20)))))))] h26 ∧
 0 ≤ (IntKind.wrap .i64 ((i21) + (IntKind.wrap .i64 (i20))) : Int) ∧ (IntKind.wrap .i64 ((i21) + (IntKind.wrap .i64 (i20))) : Int) ≤ ((ByteArray.size (ByteArray.extract s8 (Int.toNat (i16)) (Int.toNat ((ByteArray.size s8 : Nat)))) : Nat) : Int) ∧ ((ByteArray.size (ByteArray.extract s8 (Int.toNat (i16)) (Int.toNat ((ByteArray.size s8 : Nat)))) : Nat) : Int) ≤ (ByteArray.size (ByteArray.extract s8 (Int.toNat (i16)) (Int.toNat ((ByteArray.size s8 : Nat)))) : Nat) ∧
 Fin B h26 (fun h' => ∃ m', m' < m10 ∧ J13 (ByteArray.extract (ByteArray.extract s8 (Int.toNat (i16)) (Int.toNat ((ByteArray.size s8 : Nat)))) (Int.toNat (IntKind.wrap .i64 ((i21) + (IntKind.wrap .i64 (i20))))) (Int.toNat ((ByteArray.size (ByteArray.extract s8 (Int.toNat (i16)) (Int.toNat ((ByteArray.size s8 : Nat)))) : Nat)))) m' h')
def S_countermandref10_Read_J2 (B : RO) (k4 : Nat) (k6 : Nat) (s8 : ByteArray) (m10 : Nat) (J13 : ByteArray → Nat → Heap → Prop) (i15 : Int) (i16 : Int) (i20 : Int) (i21 : Int) (h23 : Heap) (Q : List Value → Bool → Heap → Prop) : Prop :=
 0 ≤ (i15 : Int) ∧ (i15 : Int) ≤ ((6 : Nat) : Int) ∧ ((6 : Nat) : Int) ≤ (6 : Nat) ∧
 ∃ (J32 : Int → Nat → Heap → Prop) (m30 : Nat), Fin B h23 (J32 (0) m30) ∧
 ∀ (i27 : Int) (m29 : Nat) (h28 : Heap), J32 i27 m29 h28 →
 ((i27 : Int) < (((Int.toNat ((6 : Nat)) - Int.toNat (i15)) : Nat)) →
 ∃ A33 : Addr, (some (if 6 = Int.toNat (i15) then ⟨k6, 0, none⟩ else Addr.add ⟨k6, 0, none⟩ (Int.toNat (i15) * 2))) = some A33 ∧ 0 ≤ (i27 : Int) ∧ (i27 : Int) < ((Int.toNat ((6 : Nat)) - Int.toNat (i15)) : Nat) ∧
 ∃ b35 : Bool, ∃ s36 : ByteArray, CellsAt B h28 (Addr.add A33 (Int.toNat (i27) * 2)) 0 [(.bool b35), (.string s36)] ∧
 ∀ k37 : Nat, h28 k37 = none → B k37 = none → ∀ h38 : Heap, h38 = Heap.set h28 k37 (.vec 28 (plains [(.bool false), (.string ByteArray.empty)]) 2) →
 ∃ h39 : Heap, StoresAt ⟨k37, 0, none⟩ h38 0 [(.bool b35), (.string s36)] h39 ∧
 ∃ b40 : Bool, cellH B h39 ⟨k37, 0, none⟩ = some (.bool b40) ∧ (b40 = true →
 ∃ h41 : Heap, StoresAt ⟨k4, 0, none⟩ h39 0 [(.bool false), (.string ByteArray.empty), (.bool false), (.string ByteArray.empty), (.bool false), (.string ByteArray.empty), (.bool false), (.string ByteArray.empty), (.bool false), (.string ByteArray.empty), (.bool false), (.string ByteArray.empty)] h41 ∧
 ∃ l42 : List Value, List.length l42 = 12 ∧ CellsAt B h41 ⟨k4, 0, none⟩ 0 l42 ∧ Fin B h41 (Q l42 (false))) ∧ (b40 = false →
 Fin B h39 (fun h' => ∃ m', m' < m29 ∧ J32 (IntKind.wrap .i64 ((i27) + (1))) m' h'))) ∧ (¬ ((i27 : Int) < (((Int.toNat ((6 : Nat)) - Int.toNat (i15)) : Nat))) →
 Fin B h28 (fun h' => S_countermandref10_Read_J3 B k4 k6 s8 m10 J13 i15 i16 i20 i21 h' Q))
def S_countermandref10_Read_J1 (B : RO) (k4 : Nat) (k6 : Nat) (s8 : ByteArray) (m10 : Nat) (J13 : ByteArray → Nat → Heap → Prop) (i15 : Int) (i16 : Int) (h18 : Heap) (Q : List Value → Bool → Heap → Prop) : Prop :=
 0 ≤ (i16 : Int) ∧ (i16 : Int) ≤ ((ByteArray.size s8 : Nat) : Int) ∧ ((ByteArray.size s8 : Nat) : Int) ≤ (ByteArray.size s8 : Nat) ∧
 C_countermandref01_Taken B (ByteArray.extract s8 (Int.toNat (i16)) (Int.toNat ((ByteArray.size s8 : Nat)))) h18 (fun i20 i21 h19 =>
 ((i21 : Int) = 0 →
 ∃ h43 : Heap, StoresAt ⟨k4, 0, none⟩ h19 0 [(.bool false), (.string ByteArray.empty), (.bool false), (.string ByteArray.empty), (.bool false), (.string ByteArray.empty), (.bool false), (.string ByteArray.empty), (.bool false), (.string ByteArray.empty), (.bool false), (.string ByteArray.empty)] h43 ∧
 ∃ l44 : List Value, List.length l44 = 12 ∧ CellsAt B h43 ⟨k4, 0, none⟩ 0 l44 ∧ Fin B h43 (Q l44 (false))) ∧ (¬ ((i21 : Int) = 0) →
 ((i20 : Int) > (32) →
 ∃ h45 : Heap, StoresAt ⟨k4, 0, none⟩ h19 0 [(.bool false), (.string ByteArray.empty), (.bool false), (.string ByteArray.empty), (.bool false), (.string ByteArray.empty), (.bool false), (.string ByteArray.empty), (.bool false), (.string ByteArray.empty), (.bool false), (.string ByteArray.empty)] h45 ∧
 ∃ l46 : List Value, List.length l46 = 12 ∧ CellsAt B h45 ⟨k4, 0, none⟩ 0 l46 ∧ Fin B h45 (Q l46 (false))) ∧ (¬ ((i20 : Int) > (32)) →
 ((IntKind.wrap .u64 (IntKind.wrap .i64 (((ByteArray.size (ByteArray.extract s8 (Int.toNat (i16)) (Int.toNat ((ByteArray.size s8 : Nat)))) : Nat)) - (i21))) : Int) < (i20) →
 ∃ h47 : Heap, StoresAt ⟨k4, 0, none⟩ h19 0 [(.bool false), (.string ByteArray.empty), (.bool false), (.string ByteArray.empty), (.bool false), (.string ByteArray.empty), (.bool false), (.string ByteArray.empty), (.bool false), (.string ByteArray.empty), (.bool false), (.string ByteArray.empty)] h47 ∧
 ∃ l48 : List Value, List.length l48 = 12 ∧ CellsAt B h47 ⟨k4, 0, none⟩ 0 l48 ∧ Fin B h47 (Q l48 (false))) ∧ (¬ ((IntKind.wrap .u64 (IntKind.wrap .i64 (((ByteArray.size (ByteArray.extract s8 (Int.toNat (i16)) (Int.toNat ((ByteArray.size s8 : Nat)))) : Nat)) - (i21))) : Int) < (i20)) →
 Fin B h19 (fun h' => S_countermandref10_Read_J2 B k4 k6 s8 m10 J13 i15 i16 i20 i21 h' Q)))))
def S_countermandref10_Read (B : RO) (s1 : ByteArray) (h : Heap) (Q : List Value → Bool → Heap → Prop) : Prop :=
 ∀ k4 : Nat, h k4 = none → B k4 = none → ∀ h5 : Heap, h5 = Heap.set h k4 (.vec 29 (plains [(.bool false), (.string ByteArray.empty), (.bool false), (.string ByteArray.empty), (.bool false), (.string ByteArray.empty), (.bool false), (.string ByteArray.empty), (.bool false), (.string ByteArray.empty), (.bool false), (.string ByteArray.empty)]) 12) →
 ∀ k6 : Nat, h5 k6 = none → B k6 = none → ∀ h7 : Heap, h7 = Heap.set h5 k6 (.vec 29 (plains [(.bool false), (.string ByteArray.empty), (.bool false), (.string ByteArray.empty), (.bool false), (.string ByteArray.empty), (.bool false), (.string ByteArray.empty), (.bool false), (.string ByteArray.empty), (.bool false), (.string ByteArray.empty)]) 12) →
 ∃ (J13 : ByteArray → Nat → Heap → Prop) (m11 : Nat), Fin B h7 (J13 s1 m11) ∧
 ∀ (s8 : ByteArray) (m10 : Nat) (h9 : Heap), J13 s8 m10 h9 →
 (((ByteArray.size s8 : Nat) : Int) > (0) →
 C_countermandref01_Taken B s8 h9 (fun i15 i16 h14 =>
 ((i16 : Int) = 0 →
 ∃ h49 : Heap, StoresAt ⟨k4, 0, none⟩ h14 0 [(.bool false), (.string ByteArray.empty), (.bool false), (.string ByteArray.empty), (.bool false), (.string ByteArray.empty), (.bool false), (.string ByteArray.empty), (.bool false), (.string ByteArray.empty), (.bool false), (.string ByteArray.empty)] h49 ∧
 ∃ l50 : List Value, List.length l50 = 12 ∧ CellsAt B h49 ⟨k4, 0, none⟩ 0 l50 ∧ Fin B h49 (Q l50 (false))) ∧ (¬ ((i16 : Int) = 0) →
 ((i15 : Int) > (5) →
 ∃ h51 : Heap, StoresAt ⟨k4, 0, none⟩ h14 0 [(.bool false), (.string ByteArray.empty), (.bool false), (.string ByteArray.empty), (.bool false), (.string ByteArray.empty), (.bool false), (.string ByteArray.empty), (.bool false), (.string ByteArray.empty), (.bool false), (.string ByteArray.empty)] h51 ∧
 ∃ l52 : List Value, List.length l52 = 12 ∧ CellsAt B h51 ⟨k4, 0, none⟩ 0 l52 ∧ Fin B h51 (Q l52 (false))) ∧ (¬ ((i15 : Int) > (5)) →
 Fin B h14 (fun h' => S_countermandref10_Read_J1 B k4 k6 s8 m10 J13 i15 i16 h' Q))))) ∧ (¬ (((ByteArray.size s8 : Nat) : Int) > (0)) →
 ∃ l53 : List Value, List.length l53 = 12 ∧ CellsAt B h9 ⟨k6, 0, none⟩ 0 l53 ∧
 List.length l53 = 12 ∧ ∃ h54 : Heap, StoresAt ⟨k4, 0, none⟩ h9 0 l53 h54 ∧
 ∃ l55 : List Value, List.length l55 = 12 ∧ CellsAt B h54 ⟨k4, 0, none⟩ 0 l55 ∧ Fin B h54 (Q l55 (true)))
def S_countermandref18_Read_J3 (B : RO) (i8 : Int) (a12 : Option Addr) (n13 : Nat) (c14 : Nat) (m16 : Nat) (J19 : ByteArray → Option Addr → Nat → Nat → Nat → Heap → Prop) (k20 : Nat) (i36 : Int) (s37 : ByteArray) (h40 : Heap) (Q : Int → Option Addr → Nat → Nat → Bool → Heap → Prop) : Prop :=
 0 ≤ (0 : Int) ∧ (0 : Int) ≤ (i36 : Int) ∧ (i36 : Int) ≤ (ByteArray.size s37 : Nat) ∧
 ∃ h41 : Heap, StoresAt ⟨k20, 1, none⟩ h40 0 [(.bool true), (.string (ByteArray.extract s37 (Int.toNat (0)) (Int.toNat (i36))))] h41 ∧
 0 ≤ (i36 : Int) ∧ (i36 : Int) ≤ ((ByteArray.size s37 : Nat) : Int) ∧ ((ByteArray.size s37 : Nat) : Int) ≤ (ByteArray.size s37 : Nat) ∧
 ∃ i42 : Int, ∃ b43 : Bool, ∃ s44 : ByteArray, CellsAt B h41 ⟨k20, 0, none⟩ 0 [(.int .i64 (i42)), (.bool b43), (.string s44)] ∧
 ∀ k45 : Nat, h41 k45 = none → B k45 = none → ∀ h46 : Heap, h46 = Heap.set h41 k45 (.vec 132 (plains [(.int .i64 (i42)), (.bool b43), (.string s44)]) 3) →
 semH PG B (Builtin.append_ #[93, 93] 93 #[(.slice a12 n13 c14), (.slice (some ⟨k45, 0, none⟩) 1 1)]) h46 (fun v h47 => ∃ a48 : Option Addr, ∃ n49 : Nat, ∃ c50 : Nat, v = (.slice a48 n49 c50) ∧
 Fin B h47 (fun h' => ∃ m', m' < m16 ∧ J19 (ByteArray.extract s37 (Int.toNat (i36)) (Int.toNat ((ByteArray.size s37 : Nat)))) a48 n49 c50 m' h'))
def S_countermandref18_Read_J2 (B : RO) (i8 : Int) (a12 : Option Addr) (n13 : Nat) (c14 : Nat) (m16 : Nat) (J19 : ByteArray → Option Addr → Nat → Nat → Nat → Heap → Prop) (k20 : Nat) (s29 : ByteArray) (i31 : Int) (h34 : Heap) (Q : Int → Option Addr → Nat → Nat → Bool → Heap → Prop) : Prop :=
 ((i31 : Int) = 1 →
 C_countermandref18_nat B s29 (32) h34 (fun i36 s37 b38 h35 =>
 (b38 = true →
 ((i36 : Int) > ((ByteArray.size s37 : Nat)) →
 Fin B h35 (Q (0) none 0 0 (false))) ∧ (¬ ((i36 : Int) > ((ByteArray.size s37 : Nat))) →
 Fin B h35 (fun h' => S_countermandref18_Read_J3 B i8 a12 n13 c14 m16 J19 k20 i36 s37 h' Q))) ∧ (b38 = false →
 Fin B h35 (Q (0) none 0 0 (false))))) ∧ (¬ ((i31 : Int) = 1) →
 ∃ i51 : Int, ∃ b52 : Bool, ∃ s53 : ByteArray, CellsAt B h34 ⟨k20, 0, none⟩ 0 [(.int .i64 (i51)), (.bool b52), (.string s53)] ∧
 ∀ k54 : Nat, h34 k54 = none → B k54 = none → ∀ h55 : Heap, h55 = Heap.set h34 k54 (.vec 132 (plains [(.int .i64 (i51)), (.bool b52), (.string s53)]) 3) →
 semH PG B (Builtin.append_ #[93, 93] 93 #[(.slice a12 n13 c14), (.slice (some ⟨k54, 0, none⟩) 1 1)]) h55 (fun v h56 => ∃ a57 : Option Addr, ∃ n58 : Nat, ∃ c59 : Nat, v = (.slice a57 n58 c59) ∧
 Fin B h56 (fun h' => ∃ m', m' < m16 ∧ J19 s29 a57 n58 c59 m' h')))
def S_countermandref18_Read_J1 (B : RO) (i8 : Int) (a12 : Option Addr) (n13 : Nat) (c14 : Nat) (m16 : Nat) (J19 : ByteArray → Option Addr → Nat → Nat → Nat → Heap → Prop) (k20 : Nat) (s29 : ByteArray) (b30 : Bool) (i31 : Int) (h32 : Heap) (Q : Int → Option Addr → Nat → Nat → Bool → Heap → Prop) : Prop :=
 (b30 = true →
 (((n13 : Nat) : Int) > (0) →
 ∃ A61 : Addr, a12 = some A61 ∧ 0 ≤ (IntKind.wrap .i64 (((n13 : Nat)) - (1)) : Int) ∧ (IntKind.wrap .i64 (((n13 : Nat)) - (1)) : Int) < (n13 : Nat) ∧
 ∃ i63 : Int, cellH B h32 (Addr.add A61 (Int.toNat (IntKind.wrap .i64 (((n13 : Nat)) - (1))) * 3)) = some (.int .i64 (i63)) ∧
 ∃ i64 : Int, cellH B h32 ⟨k20, 0, none⟩ = some (.int .i64 (i64)) ∧
 ((i63 : Int) ≥ (i64) →
 Fin B h32 (Q (0) none 0 0 (false))) ∧ (¬ ((i63 : Int) ≥ (i64)) →
 Fin B h32 (fun h' => S_countermandref18_Read_J2 B i8 a12 n13 c14 m16 J19 k20 s29 i31 h' Q))) ∧ (¬ (((n13 : Nat) : Int) > (0)) →
 Fin B h32 (fun h' => S_countermandref18_Read_J2 B i8 a12 n13 c14 m16 J19 k20 s29 i31 h' Q))) ∧ (b30 = false →
 Fin B h32 (Q (0) none 0 0 (false)))
def S_countermandref18_Read_J6 (B : RO) (i8 : Int) (a12 : Option Addr) (n13 : Nat) (c14 : Nat) (m16 : Nat) (J19 : ByteArray → Option Addr → Nat → Nat → Nat → Heap → Prop) (k20 : Nat) (i75 : Int) (s76 : ByteArray) (h79 : Heap) (Q : Int → Option Addr → Nat → Nat → Bool → Heap → Prop) : Prop :=
 0 ≤ (0 : Int) ∧ (0 : Int) ≤ (i75 : Int) ∧ (i75 : Int) ≤ (ByteArray.size s76 : Nat) ∧
 ∃ h80 : Heap, StoresAt ⟨k20, 1, none⟩ h79 0 [(.bool true), (.string (ByteArray.extract s76 (Int.toNat (0)) (Int.toNat (i75))))] h80 ∧
 0 ≤ (i75 : Int) ∧ (i75 : Int) ≤ ((ByteArray.size s76 : Nat) : Int) ∧ ((ByteArray.size s76 : Nat) : Int) ≤ (ByteArray.size s76 : Nat) ∧
 ∃ i81 : Int, ∃ b82 : Bool, ∃ s83 : ByteArray, CellsAt B h80 ⟨k20, 0, none⟩ 0 [(.int .i64 (i81)), (.bool b82), (.string s83)] ∧
 ∀ k84 : Nat, h80 k84 = none → B k84 = none → ∀ h85 : Heap, h85 = Heap.set h80 k84 (.vec 132 (plains [(.int .i64 (i81)), (.bool b82), (.string s83)]) 3) →
 semH PG B (Builtin.append_ #[93, 93] 93 #[(.slice a12 n13 c14), (.slice (some ⟨k84, 0, none⟩) 1 1)]) h85 (fun v h86 => ∃ a87 : Option Addr, ∃ n88 : Nat, ∃ c89 : Nat, v = (.slice a87 n88 c89) ∧
 Fin B h86 (fun h' => ∃ m', m' < m16 ∧ J19 (ByteArray.extract s76 (Int.toNat (i75)) (Int.toNat ((ByteArray.size s76 : Nat)))) a87 n88 c89 m' h'))
def S_countermandref18_Read_J5 (B : RO) (i8 : Int) (a12 : Option Addr) (n13 : Nat) (c14 : Nat) (m16 : Nat) (J19 : ByteArray → Option Addr → Nat → Nat → Nat → Heap → Prop) (k20 : Nat) (s68 : ByteArray) (i70 : Int) (h73 : Heap) (Q : Int → Option Addr → Nat → Nat → Bool → Heap → Prop) : Prop :=
 ((i70 : Int) = 1 →
 C_countermandref18_nat B s68 (32) h73 (fun i75 s76 b77 h74 =>
 (b77 = true →
 ((i75 : Int) > ((ByteArray.size s76 : Nat)) →
 Fin B h74 (Q (0) none 0 0 (false))) ∧ (¬ ((i75 : Int) > ((ByteArray.size s76 : Nat))) →
 Fin B h74 (fun h' => S_countermandref18_Read_J6 B i8 a12 n13 c14 m16 J19 k20 i75 s76 h' Q))) ∧ (b77 = false →
 Fin B h74 (Q (0) none 0 0 (false))))) ∧ (¬ ((i70 : Int) = 1) →
 ∃ i90 : Int, ∃ b91 : Bool, ∃ s92 : ByteArray, CellsAt B h73 ⟨k20, 0, none⟩ 0 [(.int .i64 (i90)), (.bool b91), (.string s92)] ∧
 ∀ k93 : Nat, h73 k93 = none → B k93 = none → ∀ h94 : Heap, h94 = Heap.set h73 k93 (.vec 132 (plains [(.int .i64 (i90)), (.bool b91), (.string s92)]) 3) →
 semH PG B (Builtin.append_ #[93, 93] 93 #[(.slice a12 n13 c14), (.slice (some ⟨k93, 0, none⟩) 1 1)]) h94 (fun v h95 => ∃ a96 : Option Addr, ∃ n97 : Nat, ∃ c98 : Nat, v = (.slice a96 n97 c98) ∧
 Fin B h95 (fun h' => ∃ m', m' < m16 ∧ J19 s68 a96 n97 c98 m' h')))
def S_countermandref18_Read_J4 (B : RO) (i8 : Int) (a12 : Option Addr) (n13 : Nat) (c14 : Nat) (m16 : Nat) (J19 : ByteArray → Option Addr → Nat → Nat → Nat → Heap → Prop) (k20 : Nat) (s68 : ByteArray) (b69 : Bool) (i70 : Int) (h71 : Heap) (Q : Int → Option Addr → Nat → Nat → Bool → Heap → Prop) : Prop :=
 (b69 = true →
 (((n13 : Nat) : Int) > (0) →
 ∃ A100 : Addr, a12 = some A100 ∧ 0 ≤ (IntKind.wrap .i64 (((n13 : Nat)) - (1)) : Int) ∧ (IntKind.wrap .i64 (((n13 : Nat)) - (1)) : Int) < (n13 : Nat) ∧
 ∃ i102 : Int, cellH B h71 (Addr.add A100 (Int.toNat (IntKind.wrap .i64 (((n13 : Nat)) - (1))) * 3)) = some (.int .i64 (i102)) ∧
 ∃ i103 : Int, cellH B h71 ⟨k20, 0, none⟩ = some (.int .i64 (i103)) ∧
 ((i102 : Int) ≥ (i103) →
 Fin B h71 (Q (0) none 0 0 (false))) ∧ (¬ ((i102 : Int) ≥ (i103)) →
 Fin B h71 (fun h' => S_countermandref18_Read_J5 B i8 a12 n13 c14 m16 J19 k20 s68 i70 h' Q))) ∧ (¬ (((n13 : Nat) : Int) > (0)) →
 Fin B h71 (fun h' => S_countermandref18_Read_J5 B i8 a12 n13 c14 m16 J19 k20 s68 i70 h' Q))) ∧ (b69 = false →
 Fin B h71 (Q (0) none 0 0 (false)))
def S_countermandref18_Read (B : RO) (s1 : ByteArray) (h : Heap) (Q : Int → Option Addr → Nat → Nat → Bool → Heap → Prop) : Prop :=
 C_countermandref18_nat B s1 (1099511627776) h (fun i8 s9 b10 h7 =>
 (b10 = true →
 ∃ (J19 : ByteArray → Option Addr → Nat → Nat → Nat → Heap → Prop) (m17 : Nat), Fin B h7 (J19 s9 none 0 0 m17) ∧
 ∀ (s11 : ByteArray) (a12 : Option Addr) (n13 : Nat) (c14 : Nat) (m16 : Nat) (h15 : Heap), J19 s11 a12 n13 c14 m16 h15 →
 (((ByteArray.size s11 : Nat) : Int) > (0) →
 ∀ k20 : Nat, h15 k20 = none → B k20 = none → ∀ h21 : Heap, h21 = Heap.set h15 k20 (.vec 132 (plains [(.int .i64 (0)), (.bool false), (.string ByteArray.empty)]) 3) →
 ∃ h22 : Heap, StoresAt ⟨k20, 0, none⟩ h21 0 [(.int .i64 (0)), (.bool false), (.string ByteArray.empty)] h22 ∧
 C_countermandref18_nat B s11 (5) h22 (fun i24 s25 b26 h23 =>
 (b26 = true →
 ∃ h66 : Heap, storeH h23 ⟨k20, 0, none⟩ (.int .i64 (i24)) = some h66 ∧
 C_countermandref18_nat B s25 (1) h66 (fun i106 s107 b108 h105 =>
 (b108 = true →
 Fin B h105 (fun h' => S_countermandref18_Read_J4 B i8 a12 n13 c14 m16 J19 k20 s107 (true) (i106) h' Q)) ∧ (b108 = false →
 Fin B h105 (fun h' => S_countermandref18_Read_J4 B i8 a12 n13 c14 m16 J19 k20 s107 (false) (i106) h' Q)))) ∧ (b26 = false →
 ∃ h27 : Heap, storeH h23 ⟨k20, 0, none⟩ (.int .i64 (i24)) = some h27 ∧
 Fin B h27 (fun h' => S_countermandref18_Read_J1 B i8 a12 n13 c14 m16 J19 k20 s25 (false) (0) h' Q)))) ∧ (¬ (((ByteArray.size s11 : Nat) : Int) > (0)) →
 Fin B h15 (Q (i8) a12 n13 c14 (true)))) ∧ (b10 = false →
 Fin B h7 (Q (0) none 0 0 (false))))
def S_countermandref18_Apply (B : RO) (l1 : List Value) (a2 : Option Addr) (n3 : Nat) (c4 : Nat) (h : Heap) (Q : List Value → Heap → Prop) : Prop :=
 ∀ k6 : Nat, h k6 = none → B k6 = none → ∀ h7 : Heap, h7 = Heap.set h k6 (.vec 29 (plains l1) (List.length l1)) →
 ∀ k8 : Nat, h7 k8 = none → B k8 = none → ∀ h9 : Heap, h9 = Heap.set h7 k8 (.vec 29 (plains [(.bool false), (.string ByteArray.empty), (.bool false), (.string ByteArray.empty), (.bool false), (.string ByteArray.empty), (.bool false), (.string ByteArray.empty), (.bool false), (.string ByteArray.empty), (.bool false), (.string ByteArray.empty)]) 12) →
 ∃ (J15 : Int → Nat → Heap → Prop) (m13 : Nat), Fin B h9 (J15 (0) m13) ∧
 ∀ (i10 : Int) (m12 : Nat) (h11 : Heap), J15 i10 m12 h11 →
 ((i10 : Int) < ((n3 : Nat)) →
 ∃ A16 : Addr, a2 = some A16 ∧ 0 ≤ (i10 : Int) ∧ (i10 : Int) < (n3 : Nat) ∧
 ∃ i18 : Int, ∃ b19 : Bool, ∃ s20 : ByteArray, CellsAt B h11 (Addr.add A16 (Int.toNat (i10) * 3)) 0 [(.int .i64 (i18)), (.bool b19), (.string s20)] ∧
 ∀ k21 : Nat, h11 k21 = none → B k21 = none → ∀ h22 : Heap, h22 = Heap.set h11 k21 (.vec 132 (plains [(.int .i64 (0)), (.bool false), (.string ByteArray.empty)]) 3) →
 ∃ h23 : Heap, StoresAt ⟨k21, 0, none⟩ h22 0 [(.int .i64 (i18)), (.bool b19), (.string s20)] h23 ∧
 ∃ i24 : Int, cellH B h23 ⟨k21, 0, none⟩ = some (.int .i64 (i24)) ∧
 ∃ b25 : Bool, ∃ s26 : ByteArray, CellsAt B h23 ⟨k21, 1, none⟩ 0 [(.bool b25), (.string s26)] ∧
 0 ≤ (i24 : Int) ∧ (i24 : Int) < (6 : Nat) ∧
 ∃ h27 : Heap, StoresAt (Addr.add ⟨k6, 0, none⟩ (Int.toNat (i24) * 2)) h23 0 [(.bool b25), (.string s26)] h27 ∧
 Fin B h27 (fun h' => ∃ m', m' < m12 ∧ J15 (IntKind.wrap .i64 ((i10) + (1))) m' h')) ∧ (¬ ((i10 : Int) < ((n3 : Nat))) →
 ∃ l28 : List Value, List.length l28 = 12 ∧ CellsAt B h11 ⟨k6, 0, none⟩ 0 l28 ∧
 List.length l28 = 12 ∧ ∃ h29 : Heap, StoresAt ⟨k8, 0, none⟩ h11 0 l28 h29 ∧
 ∃ l30 : List Value, List.length l30 = 12 ∧ CellsAt B h29 ⟨k8, 0, none⟩ 0 l30 ∧ Fin B h29 (Q l30))
def S_vault_Open_J1 (B : RO) (p1 : Option Addr) (k8 : Nat) (k16 : Nat) (k18 : Nat) (i20 : Int) (m22 : Nat) (J25 : Int → Nat → Heap → Prop) (p27 : Option Addr) (i30 : Int) (k35 : Nat) (b39 : Bool) (h40 : Heap) (Q : Option Addr → ByteArray → Option Addr → Nat → Nat → Int → Heap → Prop) : Prop :=
 (b39 = true →
 ∃ s45 : ByteArray, ∃ a46 : Option Addr, ∃ n47 : Nat, ∃ c48 : Nat, CellsAt B h40 ⟨k35, 0, none⟩ 0 [(.string s45), (.slice a46 n47 c48)] ∧
 ∃ h52 : Heap, storeH h40 ⟨k16, 1, none⟩ (.pointer p27) = some h52 ∧
 CellsAt B h52 ⟨k35, 0, none⟩ 0 [(.string s45), (.slice a46 n47 c48)] ∧
 ∃ h54 : Heap, storeH h52 ⟨k16, 2, none⟩ (.int .i64 (i30)) = some h54 ∧
 CellsAt B h54 ⟨k35, 0, none⟩ 0 [(.string s45), (.slice a46 n47 c48)] ∧
 ∃ h56 : Heap, StoresAt ⟨k18, 0, none⟩ h54 0 [(.string s45), (.slice a46 n47 c48)] h56 ∧
 Fin B h56 (fun h' => ∃ m', m' < m22 ∧ J25 (IntKind.wrap .i64 ((i20) + (1))) m' h')) ∧ (b39 = false →
 Fin B h40 (fun h' => ∃ m', m' < m22 ∧ J25 (IntKind.wrap .i64 ((i20) + (1))) m' h'))
def S_vault_Open (B : RO) (p1 : Option Addr) (h : Heap) (Q : Option Addr → ByteArray → Option Addr → Nat → Nat → Int → Heap → Prop) : Prop :=
 ∀ k8 : Nat, h k8 = none → B k8 = none → ∀ h9 : Heap, h9 = Heap.set h k8 (.vec 99 (plains [(.string ByteArray.empty), (.slice none 0 0)]) 2) →
 (p1 = none →
 ∃ h11 : Heap, StoresAt ⟨k8, 0, none⟩ h9 0 [(.string ByteArray.empty), (.slice none 0 0)] h11 ∧
 ∃ s12 : ByteArray, ∃ a13 : Option Addr, ∃ n14 : Nat, ∃ c15 : Nat, CellsAt B h11 ⟨k8, 0, none⟩ 0 [(.string s12), (.slice a13 n14 c15)] ∧ Fin B h11 (Q none s12 a13 n14 c15 (2))) ∧ (¬ (p1 = none) →
 ∀ k16 : Nat, h9 k16 = none → B k16 = none → ∀ h17 : Heap, h17 = Heap.set h9 k16 (.vec 135 (plains [(.pointer p1), (.pointer none), (.int .i64 (0)), (.bool false)]) 4) →
 ∀ k18 : Nat, h17 k18 = none → B k18 = none → ∀ h19 : Heap, h19 = Heap.set h17 k18 (.vec 99 (plains [(.string ByteArray.empty), (.slice none 0 0)]) 2) →
 ∃ (J25 : Int → Nat → Heap → Prop) (m23 : Nat), Fin B h19 (J25 (0) m23) ∧
 ∀ (i20 : Int) (m22 : Nat) (h21 : Heap), J25 i20 m22 h21 →
 ((i20 : Int) < (2) →
 C_wal_Open B p1 (i20) h21 (fun p27 i28 h26 =>
 C_vault_look B p27 h26 (fun i30 s31 a32 n33 c34 h29 =>
 ∀ k35 : Nat, h29 k35 = none → B k35 = none → ∀ h36 : Heap, h36 = Heap.set h29 k35 (.vec 99 (plains [(.string ByteArray.empty), (.slice none 0 0)]) 2) →
 ∃ h37 : Heap, StoresAt ⟨k35, 0, none⟩ h36 0 [(.string s31), (.slice a32 n33 c34)] h37 ∧
 ∃ p57 : Option Addr, cellH B h37 ⟨k16, 1, none⟩ = some (.pointer p57) ∧
 (p57 = none →
 Fin B h37 (fun h' => S_vault_Open_J1 B p1 k8 k16 k18 i20 m22 J25 p27 i30 k35 (true) h' Q)) ∧ (¬ (p57 = none) →
 ∃ i59 : Int, cellH B h37 ⟨k16, 2, none⟩ = some (.int .i64 (i59)) ∧
 ((i30 : Int) > (i59) →
 Fin B h37 (fun h' => S_vault_Open_J1 B p1 k8 k16 k18 i20 m22 J25 p27 i30 k35 (true) h' Q)) ∧ (¬ ((i30 : Int) > (i59)) →
 Fin B h37 (fun h' => S_vault_Open_J1 B p1 k8 k16 k18 i20 m22 J25 p27 i30 k35 (false) h' Q)))))) ∧ (¬ ((i20 : Int) < (2)) →
 ∃ s61 : ByteArray, ∃ a62 : Option Addr, ∃ n63 : Nat, ∃ c64 : Nat, CellsAt B h21 ⟨k18, 0, none⟩ 0 [(.string s61), (.slice a62 n63 c64)] ∧
 ∃ h67 : Heap, StoresAt ⟨k8, 0, none⟩ h21 0 [(.string s61), (.slice a62 n63 c64)] h67 ∧
 CellsAt B h67 ⟨k18, 0, none⟩ 0 [(.string s61), (.slice a62 n63 c64)] ∧
 ∃ s69 : ByteArray, ∃ a70 : Option Addr, ∃ n71 : Nat, ∃ c72 : Nat, CellsAt B h67 ⟨k8, 0, none⟩ 0 [(.string s69), (.slice a70 n71 c72)] ∧ Fin B h67 (Q (some ⟨k16, 0, none⟩) s69 a70 n71 c72 (0))))
def S_world_read (B : RO) (s1 : ByteArray) (h : Heap) (Q : Int → Option Addr → Bool → Heap → Prop) : Prop :=
 (s1 = (ByteArray.mk #[]) →
 C_tome_New B h (fun p7 h6 =>
 Fin B h6 (Q (0) p7 (true)))) ∧ (¬ (s1 = (ByteArray.mk #[])) →
 C_stylus_Of B s1 h (fun p9 h8 =>
 C_stylus_Reader_Nat B p9 (1099511627776) h8 (fun i11 h10 =>
 C_stylus_Reader_Bad B p9 h10 (fun b13 h12 =>
 (b13 = true →
 Fin B h12 (Q (0) none (false))) ∧ (b13 = false →
 C_stylus_Reader_Left B p9 h12 (fun i15 h14 =>
 C_stylus_Reader_Raw B p9 (i15) h14 (fun s17 h16 =>
 C_tome_Read B s17 h16 (fun p19 b20 h18 =>
 Fin B h18 (Q (i11) p19 (b20))))))))))
def S_redo_Replay (B : RO) (p1 : Option Addr) (a2 : Option Addr) (n3 : Nat) (c4 : Nat) (h : Heap) (Q : Int → Int → Heap → Prop) : Prop :=
 ∃ (J13 : Int → Int → Nat → Heap → Prop) (m11 : Nat), Fin B h (J13 (0) (0) m11) ∧
 ∀ (i7 : Int) (i8 : Int) (m10 : Nat) (h9 : Heap), J13 i7 i8 m10 h9 →
 ((i8 : Int) < ((n3 : Nat)) →
 ∃ A14 : Addr, a2 = some A14 ∧ 0 ≤ (i8 : Int) ∧ (i8 : Int) < (n3 : Nat) ∧
 ∃ s16 : ByteArray, cellH B h9 (Addr.add A14 (Int.toNat (i8) * 1)) = some (.string s16) ∧
 C_redo_Read B s16 h9 (fun i18 a19 n20 c21 b22 h17 =>
 (b22 = true →
 C_redo_Apply B p1 a19 n20 c21 (0) h17 (fun h23 =>
 Fin B h23 (fun h' => ∃ m', m' < m10 ∧ J13 (if (i18 : Int) > (i7) then (i18 : Int) else (i7)) (IntKind.wrap .i64 ((i8) + (1))) m' h'))) ∧ (b22 = false →
 Fin B h17 (Q (i7) (i8))))) ∧ (¬ ((i8 : Int) < ((n3 : Nat))) →
 Fin B h9 (Q (i7) ((n3 : Nat))))
def S_vault_Vault_Settle_J1 (B : RO) (p1 : Option Addr) (s2 : ByteArray) (h5 : Heap) (Q : Int → Heap → Prop) : Prop :=
 ∀ k6 : Nat, h5 k6 = none → B k6 = none → ∀ h7 : Heap, h7 = Heap.set h5 k6 (.vec 152 (plains [(.slice none 0 0)]) 1) →
 ∃ A8 : Addr, p1 = some A8 ∧
 ∃ i10 : Int, cellH B h7 (Addr.add A8 2) = some (.int .i64 (i10)) ∧
 ∀ k11 : Nat, h7 k11 = none → B k11 = none → ∀ h12 : Heap, h12 = Heap.set h7 k11 (.vec 3 (plains [(.int .i64 (0)), (.int .i64 (IntKind.wrap .i64 ((i10) + (1))))]) 2) →
 C_stylus_Stylus_Nat B (some ⟨k6, 0, none⟩) (some ⟨k11, 0, none⟩) 2 2 h12 (fun h13 =>
 C_stylus_Stylus_Raw B (some ⟨k6, 0, none⟩) s2 h13 (fun h14 =>
 C_stylus_Stylus_Bytes B (some ⟨k6, 0, none⟩) h14 (fun s16 h15 =>
 (((ByteArray.size s16 : Nat) : Int) > (1024) →
 Fin B h15 (Q (3))) ∧ (¬ (((ByteArray.size s16 : Nat) : Int) > (1024)) →
 ∃ A17 : Addr, p1 = some A17 ∧
 ∃ p19 : Option Addr, cellH B h15 (Addr.add A17 1) = some (.pointer p19) ∧
 ∃ A21 : Addr, p1 = some A21 ∧
 ∃ p25 : Option Addr, cellH B h15 A21 = some (.pointer p25) ∧
 C_wal_Log_Area B p19 h15 (fun i29 h28 =>
 cellH B h28 A21 = some (.pointer p25) ∧
 C_wal_Open B p25 (IntKind.wrap .i64 ((1) - (i29))) h28 (fun p32 i33 h31 =>
 cellH B h31 A21 = some (.pointer p25) ∧
 C_wal_Log_Clear B p32 h31 (fun h35 =>
 C_wal_Log_Force B p32 h35 (fun h36 =>
 C_stylus_Stylus_Bytes B (some ⟨k6, 0, none⟩) h36 (fun s38 h37 =>
 C_wal_Log_Append B p32 s38 h37 (fun i40 h39 =>
 C_wal_Log_Force B p32 h39 (fun h41 =>
 C_wal_Log_Clear B p19 h41 (fun h42 =>
 C_wal_Log_Force B p19 h42 (fun h43 =>
 ∃ A44 : Addr, p1 = some A44 ∧
 ∃ i46 : Int, cellH B h43 (Addr.add A44 2) = some (.int .i64 (i46)) ∧
 ∃ A47 : Addr, p1 = some A47 ∧
 ∃ h49 : Heap, storeH h43 (Addr.add A47 1) (.pointer p32) = some h49 ∧
 ∃ A50 : Addr, p1 = some A50 ∧
 ∃ h52 : Heap, storeH h49 (Addr.add A50 2) (.int .i64 (IntKind.wrap .i64 ((i46) + (1)))) = some h52 ∧
 ∃ A53 : Addr, p1 = some A53 ∧
 ∃ h55 : Heap, storeH h52 (Addr.add A53 3) (.bool true) = some h55 ∧
 Fin B h55 (Q (0)))))))))))))))
def S_vault_Vault_Settle (B : RO) (p1 : Option Addr) (s2 : ByteArray) (h : Heap) (Q : Int → Heap → Prop) : Prop :=
 (p1 = none →
 Fin B h (Q (2))) ∧ (¬ (p1 = none) →
 ∃ A57 : Addr, p1 = some A57 ∧
 ∃ i59 : Int, cellH B h (Addr.add A57 2) = some (.int .i64 (i59)) ∧
 ((i59 : Int) ≥ (1099511627776) →
 Fin B h (Q (6))) ∧ (¬ ((i59 : Int) ≥ (1099511627776)) →
 Fin B h (fun h' => S_vault_Vault_Settle_J1 B p1 s2 h' Q)))
def S_world_image (B : RO) (i1 : Int) (p2 : Option Addr) (h : Heap) (Q : ByteArray → Heap → Prop) : Prop :=
 ∀ k4 : Nat, h k4 = none → B k4 = none → ∀ h5 : Heap, h5 = Heap.set h k4 (.vec 152 (plains [(.slice none 0 0)]) 1) →
 ∀ k6 : Nat, h5 k6 = none → B k6 = none → ∀ h7 : Heap, h7 = Heap.set h5 k6 (.vec 3 (plains [(.int .i64 (i1))]) 1) →
 C_stylus_Stylus_Nat B (some ⟨k4, 0, none⟩) (some ⟨k6, 0, none⟩) 1 1 h7 (fun h8 =>
 C_tome_Tome_Bytes B p2 h8 (fun s10 h9 =>
 C_stylus_Stylus_Raw B (some ⟨k4, 0, none⟩) s10 h9 (fun h11 =>
 C_stylus_Stylus_Bytes B (some ⟨k4, 0, none⟩) h11 (fun s13 h12 =>
 Fin B h12 (Q s13)))))
def S_attempt_NewView (B : RO) (h : Heap) (Q : Option Addr → Heap → Prop) : Prop :=
 C_cell_New_int B (8) (0) h (fun p3 h2 =>
 C_tome_New B h2 (fun p5 h4 =>
 C_feed_New B h4 (fun p7 h6 =>
 ∀ k8 : Nat, h6 k8 = none → B k8 = none → ∀ h9 : Heap, h9 = Heap.set h6 k8 (.vec 44 (plains [(.pointer p3), (.pointer p5), (.pointer p7), (.int .i64 (0))]) 4) →
 Fin B h9 (Q (some ⟨k8, 0, none⟩)))))
def S_wire_New (B : RO) (h : Heap) (Q : Option Addr → Heap → Prop) : Prop :=
 ∀ k2 : Nat, h k2 = none → B k2 = none → ∀ h3 : Heap, h3 = Heap.set h k2 (.vec 160 (plains [(.string ByteArray.empty), (.string ByteArray.empty), (.string ByteArray.empty), (.string ByteArray.empty), (.string ByteArray.empty), (.string ByteArray.empty), (.string ByteArray.empty), (.string ByteArray.empty), (.string ByteArray.empty)]) 9) →
 Fin B h3 (Q (some ⟨k2, 0, none⟩))
def S_token_New (B : RO) (h : Heap) (Q : Option Addr → Heap → Prop) : Prop :=
 ∀ k2 : Nat, h k2 = none → B k2 = none → ∀ h3 : Heap, h3 = Heap.set h k2 (.vec 126 (plains [(.int .i64 ((-1))), (.bool false), (.int .i64 ((-1)))]) 3) →
 Fin B h3 (Q (some ⟨k2, 0, none⟩))
def S_countermandref05_Told_J2 (B : RO) (a8 : Option Addr) (n9 : Nat) (c10 : Nat) (a11 : Option Addr) (n12 : Nat) (c13 : Nat) (i16 : Int) (m18 : Nat) (J21 : Option Addr → Nat → Nat → Int → ByteArray → Int → Nat → Heap → Prop) (s24 : ByteArray) (i28 : Int) (i29 : Int) (h31 : Heap) (Q : Int → ByteArray → Option Addr → Nat → Nat → Heap → Prop) : Prop :=
 0 ≤ (IntKind.wrap .i64 ((1) + (i29)) : Int) ∧ (IntKind.wrap .i64 ((1) + (i29)) : Int) ≤ ((ByteArray.size s24 : Nat) : Int) ∧ ((ByteArray.size s24 : Nat) : Int) ≤ (ByteArray.size s24 : Nat) ∧
 Fin B h31 (fun h' => ∃ m', m' < m18 ∧ J21 a11 n12 c13 (IntKind.wrap .i64 (i28)) (ByteArray.extract s24 (Int.toNat (IntKind.wrap .i64 ((1) + (i29)))) (Int.toNat ((ByteArray.size s24 : Nat)))) (IntKind.wrap .i64 ((i16) + (1))) m' h')
def S_countermandref05_Told_J1 (B : RO) (a8 : Option Addr) (n9 : Nat) (c10 : Nat) (a11 : Option Addr) (n12 : Nat) (c13 : Nat) (i16 : Int) (m18 : Nat) (J21 : Option Addr → Nat → Nat → Int → ByteArray → Int → Nat → Heap → Prop) (s24 : ByteArray) (h26 : Heap) (Q : Int → ByteArray → Option Addr → Nat → Nat → Heap → Prop) : Prop :=
 0 ≤ (1 : Int) ∧ (1 : Int) ≤ ((ByteArray.size s24 : Nat) : Int) ∧ ((ByteArray.size s24 : Nat) : Int) ≤ (ByteArray.size s24 : Nat) ∧
 C_countermandref01_Taken B (ByteArray.extract s24 (Int.toNat (1)) (Int.toNat ((ByteArray.size s24 : Nat)))) h26 (fun i28 i29 h27 =>
 ((i29 : Int) = 0 →
 Fin B h27 (Q (0) (ByteArray.mk #[]) none 0 0)) ∧ (¬ ((i29 : Int) = 0) →
 ((i28 : Int) = 0 →
 Fin B h27 (Q (0) (ByteArray.mk #[]) none 0 0)) ∧ (¬ ((i28 : Int) = 0) →
 ((i28 : Int) > (1099511627776) →
 Fin B h27 (Q (0) (ByteArray.mk #[]) none 0 0)) ∧ (¬ ((i28 : Int) > (1099511627776)) →
 Fin B h27 (fun h' => S_countermandref05_Told_J2 B a8 n9 c10 a11 n12 c13 i16 m18 J21 s24 i28 i29 h' Q)))))
def S_countermandref05_Told_J3 (B : RO) (a8 : Option Addr) (n9 : Nat) (c10 : Nat) (a11 : Option Addr) (n12 : Nat) (c13 : Nat) (i14 : Int) (s15 : ByteArray) (i16 : Int) (m18 : Nat) (J21 : Option Addr → Nat → Nat → Int → ByteArray → Int → Nat → Heap → Prop) (s24 : ByteArray) (h33 : Heap) (Q : Int → ByteArray → Option Addr → Nat → Nat → Heap → Prop) : Prop :=
 0 ≤ (1 : Int) ∧ (1 : Int) ≤ ((ByteArray.size s24 : Nat) : Int) ∧ ((ByteArray.size s24 : Nat) : Int) ≤ (ByteArray.size s24 : Nat) ∧
 ∀ k34 : Nat, h33 k34 = none → B k34 = none → ∀ h35 : Heap, h35 = Heap.set h33 k34 (.vec 9 (plains [(.string (ByteArray.extract s24 (Int.toNat (1)) (Int.toNat ((ByteArray.size s24 : Nat)))))]) 1) →
 semH PG B (Builtin.append_ #[35, 35] 35 #[(.slice a11 n12 c13), (.slice (some ⟨k34, 0, none⟩) 1 1)]) h35 (fun v h36 => ∃ a37 : Option Addr, ∃ n38 : Nat, ∃ c39 : Nat, v = (.slice a37 n38 c39) ∧
 Fin B h36 (fun h' => ∃ m', m' < m18 ∧ J21 a37 n38 c39 (i14) s15 (IntKind.wrap .i64 ((i16) + (1))) m' h'))
def S_countermandref05_Told (B : RO) (s1 : ByteArray) (h : Heap) (Q : Int → ByteArray → Option Addr → Nat → Nat → Heap → Prop) : Prop :=
 C_countermandref02_All B s1 h (fun a8 n9 c10 h7 =>
 ∃ (J21 : Option Addr → Nat → Nat → Int → ByteArray → Int → Nat → Heap → Prop) (m19 : Nat), Fin B h7 (J21 none 0 0 (0) (ByteArray.mk #[]) (0) m19) ∧
 ∀ (a11 : Option Addr) (n12 : Nat) (c13 : Nat) (i14 : Int) (s15 : ByteArray) (i16 : Int) (m18 : Nat) (h17 : Heap), J21 a11 n12 c13 i14 s15 i16 m18 h17 →
 ((i16 : Int) < ((n9 : Nat)) →
 ∃ A22 : Addr, a8 = some A22 ∧ 0 ≤ (i16 : Int) ∧ (i16 : Int) < (n9 : Nat) ∧
 ∃ s24 : ByteArray, cellH B h17 (Addr.add A22 (Int.toNat (i16) * 1)) = some (.string s24) ∧
 ((i16 : Int) = 0 →
 (((ByteArray.size s24 : Nat) : Int) = 0 →
 Fin B h17 (Q (0) (ByteArray.mk #[]) none 0 0)) ∧ (¬ (((ByteArray.size s24 : Nat) : Int) = 0) →
 0 ≤ (0 : Int) ∧ (0 : Int) < (ByteArray.size s24 : Nat) ∧
 ((byteAt s24 (Int.toNat (0)) : Int) = 0 →
 Fin B h17 (fun h' => S_countermandref05_Told_J1 B a8 n9 c10 a11 n12 c13 i16 m18 J21 s24 h' Q)) ∧ (¬ ((byteAt s24 (Int.toNat (0)) : Int) = 0) →
 Fin B h17 (Q (0) (ByteArray.mk #[]) none 0 0)))) ∧ (¬ ((i16 : Int) = 0) →
 (((ByteArray.size s24 : Nat) : Int) = 0 →
 Fin B h17 (Q (i14) s15 a11 n12 c13)) ∧ (¬ (((ByteArray.size s24 : Nat) : Int) = 0) →
 0 ≤ (0 : Int) ∧ (0 : Int) < (ByteArray.size s24 : Nat) ∧
 ((byteAt s24 (Int.toNat (0)) : Int) = 1 →
 Fin B h17 (fun h' => S_countermandref05_Told_J3 B a8 n9 c10 a11 n12 c13 i14 s15 i16 m18 J21 s24 h' Q)) ∧ (¬ ((byteAt s24 (Int.toNat (0)) : Int) = 1) →
 Fin B h17 (Q (i14) s15 a11 n12 c13))))) ∧ (¬ ((i16 : Int) < ((n9 : Nat))) →
 Fin B h17 (Q (i14) s15 a11 n12 c13)))
def S_tome_Tome_Get (B : RO) (p1 : Option Addr) (i2 : Int) (h : Heap) (Q : Bool → ByteArray → Int → Heap → Prop) : Prop :=
 ∀ k6 : Nat, h k6 = none → B k6 = none → ∀ h7 : Heap, h7 = Heap.set h k6 (.vec 111 (plains [(.bool false), (.string ByteArray.empty)]) 2) →
 (p1 = none →
 ∃ h9 : Heap, StoresAt ⟨k6, 0, none⟩ h7 0 [(.bool false), (.string ByteArray.empty)] h9 ∧
 ∃ b10 : Bool, ∃ s11 : ByteArray, CellsAt B h9 ⟨k6, 0, none⟩ 0 [(.bool b10), (.string s11)] ∧ Fin B h9 (Q (b10) s11 (0))) ∧ (¬ (p1 = none) →
 ∃ A12 : Addr, p1 = some A12 ∧
 ∃ p14 : Option Addr, cellH B h7 A12 = some (.pointer p14) ∧
 C_cell_Row_file_File_Get B p14 (i2) h7 (fun b16 s17 i18 h15 =>
 ∃ h19 : Heap, StoresAt ⟨k6, 0, none⟩ h15 0 [(.bool b16), (.string s17)] h19 ∧
 ∃ b20 : Bool, ∃ s21 : ByteArray, CellsAt B h19 ⟨k6, 0, none⟩ 0 [(.bool b20), (.string s21)] ∧ Fin B h19 (Q (b20) s21 (i18))))
def S_slices_Clone_s_world_Note_world_Note (B : RO) (a1 : Option Addr) (n2 : Nat) (c3 : Nat) (h : Heap) (Q : Option Addr → Nat → Nat → Heap → Prop) : Prop :=
 (a1 = none →
 Fin B h (Q none 0 0)) ∧ (¬ (a1 = none) →
 ∀ k8 : Nat, h k8 = none → B k8 = none → ∀ h9 : Heap, h9 = Heap.set h k8 (.vec 66 [] 0) →
 semH PG B (Builtin.append_ #[49, 49] 49 #[(.slice (some ⟨k8, 0, none⟩) 0 0), (.slice a1 n2 c3)]) h9 (fun v h10 => ∃ a11 : Option Addr, ∃ n12 : Nat, ∃ c13 : Nat, v = (.slice a11 n12 c13) ∧
 Fin B h10 (Q a11 n12 c13)))
def S_disk_Disk_land (B : RO) (p1 : Option Addr) (i2 : Int) (b3 : Bool) (s4 : ByteArray) (h : Heap) (Q : Heap → Prop) : Prop :=
 ∀ k5 : Nat, h k5 = none → B k5 = none → ∀ h6 : Heap, h6 = Heap.set h k5 (.vec 87 (plains [(.int .i64 (i2)), (.bool b3), (.string s4)]) 3) →
 ∃ b7 : Bool, cellH B h6 ⟨k5, 1, none⟩ = some (.bool b7) ∧ (b7 = true →
 ∃ i16 : Int, cellH B h6 ⟨k5, 0, none⟩ = some (.int .i64 (i16)) ∧
 ∃ A17 : Addr, p1 = some A17 ∧
 0 ≤ (i16 : Int) ∧ (i16 : Int) < (2 : Nat) ∧
 ∃ h19 : Heap, storeH h6 (Addr.add (Addr.add A17 (Int.toNat (i16) * 2)) 1) (.string (ByteArray.mk #[])) = some h19 ∧
 Fin B h19 (Q)) ∧ (b7 = false →
 ∃ i8 : Int, cellH B h6 ⟨k5, 0, none⟩ = some (.int .i64 (i8)) ∧
 ∃ A9 : Addr, p1 = some A9 ∧
 0 ≤ (i8 : Int) ∧ (i8 : Int) < (2 : Nat) ∧
 ∃ s11 : ByteArray, cellH B h6 (Addr.add (Addr.add A9 (Int.toNat (i8) * 2)) 1) = some (.string s11) ∧
 ∃ s12 : ByteArray, cellH B h6 ⟨k5, 2, none⟩ = some (.string s12) ∧
 ByteArray.size s11 + ByteArray.size s12 ≤ 4611686018427387904 ∧
 ∃ A13 : Addr, p1 = some A13 ∧
 0 ≤ (i8 : Int) ∧ (i8 : Int) < (2 : Nat) ∧
 ∃ h15 : Heap, storeH h6 (Addr.add (Addr.add A13 (Int.toNat (i8) * 2)) 1) (.string (s11 ++ s12)) = some h15 ∧
 Fin B h15 (Q))
def S_countermandref01_Wide_J1 (B : RO) (i4 : Int) (s5 : ByteArray) (h6 : Heap) (Q : ByteArray → Heap → Prop) : Prop :=
 ∀ k7 : Nat, h6 k7 = none → B k7 = none → ∀ h8 : Heap, h8 = Heap.set h6 k7 (.vec 5 (plains [(.int .u8 (IntKind.wrap .u8 (i4)))]) 1) →
 semH PG B (convert 63 9 (.slice (some ⟨k7, 0, none⟩) 1 1)) h8 (fun v h10 => ∃ s9 : ByteArray, v = (.string s9) ∧
 ByteArray.size s5 + ByteArray.size s9 ≤ 4611686018427387904 ∧
 Fin B h10 (Q (s5 ++ s9)))
def S_countermandref01_Wide (B : RO) (i1 : Int) (h : Heap) (Q : ByteArray → Heap → Prop) : Prop :=
 ∃ (J17 : Int → ByteArray → Nat → Heap → Prop) (m15 : Nat), Fin B h (J17 (i1) (ByteArray.mk #[]) m15) ∧
 ∀ (i11 : Int) (s12 : ByteArray) (m14 : Nat) (h13 : Heap), J17 i11 s12 m14 h13 →
 ((i11 : Int) > (127) →
 ¬ ((128 : Int) = 0) ∧
 ∀ k18 : Nat, h13 k18 = none → B k18 = none → ∀ h19 : Heap, h19 = Heap.set h13 k18 (.vec 5 (plains [(.int .u8 (IntKind.wrap .u8 (IntKind.wrap .u64 ((128) + (Int.tmod (i11) (128))))))]) 1) →
 semH PG B (convert 63 9 (.slice (some ⟨k18, 0, none⟩) 1 1)) h19 (fun v h21 => ∃ s20 : ByteArray, v = (.string s20) ∧
 ByteArray.size s12 + ByteArray.size s20 ≤ 4611686018427387904 ∧
 ¬ ((128 : Int) = 0) ∧
 Fin B h21 (fun h' => ∃ m', m' < m14 ∧ J17 (IntKind.wrap .u64 (Int.tdiv (i11) (128))) (s12 ++ s20) m' h'))) ∧ (¬ ((i11 : Int) > (127)) →
 Fin B h13 (fun h' => S_countermandref01_Wide_J1 B (i11) s12 h' Q))
def S_countermandref18_nat_J1 (B : RO) (s1 : ByteArray) (i7 : Int) (i8 : Int) (h10 : Heap) (Q : Int → ByteArray → Bool → Heap → Prop) : Prop :=
 0 ≤ (i8 : Int) ∧ (i8 : Int) ≤ ((ByteArray.size s1 : Nat) : Int) ∧ ((ByteArray.size s1 : Nat) : Int) ≤ (ByteArray.size s1 : Nat) ∧
 Fin B h10 (Q (IntKind.wrap .i64 (i7)) (ByteArray.extract s1 (Int.toNat (i8)) (Int.toNat ((ByteArray.size s1 : Nat)))) (true))
def S_countermandref18_nat (B : RO) (s1 : ByteArray) (i2 : Int) (h : Heap) (Q : Int → ByteArray → Bool → Heap → Prop) : Prop :=
 C_countermandref01_Taken B s1 h (fun i7 i8 h6 =>
 ((i8 : Int) = 0 →
 Fin B h6 (Q (0) (ByteArray.mk #[]) (false))) ∧ (¬ ((i8 : Int) = 0) →
 ((i7 : Int) > (i2) →
 Fin B h6 (Q (0) (ByteArray.mk #[]) (false))) ∧ (¬ ((i7 : Int) > (i2)) →
 Fin B h6 (fun h' => S_countermandref18_nat_J1 B s1 i7 i8 h' Q))))
def S_wal_Open_J1 (B : RO) (p1 : Option Addr) (i2 : Int) (h6 : Heap) (Q : Option Addr → Int → Heap → Prop) : Prop :=
 C_disk_Disk_Read B p1 (i2) h6 (fun s8 h7 =>
 C_wafer_Whole B s8 h7 (fun i10 h9 =>
 ∀ k11 : Nat, h9 k11 = none → B k11 = none → ∀ h12 : Heap, h12 = Heap.set h9 k11 (.vec 171 (plains [(.pointer p1), (.int .i64 (i2)), (.int .i64 (i10)), (.bool (decide ((i10 : Int) < ((ByteArray.size s8 : Nat)))))]) 4) →
 Fin B h12 (Q (some ⟨k11, 0, none⟩) (0))))
def S_wal_Open (B : RO) (p1 : Option Addr) (i2 : Int) (h : Heap) (Q : Option Addr → Int → Heap → Prop) : Prop :=
 (p1 = none →
 Fin B h (Q none (2))) ∧ (¬ (p1 = none) →
 ((i2 : Int) = 0 →
 Fin B h (fun h' => S_wal_Open_J1 B p1 i2 h' Q)) ∧ (¬ ((i2 : Int) = 0) →
 ((i2 : Int) = 1 →
 Fin B h (fun h' => S_wal_Open_J1 B p1 i2 h' Q)) ∧ (¬ ((i2 : Int) = 1) →
 Fin B h (Q none (1)))))
def S_vault_look_J1 (B : RO) (k11 : Nat) (s21 : ByteArray) (q24 : Nat) (J25 : Nat → Heap → Prop) (h44 : Heap) (Q : Int → ByteArray → Option Addr → Nat → Nat → Heap → Prop) : Prop :=
 ∃ a46 : Option Addr, ∃ n47 : Nat, ∃ c48 : Nat, cellH B h44 ⟨k11, 1, none⟩ = some (.slice a46 n47 c48) ∧
 0 ≤ (1 : Int) ∧ (1 : Int) ≤ ((ByteArray.size s21 : Nat) : Int) ∧ ((ByteArray.size s21 : Nat) : Int) ≤ (ByteArray.size s21 : Nat) ∧
 ∀ k55 : Nat, h44 k55 = none → B k55 = none → ∀ h56 : Heap, h56 = Heap.set h44 k55 (.vec 9 (plains [(.string (ByteArray.extract s21 (Int.toNat (1)) (Int.toNat ((ByteArray.size s21 : Nat)))))]) 1) →
 cellH B h56 ⟨k11, 1, none⟩ = some (.slice a46 n47 c48) ∧
 semH PG B (Builtin.append_ #[35, 35] 35 #[(.slice a46 n47 c48), (.slice (some ⟨k55, 0, none⟩) 1 1)]) h56 (fun v h58 => ∃ a59 : Option Addr, ∃ n60 : Nat, ∃ c61 : Nat, v = (.slice a59 n60 c61) ∧
 cellH B h58 ⟨k11, 1, none⟩ = some (.slice a46 n47 c48) ∧
 ∃ h63 : Heap, storeH h58 ⟨k11, 1, none⟩ (.slice a59 n60 c61) = some h63 ∧
 Fin B h63 (J25 (q24 + 1)))
def S_vault_look (B : RO) (p1 : Option Addr) (h : Heap) (Q : Int → ByteArray → Option Addr → Nat → Nat → Heap → Prop) : Prop :=
 ∀ k7 : Nat, h k7 = none → B k7 = none → ∀ h8 : Heap, h8 = Heap.set h k7 (.vec 3 (plains [(.int .i64 (0))]) 1) →
 ∀ k9 : Nat, h8 k9 = none → B k9 = none → ∀ h10 : Heap, h10 = Heap.set h8 k9 (.vec 99 (plains [(.string ByteArray.empty), (.slice none 0 0)]) 2) →
 ∀ k11 : Nat, h10 k11 = none → B k11 = none → ∀ h12 : Heap, h12 = Heap.set h10 k11 (.vec 99 (plains [(.string ByteArray.empty), (.slice none 0 0)]) 2) →
 ∀ k13 : Nat, h12 k13 = none → B k13 = none → ∀ h14 : Heap, h14 = Heap.set h12 k13 (.vec 3 (plains [(.int .i64 (0))]) 1) →
 ∀ k15 : Nat, h14 k15 = none → B k15 = none → ∀ h16 : Heap, h16 = Heap.set h14 k15 (.vec 3 (plains [(.int .i64 (0))]) 1) →
 ∃ h17 : Heap, storeH h16 ⟨k13, 0, none⟩ (.int .i64 (0)) = some h17 ∧
 ∃ h18 : Heap, storeH h17 ⟨k15, 0, none⟩ (.int .i64 (0)) = some h18 ∧
 C_wal_Log_All B p1 h18 (fun v20 h19 =>
 ∃ (xs26 : List (ByteArray)) (G22 : Heap → Prop) (J25 : Nat → Heap → Prop), Iter PG B v20 (xs26.map (fun x : ByteArray => [(.string x)])) G22 ∧ Ins G22 ∧ (∀ i h, J25 i h → G22 h) ∧ Fin B h19 (J25 0) ∧
 (∀ (q24 : Nat) (h23 : Heap) (s21 : ByteArray), xs26[q24]? = some (s21) → J25 q24 h23 →
 ∃ i27 : Int, cellH B h23 ⟨k15, 0, none⟩ = some (.int .i64 (i27)) ∧
 ∃ h28 : Heap, storeH h23 ⟨k15, 0, none⟩ (.int .i64 (IntKind.wrap .i64 ((i27) + (1)))) = some h28 ∧
 ∃ i29 : Int, cellH B h28 ⟨k15, 0, none⟩ = some (.int .i64 (i29)) ∧
 ((i29 : Int) = 1 →
 C_vault_first B s21 h28 (fun i31 s32 b33 h30 =>
 (b33 = true →
 ∃ h41 : Heap, storeH h30 ⟨k13, 0, none⟩ (.int .i64 (i31)) = some h41 ∧
 ∃ h42 : Heap, storeH h41 ⟨k11, 0, none⟩ (.string s32) = some h42 ∧
 Fin B h42 (J25 (q24 + 1))) ∧ (b33 = false →
 ∃ h34 : Heap, storeH h30 ⟨k7, 0, none⟩ (.int .i64 (0)) = some h34 ∧
 ∃ h35 : Heap, StoresAt ⟨k9, 0, none⟩ h34 0 [(.string ByteArray.empty), (.slice none 0 0)] h35 ∧
 ∃ i36 : Int, cellH B h35 ⟨k7, 0, none⟩ = some (.int .i64 (i36)) ∧ ∃ s37 : ByteArray, ∃ a38 : Option Addr, ∃ n39 : Nat, ∃ c40 : Nat, CellsAt B h35 ⟨k9, 0, none⟩ 0 [(.string s37), (.slice a38 n39 c40)] ∧ Fin B h35 (Q (i36) s37 a38 n39 c40)))) ∧ (¬ ((i29 : Int) = 1) →
 (s21 = (ByteArray.mk #[]) →
 ∃ i65 : Int, cellH B h28 ⟨k13, 0, none⟩ = some (.int .i64 (i65)) ∧
 ∃ s67 : ByteArray, ∃ a68 : Option Addr, ∃ n69 : Nat, ∃ c70 : Nat, CellsAt B h28 ⟨k11, 0, none⟩ 0 [(.string s67), (.slice a68 n69 c70)] ∧
 ∃ h72 : Heap, storeH h28 ⟨k7, 0, none⟩ (.int .i64 (i65)) = some h72 ∧
 cellH B h72 ⟨k13, 0, none⟩ = some (.int .i64 (i65)) ∧ CellsAt B h72 ⟨k11, 0, none⟩ 0 [(.string s67), (.slice a68 n69 c70)] ∧
 ∃ h75 : Heap, StoresAt ⟨k9, 0, none⟩ h72 0 [(.string s67), (.slice a68 n69 c70)] h75 ∧
 ∃ i76 : Int, cellH B h75 ⟨k7, 0, none⟩ = some (.int .i64 (i76)) ∧ ∃ s77 : ByteArray, ∃ a78 : Option Addr, ∃ n79 : Nat, ∃ c80 : Nat, CellsAt B h75 ⟨k9, 0, none⟩ 0 [(.string s77), (.slice a78 n79 c80)] ∧ Fin B h75 (Q (i76) s77 a78 n79 c80)) ∧ (¬ (s21 = (ByteArray.mk #[])) →
 0 ≤ (0 : Int) ∧ (0 : Int) < (ByteArray.size s21 : Nat) ∧
 ((byteAt s21 (Int.toNat (0)) : Int) = 1 →
 Fin B h28 (fun h' => S_vault_look_J1 B k11 s21 q24 J25 h' Q)) ∧ (¬ ((byteAt s21 (Int.toNat (0)) : Int) = 1) →
 ∃ i81 : Int, cellH B h28 ⟨k13, 0, none⟩ = some (.int .i64 (i81)) ∧
 ∃ s83 : ByteArray, ∃ a84 : Option Addr, ∃ n85 : Nat, ∃ c86 : Nat, CellsAt B h28 ⟨k11, 0, none⟩ 0 [(.string s83), (.slice a84 n85 c86)] ∧
 ∃ h88 : Heap, storeH h28 ⟨k7, 0, none⟩ (.int .i64 (i81)) = some h88 ∧
 cellH B h88 ⟨k13, 0, none⟩ = some (.int .i64 (i81)) ∧ CellsAt B h88 ⟨k11, 0, none⟩ 0 [(.string s83), (.slice a84 n85 c86)] ∧
 ∃ h91 : Heap, StoresAt ⟨k9, 0, none⟩ h88 0 [(.string s83), (.slice a84 n85 c86)] h91 ∧
 ∃ i92 : Int, cellH B h91 ⟨k7, 0, none⟩ = some (.int .i64 (i92)) ∧ ∃ s93 : ByteArray, ∃ a94 : Option Addr, ∃ n95 : Nat, ∃ c96 : Nat, CellsAt B h91 ⟨k9, 0, none⟩ 0 [(.string s93), (.slice a94 n95 c96)] ∧ Fin B h91 (Q (i92) s93 a94 n95 c96))))) ∧
 (∀ (h23 : Heap), J25 xs26.length h23 →
 ∃ i97 : Int, cellH B h23 ⟨k13, 0, none⟩ = some (.int .i64 (i97)) ∧
 ∃ s99 : ByteArray, ∃ a100 : Option Addr, ∃ n101 : Nat, ∃ c102 : Nat, CellsAt B h23 ⟨k11, 0, none⟩ 0 [(.string s99), (.slice a100 n101 c102)] ∧
 ∃ h104 : Heap, storeH h23 ⟨k7, 0, none⟩ (.int .i64 (i97)) = some h104 ∧
 cellH B h104 ⟨k13, 0, none⟩ = some (.int .i64 (i97)) ∧ CellsAt B h104 ⟨k11, 0, none⟩ 0 [(.string s99), (.slice a100 n101 c102)] ∧
 ∃ h107 : Heap, StoresAt ⟨k9, 0, none⟩ h104 0 [(.string s99), (.slice a100 n101 c102)] h107 ∧
 ∃ i108 : Int, cellH B h107 ⟨k7, 0, none⟩ = some (.int .i64 (i108)) ∧ ∃ s109 : ByteArray, ∃ a110 : Option Addr, ∃ n111 : Nat, ∃ c112 : Nat, CellsAt B h107 ⟨k9, 0, none⟩ 0 [(.string s109), (.slice a110 n111 c112)] ∧ Fin B h107 (Q (i108) s109 a110 n111 c112)))
def S_tome_New (B : RO) (h : Heap) (Q : Option Addr → Heap → Prop) : Prop :=
 C_cell_New_file_File B (6) (false) ByteArray.empty h (fun p3 h2 =>
 ∀ k4 : Nat, h2 k4 = none → B k4 = none → ∀ h5 : Heap, h5 = Heap.set h2 k4 (.vec 164 (plains [(.pointer p3)]) 1) →
 Fin B h5 (Q (some ⟨k4, 0, none⟩)))
def S_stylus_Of (B : RO) (s1 : ByteArray) (h : Heap) (Q : Option Addr → Heap → Prop) : Prop :=
 ∀ k3 : Nat, h k3 = none → B k3 = none → ∀ h4 : Heap, h4 = Heap.set h k3 (.vec 178 (plains [(.string s1), (.bool false)]) 2) →
 Fin B h4 (Q (some ⟨k3, 0, none⟩))
def S_stylus_Reader_Nat (B : RO) (p1 : Option Addr) (i2 : Int) (h : Heap) (Q : Int → Heap → Prop) : Prop :=
 C_stylus_Reader_word B p1 h (fun i5 h4 =>
 ((i2 : Int) < (0) →
 C_stylus_Reader_Spoil B p1 h4 (fun h6 =>
 Fin B h6 (Q (0)))) ∧ (¬ ((i2 : Int) < (0)) →
 ((i5 : Int) > (IntKind.wrap .u64 (i2)) →
 C_stylus_Reader_Spoil B p1 h4 (fun h7 =>
 Fin B h7 (Q (0)))) ∧ (¬ ((i5 : Int) > (IntKind.wrap .u64 (i2))) →
 Fin B h4 (Q (IntKind.wrap .i64 (i5))))))
def S_stylus_Reader_Bad (B : RO) (p1 : Option Addr) (h : Heap) (Q : Bool → Heap → Prop) : Prop :=
 (p1 = none →
 Fin B h (Q (true))) ∧ (¬ (p1 = none) →
 ∃ A4 : Addr, p1 = some A4 ∧
 ∃ b6 : Bool, cellH B h (Addr.add A4 1) = some (.bool b6) ∧
 Fin B h (Q (b6)))
def S_tome_Read_J1 (B : RO) (p5 : Option Addr) (p7 : Option Addr) (m10 : Nat) (J13 : Int → Nat → Heap → Prop) (i17 : Int) (s19 : ByteArray) (h21 : Heap) (Q : Option Addr → Bool → Heap → Prop) : Prop :=
 C_tome_Tome_Set B p5 (i17) (true) s19 (0) h21 (fun b23 h22 =>
 Fin B h22 (fun h' => ∃ m', m' < m10 ∧ J13 (i17) m' h'))
def S_tome_Read (B : RO) (s1 : ByteArray) (h : Heap) (Q : Option Addr → Bool → Heap → Prop) : Prop :=
 C_tome_New B h (fun p5 h4 =>
 C_stylus_Of B s1 h4 (fun p7 h6 =>
 ∃ (J13 : Int → Nat → Heap → Prop) (m11 : Nat), Fin B h6 (J13 ((-1)) m11) ∧
 ∀ (i8 : Int) (m10 : Nat) (h9 : Heap), J13 i8 m10 h9 →
 C_stylus_Reader_Left B p7 h9 (fun i15 h14 =>
 ((i15 : Int) > (0) →
 C_stylus_Reader_Nat B p7 (5) h14 (fun i17 h16 =>
 C_stylus_Reader_Text B p7 (32) h16 (fun s19 h18 =>
 C_stylus_Reader_Bad B p7 h18 (fun b25 h24 =>
 (b25 = true →
 Fin B h24 (Q none (false))) ∧ (b25 = false →
 ((i17 : Int) ≤ (i8) →
 Fin B h24 (Q none (false))) ∧ (¬ ((i17 : Int) ≤ (i8)) →
 Fin B h24 (fun h' => S_tome_Read_J1 B p5 p7 m10 J13 i17 s19 h' Q))))))) ∧ (¬ ((i15 : Int) > (0)) →
 Fin B h14 (Q p5 (true))))))
def S_stylus_Reader_Raw_J1 (B : RO) (p1 : Option Addr) (i2 : Int) (h5 : Heap) (Q : ByteArray → Heap → Prop) : Prop :=
 ∃ A6 : Addr, p1 = some A6 ∧
 ∃ s8 : ByteArray, cellH B h5 A6 = some (.string s8) ∧
 0 ≤ (0 : Int) ∧ (0 : Int) ≤ (i2 : Int) ∧ (i2 : Int) ≤ (ByteArray.size s8 : Nat) ∧
 ∃ A9 : Addr, p1 = some A9 ∧
 ∃ s11 : ByteArray, cellH B h5 A9 = some (.string s11) ∧
 0 ≤ (i2 : Int) ∧ (i2 : Int) ≤ ((ByteArray.size s11 : Nat) : Int) ∧ ((ByteArray.size s11 : Nat) : Int) ≤ (ByteArray.size s11 : Nat) ∧
 ∃ A12 : Addr, p1 = some A12 ∧
 ∃ h14 : Heap, storeH h5 A12 (.string (ByteArray.extract s11 (Int.toNat (i2)) (Int.toNat ((ByteArray.size s11 : Nat))))) = some h14 ∧
 Fin B h14 (Q (ByteArray.extract s8 (Int.toNat (0)) (Int.toNat (i2))))
def S_stylus_Reader_Raw (B : RO) (p1 : Option Addr) (i2 : Int) (h : Heap) (Q : ByteArray → Heap → Prop) : Prop :=
 (p1 = none →
 C_stylus_Reader_Spoil B p1 h (fun h16 =>
 Fin B h16 (Q (ByteArray.mk #[])))) ∧ (¬ (p1 = none) →
 ∃ A17 : Addr, p1 = some A17 ∧
 ∃ b19 : Bool, cellH B h (Addr.add A17 1) = some (.bool b19) ∧ (b19 = true →
 C_stylus_Reader_Spoil B p1 h (fun h25 =>
 Fin B h25 (Q (ByteArray.mk #[])))) ∧ (b19 = false →
 ((i2 : Int) < (0) →
 C_stylus_Reader_Spoil B p1 h (fun h20 =>
 Fin B h20 (Q (ByteArray.mk #[])))) ∧ (¬ ((i2 : Int) < (0)) →
 ∃ A21 : Addr, p1 = some A21 ∧
 ∃ s23 : ByteArray, cellH B h A21 = some (.string s23) ∧
 ((i2 : Int) > ((ByteArray.size s23 : Nat)) →
 C_stylus_Reader_Spoil B p1 h (fun h24 =>
 Fin B h24 (Q (ByteArray.mk #[])))) ∧ (¬ ((i2 : Int) > ((ByteArray.size s23 : Nat))) →
 Fin B h (fun h' => S_stylus_Reader_Raw_J1 B p1 i2 h' Q)))))
def S_stylus_Reader_Left (B : RO) (p1 : Option Addr) (h : Heap) (Q : Int → Heap → Prop) : Prop :=
 (p1 = none →
 Fin B h (Q (0))) ∧ (¬ (p1 = none) →
 ∃ A4 : Addr, p1 = some A4 ∧
 ∃ s6 : ByteArray, cellH B h A4 = some (.string s6) ∧
 Fin B h (Q ((ByteArray.size s6 : Nat))))
def S_redo_Read_J1 (B : RO) (p8 : Option Addr) (i10 : Int) (a12 : Option Addr) (n13 : Nat) (c14 : Nat) (h15 : Heap) (Q : Int → Option Addr → Nat → Nat → Bool → Heap → Prop) : Prop :=
 C_stylus_Reader_Bad B p8 h15 (fun b17 h16 =>
 (b17 = true →
 Fin B h16 (Q (0) none 0 0 (false))) ∧ (b17 = false →
 Fin B h16 (Q (i10) a12 n13 c14 (true))))
def S_redo_Read_J3 (B : RO) (p8 : Option Addr) (i10 : Int) (a18 : Option Addr) (n19 : Nat) (c20 : Nat) (m23 : Nat) (J26 : Option Addr → Nat → Nat → Int → Nat → Heap → Prop) (k31 : Nat) (h37 : Heap) (Q : Int → Option Addr → Nat → Nat → Bool → Heap → Prop) : Prop :=
 ∃ i38 : Int, cellH B h37 ⟨k31, 0, none⟩ = some (.int .i64 (i38)) ∧
 ∃ i39 : Int, ∃ b40 : Bool, ∃ s41 : ByteArray, CellsAt B h37 ⟨k31, 0, none⟩ 0 [(.int .i64 (i39)), (.bool b40), (.string s41)] ∧
 ∀ k42 : Nat, h37 k42 = none → B k42 = none → ∀ h43 : Heap, h43 = Heap.set h37 k42 (.vec 182 (plains [(.int .i64 (i39)), (.bool b40), (.string s41)]) 3) →
 semH PG B (Builtin.append_ #[146, 146] 146 #[(.slice a18 n19 c20), (.slice (some ⟨k42, 0, none⟩) 1 1)]) h43 (fun v h44 => ∃ a45 : Option Addr, ∃ n46 : Nat, ∃ c47 : Nat, v = (.slice a45 n46 c47) ∧
 Fin B h44 (fun h' => ∃ m', m' < m23 ∧ J26 a45 n46 c47 (i38) m' h'))
def S_redo_Read_J2 (B : RO) (p8 : Option Addr) (i10 : Int) (a18 : Option Addr) (n19 : Nat) (c20 : Nat) (i21 : Int) (m23 : Nat) (J26 : Option Addr → Nat → Nat → Int → Nat → Heap → Prop) (k31 : Nat) (h35 : Heap) (Q : Int → Option Addr → Nat → Nat → Bool → Heap → Prop) : Prop :=
 C_stylus_Reader_Bad B p8 h35 (fun b49 h48 =>
 (b49 = true →
 Fin B h48 (Q (0) none 0 0 (false))) ∧ (b49 = false →
 ∃ i50 : Int, cellH B h48 ⟨k31, 0, none⟩ = some (.int .i64 (i50)) ∧
 ((i50 : Int) ≤ (i21) →
 Fin B h48 (Q (0) none 0 0 (false))) ∧ (¬ ((i50 : Int) ≤ (i21)) →
 Fin B h48 (fun h' => S_redo_Read_J3 B p8 i10 a18 n19 c20 m23 J26 k31 h' Q))))
def S_redo_Read (B : RO) (s1 : ByteArray) (h : Heap) (Q : Int → Option Addr → Nat → Nat → Bool → Heap → Prop) : Prop :=
 C_stylus_Of B s1 h (fun p8 h7 =>
 C_stylus_Reader_Nat B p8 (1099511627776) h7 (fun i10 h9 =>
 ∃ (J26 : Option Addr → Nat → Nat → Int → Nat → Heap → Prop) (m24 : Nat), Fin B h9 (J26 none 0 0 ((-1)) m24) ∧
 ∀ (a18 : Option Addr) (n19 : Nat) (c20 : Nat) (i21 : Int) (m23 : Nat) (h22 : Heap), J26 a18 n19 c20 i21 m23 h22 →
 C_stylus_Reader_Left B p8 h22 (fun i28 h27 =>
 ((i28 : Int) > (0) →
 C_stylus_Reader_Nat B p8 (5) h27 (fun i30 h29 =>
 ∀ k31 : Nat, h29 k31 = none → B k31 = none → ∀ h32 : Heap, h32 = Heap.set h29 k31 (.vec 182 (plains [(.int .i64 (0)), (.bool false), (.string ByteArray.empty)]) 3) →
 ∃ h33 : Heap, StoresAt ⟨k31, 0, none⟩ h32 0 [(.int .i64 (i30)), (.bool false), (.string ByteArray.empty)] h33 ∧
 C_stylus_Reader_Nat B p8 (1) h33 (fun i52 h51 =>
 ((i52 : Int) = 1 →
 C_stylus_Reader_Text B p8 (32) h51 (fun s54 h53 =>
 ∃ h55 : Heap, StoresAt ⟨k31, 1, none⟩ h53 0 [(.bool true), (.string s54)] h55 ∧
 Fin B h55 (fun h' => S_redo_Read_J2 B p8 i10 a18 n19 c20 i21 m23 J26 k31 h' Q))) ∧ (¬ ((i52 : Int) = 1) →
 Fin B h51 (fun h' => S_redo_Read_J2 B p8 i10 a18 n19 c20 i21 m23 J26 k31 h' Q))))) ∧ (¬ ((i28 : Int) > (0)) →
 Fin B h27 (fun h' => S_redo_Read_J1 B p8 i10 a18 n19 c20 h' Q)))))
def S_redo_Apply (B : RO) (p1 : Option Addr) (a2 : Option Addr) (n3 : Nat) (c4 : Nat) (i5 : Int) (h : Heap) (Q : Heap → Prop) : Prop :=
 ∃ (J11 : Int → Nat → Heap → Prop) (m9 : Nat), Fin B h (J11 (0) m9) ∧
 ∀ (i6 : Int) (m8 : Nat) (h7 : Heap), J11 i6 m8 h7 →
 ((i6 : Int) < ((n3 : Nat)) →
 ∃ A12 : Addr, a2 = some A12 ∧ 0 ≤ (i6 : Int) ∧ (i6 : Int) < (n3 : Nat) ∧
 ∃ i14 : Int, ∃ b15 : Bool, ∃ s16 : ByteArray, CellsAt B h7 (Addr.add A12 (Int.toNat (i6) * 3)) 0 [(.int .i64 (i14)), (.bool b15), (.string s16)] ∧
 ∀ k17 : Nat, h7 k17 = none → B k17 = none → ∀ h18 : Heap, h18 = Heap.set h7 k17 (.vec 182 (plains [(.int .i64 (0)), (.bool false), (.string ByteArray.empty)]) 3) →
 ∃ h19 : Heap, StoresAt ⟨k17, 0, none⟩ h18 0 [(.int .i64 (i14)), (.bool b15), (.string s16)] h19 ∧
 ∃ i20 : Int, cellH B h19 ⟨k17, 0, none⟩ = some (.int .i64 (i20)) ∧
 ∃ b21 : Bool, ∃ s22 : ByteArray, CellsAt B h19 ⟨k17, 1, none⟩ 0 [(.bool b21), (.string s22)] ∧
 C_tome_Tome_Set B p1 (i20) (b21) s22 (i5) h19 (fun b24 h23 =>
 Fin B h23 (fun h' => ∃ m', m' < m8 ∧ J11 (IntKind.wrap .i64 ((i6) + (1))) m' h'))) ∧ (¬ ((i6 : Int) < ((n3 : Nat))) →
 Fin B h7 (Q))
def S_stylus_Stylus_Nat_J1 (B : RO) (p1 : Option Addr) (a2 : Option Addr) (n3 : Nat) (c4 : Nat) (i5 : Int) (m7 : Nat) (J10 : Int → Nat → Heap → Prop) (i15 : Int) (h16 : Heap) (Q : Heap → Prop) : Prop :=
 ∃ A17 : Addr, p1 = some A17 ∧
 LdSl B h16 A17 fun a19 n20 c21 h22 =>
 ∀ k23 : Nat, h22 k23 = none → B k23 = none → ∀ h24 : Heap, h24 = Heap.set h22 k23 (.vec 5 (plains [(.int .u8 (IntKind.wrap .u8 (i15)))]) 1) →
 semH PG B (Builtin.append_ #[63, 63] 63 #[(.slice a19 n20 c21), (.slice (some ⟨k23, 0, none⟩) 1 1)]) h24 (fun v h25 => ∃ a26 : Option Addr, ∃ n27 : Nat, ∃ c28 : Nat, v = (.slice a26 n27 c28) ∧
 ∃ A29 : Addr, p1 = some A29 ∧
 ∃ h31 : Heap, storeH h25 A29 (.slice a26 n27 c28) = some h31 ∧
 Fin B h31 (fun h' => ∃ m', m' < m7 ∧ J10 (IntKind.wrap .i64 ((i5) + (1))) m' h'))
def S_stylus_Stylus_Nat (B : RO) (p1 : Option Addr) (a2 : Option Addr) (n3 : Nat) (c4 : Nat) (h : Heap) (Q : Heap → Prop) : Prop :=
 ∃ (J10 : Int → Nat → Heap → Prop) (m8 : Nat), Fin B h (J10 (0) m8) ∧
 ∀ (i5 : Int) (m7 : Nat) (h6 : Heap), J10 i5 m7 h6 →
 ((i5 : Int) < ((n3 : Nat)) →
 ∃ A11 : Addr, a2 = some A11 ∧ 0 ≤ (i5 : Int) ∧ (i5 : Int) < (n3 : Nat) ∧
 ∃ i13 : Int, cellH B h6 (Addr.add A11 (Int.toNat (i5) * 1)) = some (.int .i64 (i13)) ∧
 ((i13 : Int) < (0) →
 Fin B h6 (fun h' => ∃ m', m' < m7 ∧ J10 (IntKind.wrap .i64 ((i5) + (1))) m' h')) ∧ (¬ ((i13 : Int) < (0)) →
 ∃ (J37 : Int → Nat → Heap → Prop) (m35 : Nat), Fin B h6 (J37 (i13) m35) ∧
 ∀ (i32 : Int) (m34 : Nat) (h33 : Heap), J37 i32 m34 h33 →
 ((i32 : Int) ≥ (128) →
 ∃ A38 : Addr, p1 = some A38 ∧
 LdSl B h33 A38 fun a40 n41 c42 h43 =>
 ∀ k44 : Nat, h43 k44 = none → B k44 = none → ∀ h45 : Heap, h45 = Heap.set h43 k44 (.vec 5 (plains [(.int .u8 (IntKind.wrap .u8 ((BitVec.ofInt (IntKind.bits .u8) (IntKind.wrap .u8 (i32)) ||| BitVec.ofInt (IntKind.bits .u8) (128)).toNat : Int)))]) 1) →
 semH PG B (Builtin.append_ #[63, 63] 63 #[(.slice a40 n41 c42), (.slice (some ⟨k44, 0, none⟩) 1 1)]) h45 (fun v h46 => ∃ a47 : Option Addr, ∃ n48 : Nat, ∃ c49 : Nat, v = (.slice a47 n48 c49) ∧
 ∃ A50 : Addr, p1 = some A50 ∧
 ∃ h52 : Heap, storeH h46 A50 (.slice a47 n48 c49) = some h52 ∧
 ¬ ((7 : Int) < 0) ∧
 Fin B h52 (fun h' => ∃ m', m' < m34 ∧ J37 (Int.fdiv (i32) (2 ^ (min (Int.toNat (7)) (IntKind.bits .i64)))) m' h'))) ∧ (¬ ((i32 : Int) ≥ (128)) →
 Fin B h33 (fun h' => S_stylus_Stylus_Nat_J1 B p1 a2 n3 c4 i5 m7 J10 (i32) h' Q)))) ∧ (¬ ((i5 : Int) < ((n3 : Nat))) →
 Fin B h6 (Q))
def S_stylus_Stylus_Raw (B : RO) (p1 : Option Addr) (s2 : ByteArray) (h : Heap) (Q : Heap → Prop) : Prop :=
 ∃ A3 : Addr, p1 = some A3 ∧
 LdSl B h A3 fun a5 n6 c7 h8 =>
 semH PG B (Builtin.append_ #[63, 9] 63 #[(.slice a5 n6 c7), (.string s2)]) h8 (fun v h9 => ∃ a10 : Option Addr, ∃ n11 : Nat, ∃ c12 : Nat, v = (.slice a10 n11 c12) ∧
 ∃ A13 : Addr, p1 = some A13 ∧
 ∃ h15 : Heap, storeH h9 A13 (.slice a10 n11 c12) = some h15 ∧
 Fin B h15 (Q))
def S_stylus_Stylus_Bytes (B : RO) (p1 : Option Addr) (h : Heap) (Q : ByteArray → Heap → Prop) : Prop :=
 ∃ A3 : Addr, p1 = some A3 ∧
 LdSl B h A3 fun a5 n6 c7 h8 =>
 semH PG B (convert 63 9 (.slice a5 n6 c7)) h8 (fun v h10 => ∃ s9 : ByteArray, v = (.string s9) ∧
 Fin B h10 (Q s9))
def S_wal_Log_Area (B : RO) (p1 : Option Addr) (h : Heap) (Q : Int → Heap → Prop) : Prop :=
 (p1 = none →
 Fin B h (Q (0))) ∧ (¬ (p1 = none) →
 ∃ A4 : Addr, p1 = some A4 ∧
 ∃ i6 : Int, cellH B h (Addr.add A4 1) = some (.int .i64 (i6)) ∧
 Fin B h (Q (i6)))
def S_wal_Log_Clear (B : RO) (p1 : Option Addr) (h : Heap) (Q : Heap → Prop) : Prop :=
 (p1 = none →
 Fin B h (Q)) ∧ (¬ (p1 = none) →
 ∃ A3 : Addr, p1 = some A3 ∧
 ∃ p5 : Option Addr, cellH B h A3 = some (.pointer p5) ∧
 ∃ A6 : Addr, p1 = some A6 ∧
 ∃ i8 : Int, cellH B h (Addr.add A6 1) = some (.int .i64 (i8)) ∧
 C_disk_Disk_Reset B p5 (i8) h (fun i10 h9 =>
 ∃ A11 : Addr, p1 = some A11 ∧
 ∃ h13 : Heap, storeH h9 (Addr.add A11 2) (.int .i64 (0)) = some h13 ∧
 ∃ A14 : Addr, p1 = some A14 ∧
 ∃ h16 : Heap, storeH h13 (Addr.add A14 3) (.bool false) = some h16 ∧
 Fin B h16 (Q)))
def S_wal_Log_Force (B : RO) (p1 : Option Addr) (h : Heap) (Q : Heap → Prop) : Prop :=
 (p1 = none →
 Fin B h (Q)) ∧ (¬ (p1 = none) →
 ∃ A3 : Addr, p1 = some A3 ∧
 ∃ p5 : Option Addr, cellH B h A3 = some (.pointer p5) ∧
 C_disk_Disk_Sync B p5 h (fun h6 =>
 Fin B h6 (Q)))
def S_wal_Log_Append_J1 (B : RO) (p1 : Option Addr) (s2 : ByteArray) (h5 : Heap) (Q : Int → Heap → Prop) : Prop :=
 C_wafer_Close B s2 h5 (fun s7 h6 =>
 ∃ A9 : Addr, p1 = some A9 ∧
 ∃ p13 : Option Addr, cellH B h6 A9 = some (.pointer p13) ∧
 ∃ A16 : Addr, p1 = some A16 ∧
 ∃ i20 : Int, cellH B h6 (Addr.add A16 1) = some (.int .i64 (i20)) ∧
 C_disk_Disk_Append B p13 (i20) s7 h6 (fun i24 h23 =>
 cellH B h23 A9 = some (.pointer p13) ∧ cellH B h23 (Addr.add A16 1) = some (.int .i64 (i20)) ∧
 ((i24 : Int) = 0 →
 ∃ A27 : Addr, p1 = some A27 ∧
 ∃ i29 : Int, cellH B h23 (Addr.add A27 2) = some (.int .i64 (i29)) ∧
 ∃ A30 : Addr, p1 = some A30 ∧
 ∃ h32 : Heap, storeH h23 (Addr.add A30 2) (.int .i64 (IntKind.wrap .i64 ((i29) + ((ByteArray.size s7 : Nat))))) = some h32 ∧
 Fin B h32 (Q (0))) ∧ (¬ ((i24 : Int) = 0) →
 Fin B h23 (Q (i24)))))
def S_wal_Log_Append (B : RO) (p1 : Option Addr) (s2 : ByteArray) (h : Heap) (Q : Int → Heap → Prop) : Prop :=
 (p1 = none →
 Fin B h (Q (2))) ∧ (¬ (p1 = none) →
 (((ByteArray.size s2 : Nat) : Int) > (1024) →
 Fin B h (Q (3))) ∧ (¬ (((ByteArray.size s2 : Nat) : Int) > (1024)) →
 ∃ A34 : Addr, p1 = some A34 ∧
 ∃ b36 : Bool, cellH B h (Addr.add A34 3) = some (.bool b36) ∧ (b36 = true →
 Fin B h (Q (9))) ∧ (b36 = false →
 Fin B h (fun h' => S_wal_Log_Append_J1 B p1 s2 h' Q))))
def S_tome_Tome_Bytes (B : RO) (p1 : Option Addr) (h : Heap) (Q : ByteArray → Heap → Prop) : Prop :=
 ∀ k3 : Nat, h k3 = none → B k3 = none → ∀ h4 : Heap, h4 = Heap.set h k3 (.vec 152 (plains [(.slice none 0 0)]) 1) →
 ∀ k5 : Nat, h4 k5 = none → B k5 = none → ∀ h6 : Heap, h6 = Heap.set h4 k5 (.vec 150 (plains [(.pointer none)]) 1) →
 ∃ h7 : Heap, storeH h6 ⟨k5, 0, none⟩ (.pointer (some ⟨k3, 0, none⟩)) = some h7 ∧
 C_tome_Tome_All B p1 h7 (fun v9 h8 =>
 ∃ (xs17 : List (Int × Bool × ByteArray)) (G13 : Heap → Prop) (J16 : Nat → Heap → Prop), Iter PG B v9 (xs17.map (fun x : Int × Bool × ByteArray => [(.int .i64 (x.1)), (.agg #[(.bool x.2.1), (.string x.2.2)])])) G13 ∧ Ins G13 ∧ (∀ i h, J16 i h → G13 h) ∧ Fin B h8 (J16 0) ∧
 (∀ (q15 : Nat) (h14 : Heap) (i10 : Int) (b11 : Bool) (s12 : ByteArray), xs17[q15]? = some (i10, b11, s12) → J16 q15 h14 →
 ∀ k18 : Nat, h14 k18 = none → B k18 = none → ∀ h19 : Heap, h19 = Heap.set h14 k18 (.vec 111 (plains [(.bool false), (.string ByteArray.empty)]) 2) →
 ∃ h20 : Heap, StoresAt ⟨k18, 0, none⟩ h19 0 [(.bool b11), (.string s12)] h20 ∧
 ∃ p21 : Option Addr, cellH B h20 ⟨k5, 0, none⟩ = some (.pointer p21) ∧
 ∀ k22 : Nat, h20 k22 = none → B k22 = none → ∀ h23 : Heap, h23 = Heap.set h20 k22 (.vec 3 (plains [(.int .i64 (i10))]) 1) →
 C_stylus_Stylus_Nat B p21 (some ⟨k22, 0, none⟩) 1 1 h23 (fun h24 =>
 ∃ p25 : Option Addr, cellH B h24 ⟨k5, 0, none⟩ = some (.pointer p25) ∧
 ∃ s26 : ByteArray, cellH B h24 ⟨k18, 1, none⟩ = some (.string s26) ∧
 ∀ k27 : Nat, h24 k27 = none → B k27 = none → ∀ h28 : Heap, h28 = Heap.set h24 k27 (.vec 9 (plains [(.string s26)]) 1) →
 C_stylus_Stylus_Text B p25 (some ⟨k27, 0, none⟩) 1 1 h28 (fun h29 =>
 Fin B h29 (J16 (q15 + 1))))) ∧
 (∀ (h14 : Heap), J16 xs17.length h14 →
 ∃ p30 : Option Addr, cellH B h14 ⟨k5, 0, none⟩ = some (.pointer p30) ∧
 C_stylus_Stylus_Bytes B p30 h14 (fun s32 h31 =>
 Fin B h31 (Q s32))))
def S_cell_New_int (B : RO) (i1 : Int) (i2 : Int) (h : Heap) (Q : Option Addr → Heap → Prop) : Prop :=
 ∀ k4 : Nat, h k4 = none → B k4 = none → ∀ h5 : Heap, h5 = Heap.set h k4 (.vec 188 (plains [(.slice none 0 0)]) 1) →
 ∃ (J11 : Int → Nat → Heap → Prop) (m9 : Nat), Fin B h5 (J11 (0) m9) ∧
 ∀ (i6 : Int) (m8 : Nat) (h7 : Heap), J11 i6 m8 h7 →
 ((i6 : Int) < (i1) →
 LdSl B h7 ⟨k4, 0, none⟩ fun a12 n13 c14 h15 =>
 ∀ k16 : Nat, h15 k16 = none → B k16 = none → ∀ h17 : Heap, h17 = Heap.set h15 k16 (.vec 190 (plains [(.int .i64 (i2)), (.int .i64 (0))]) 2) →
 semH PG B (Builtin.append_ #[186, 186] 186 #[(.slice a12 n13 c14), (.slice (some ⟨k16, 0, none⟩) 1 1)]) h17 (fun v h18 => ∃ a19 : Option Addr, ∃ n20 : Nat, ∃ c21 : Nat, v = (.slice a19 n20 c21) ∧
 ∃ h22 : Heap, storeH h18 ⟨k4, 0, none⟩ (.slice a19 n20 c21) = some h22 ∧
 Fin B h22 (fun h' => ∃ m', m' < m8 ∧ J11 (IntKind.wrap .i64 ((i6) + (1))) m' h'))) ∧ (¬ ((i6 : Int) < (i1)) →
 Fin B h7 (Q (some ⟨k4, 0, none⟩)))
def S_feed_New (B : RO) (h : Heap) (Q : Option Addr → Heap → Prop) : Prop :=
 C_cell_New_int B (3) (0) h (fun p3 h2 =>
 ∀ k4 : Nat, h2 k4 = none → B k4 = none → ∀ h5 : Heap, h5 = Heap.set h2 k4 (.vec 192 (plains [(.string ByteArray.empty), (.string ByteArray.empty), (.string ByteArray.empty), (.pointer p3)]) 4) →
 Fin B h5 (Q (some ⟨k4, 0, none⟩)))
def S_countermandref02_All (B : RO) (s1 : ByteArray) (h : Heap) (Q : Option Addr → Nat → Nat → Heap → Prop) : Prop :=
 C_countermandref02_Open B s1 h (fun s6 i7 h5 =>
 ∃ (J18 : ByteArray → Option Addr → Nat → Nat → ByteArray → Int → Nat → Heap → Prop) (m16 : Nat), Fin B h5 (J18 s1 none 0 0 s6 (i7) m16) ∧
 ∀ (s8 : ByteArray) (a9 : Option Addr) (n10 : Nat) (c11 : Nat) (s12 : ByteArray) (i13 : Int) (m15 : Nat) (h14 : Heap), J18 s8 a9 n10 c11 s12 i13 m15 h14 →
 ((i13 : Int) > (0) →
 ∀ k19 : Nat, h14 k19 = none → B k19 = none → ∀ h20 : Heap, h20 = Heap.set h14 k19 (.vec 9 (plains [(.string s12)]) 1) →
 semH PG B (Builtin.append_ #[35, 35] 35 #[(.slice a9 n10 c11), (.slice (some ⟨k19, 0, none⟩) 1 1)]) h20 (fun v h21 => ∃ a22 : Option Addr, ∃ n23 : Nat, ∃ c24 : Nat, v = (.slice a22 n23 c24) ∧
 0 ≤ (i13 : Int) ∧ (i13 : Int) ≤ ((ByteArray.size s8 : Nat) : Int) ∧ ((ByteArray.size s8 : Nat) : Int) ≤ (ByteArray.size s8 : Nat) ∧
 C_countermandref02_Open B (ByteArray.extract s8 (Int.toNat (i13)) (Int.toNat ((ByteArray.size s8 : Nat)))) h21 (fun s26 i27 h25 =>
 Fin B h25 (fun h' => ∃ m', m' < m15 ∧ J18 (ByteArray.extract s8 (Int.toNat (i13)) (Int.toNat ((ByteArray.size s8 : Nat)))) a22 n23 c24 s26 (i27) m' h')))) ∧ (¬ ((i13 : Int) > (0)) →
 Fin B h14 (Q a9 n10 c11)))
def S_cell_Row_file_File_Get (B : RO) (p1 : Option Addr) (i2 : Int) (h : Heap) (Q : Bool → ByteArray → Int → Heap → Prop) : Prop :=
 ∀ k6 : Nat, h k6 = none → B k6 = none → ∀ h7 : Heap, h7 = Heap.set h k6 (.vec 111 (plains [(.bool false), (.string ByteArray.empty)]) 2) →
 C_cell_Row_file_File_is B p1 (i2) h7 (fun b9 h8 =>
 (b9 = true →
 ∃ A18 : Addr, p1 = some A18 ∧
 ∃ a22 : Option Addr, ∃ n23 : Nat, ∃ c24 : Nat, cellH B h8 A18 = some (.slice a22 n23 c24) ∧
 ∃ A27 : Addr, a22 = some A27 ∧ 0 ≤ (i2 : Int) ∧ (i2 : Int) < (n23 : Nat) ∧
 ∃ b33 : Bool, ∃ s34 : ByteArray, CellsAt B h8 (Addr.add A27 (Int.toNat (i2) * 3)) 0 [(.bool b33), (.string s34)] ∧
 ∃ A37 : Addr, p1 = some A37 ∧
 ∃ a41 : Option Addr, ∃ n42 : Nat, ∃ c43 : Nat, cellH B h8 A37 = some (.slice a41 n42 c43) ∧
 ∃ A46 : Addr, a41 = some A46 ∧ 0 ≤ (i2 : Int) ∧ (i2 : Int) < (n42 : Nat) ∧
 ∃ i52 : Int, cellH B h8 (Addr.add (Addr.add A46 (Int.toNat (i2) * 3)) 2) = some (.int .i64 (i52)) ∧
 ∃ h54 : Heap, StoresAt ⟨k6, 0, none⟩ h8 0 [(.bool b33), (.string s34)] h54 ∧
 cellH B h54 A18 = some (.slice a22 n23 c24) ∧ CellsAt B h54 (Addr.add A27 (Int.toNat (i2) * 3)) 0 [(.bool b33), (.string s34)] ∧ cellH B h54 A37 = some (.slice a41 n42 c43) ∧ cellH B h54 (Addr.add (Addr.add A46 (Int.toNat (i2) * 3)) 2) = some (.int .i64 (i52)) ∧
 ∃ b59 : Bool, ∃ s60 : ByteArray, CellsAt B h54 ⟨k6, 0, none⟩ 0 [(.bool b59), (.string s60)] ∧ Fin B h54 (Q (b59) s60 (i52))) ∧ (b9 = false →
 ∀ k10 : Nat, h8 k10 = none → B k10 = none → ∀ h11 : Heap, h11 = Heap.set h8 k10 (.vec 111 (plains [(.bool false), (.string ByteArray.empty)]) 2) →
 ∃ b12 : Bool, ∃ s13 : ByteArray, CellsAt B h11 ⟨k10, 0, none⟩ 0 [(.bool b12), (.string s13)] ∧
 ∃ h14 : Heap, StoresAt ⟨k6, 0, none⟩ h11 0 [(.bool b12), (.string s13)] h14 ∧
 ∃ b15 : Bool, ∃ s16 : ByteArray, CellsAt B h14 ⟨k6, 0, none⟩ 0 [(.bool b15), (.string s16)] ∧ Fin B h14 (Q (b15) s16 (0))))
def S_stylus_Stylus_Text (B : RO) (p1 : Option Addr) (a2 : Option Addr) (n3 : Nat) (c4 : Nat) (h : Heap) (Q : Heap → Prop) : Prop :=
 ∃ (J10 : Int → Nat → Heap → Prop) (m8 : Nat), Fin B h (J10 (0) m8) ∧
 ∀ (i5 : Int) (m7 : Nat) (h6 : Heap), J10 i5 m7 h6 →
 ((i5 : Int) < ((n3 : Nat)) →
 ∃ A11 : Addr, a2 = some A11 ∧ 0 ≤ (i5 : Int) ∧ (i5 : Int) < (n3 : Nat) ∧
 ∃ s13 : ByteArray, cellH B h6 (Addr.add A11 (Int.toNat (i5) * 1)) = some (.string s13) ∧
 ∀ k14 : Nat, h6 k14 = none → B k14 = none → ∀ h15 : Heap, h15 = Heap.set h6 k14 (.vec 3 (plains [(.int .i64 ((ByteArray.size s13 : Nat)))]) 1) →
 C_stylus_Stylus_Nat B p1 (some ⟨k14, 0, none⟩) 1 1 h15 (fun h16 =>
 C_stylus_Stylus_Raw B p1 s13 h16 (fun h17 =>
 Fin B h17 (fun h' => ∃ m', m' < m7 ∧ J10 (IntKind.wrap .i64 ((i5) + (1))) m' h')))) ∧ (¬ ((i5 : Int) < ((n3 : Nat))) →
 Fin B h6 (Q))
def S_disk_Disk_Read_J1 (B : RO) (p1 : Option Addr) (i2 : Int) (h5 : Heap) (Q : ByteArray → Heap → Prop) : Prop :=
 ∃ A6 : Addr, p1 = some A6 ∧
 0 ≤ (i2 : Int) ∧ (i2 : Int) < (2 : Nat) ∧
 ∃ s8 : ByteArray, cellH B h5 (Addr.add A6 (Int.toNat (i2) * 2)) = some (.string s8) ∧
 Fin B h5 (Q s8)
def S_disk_Disk_Read (B : RO) (p1 : Option Addr) (i2 : Int) (h : Heap) (Q : ByteArray → Heap → Prop) : Prop :=
 (p1 = none →
 Fin B h (Q (ByteArray.mk #[]))) ∧ (¬ (p1 = none) →
 C_disk_good B (i2) h (fun b11 h10 =>
 (b11 = true →
 Fin B h10 (fun h' => S_disk_Disk_Read_J1 B p1 i2 h' Q)) ∧ (b11 = false →
 Fin B h10 (Q (ByteArray.mk #[])))))
def S_wafer_Whole (B : RO) (s1 : ByteArray) (h : Heap) (Q : Int → Heap → Prop) : Prop :=
 ∀ k3 : Nat, h k3 = none → B k3 = none → ∀ h4 : Heap, h4 = Heap.set h k3 (.vec 3 (plains [(.int .i64 (0))]) 1) →
 ∃ h5 : Heap, storeH h4 ⟨k3, 0, none⟩ (.int .i64 (0)) = some h5 ∧
 C_wafer_All B s1 h5 (fun v7 h6 =>
 ∃ (xs13 : List (ByteArray)) (G9 : Heap → Prop) (J12 : Nat → Heap → Prop), Iter PG B v7 (xs13.map (fun x : ByteArray => [(.string x)])) G9 ∧ Ins G9 ∧ (∀ i h, J12 i h → G9 h) ∧ Fin B h6 (J12 0) ∧
 (∀ (q11 : Nat) (h10 : Heap) (s8 : ByteArray), xs13[q11]? = some (s8) → J12 q11 h10 →
 ∃ i14 : Int, cellH B h10 ⟨k3, 0, none⟩ = some (.int .i64 (i14)) ∧
 ∃ h15 : Heap, storeH h10 ⟨k3, 0, none⟩ (.int .i64 (IntKind.wrap .i64 ((i14) + (IntKind.wrap .i64 ((IntKind.wrap .i64 ((2) + ((ByteArray.size s8 : Nat)))) + (4)))))) = some h15 ∧
 Fin B h15 (J12 (q11 + 1))) ∧
 (∀ (h10 : Heap), J12 xs13.length h10 →
 ∃ i16 : Int, cellH B h10 ⟨k3, 0, none⟩ = some (.int .i64 (i16)) ∧
 Fin B h10 (Q (i16))))
def S_wal_Log_All (B : RO) (p1 : Option Addr) (h : Heap) (Q : Value → Heap → Prop) : Prop :=
 ∀ k3 : Nat, h k3 = none → B k3 = none → ∀ h4 : Heap, h4 = Heap.set h k3 (.vec 133 [.plain (.pointer p1)] 1) →
 Fin B h4 (Q (Value.func (.func 97) #[] #[(.pointer (some ⟨k3, 0, none⟩))]))
def S_vault_first (B : RO) (s1 : ByteArray) (h : Heap) (Q : Int → ByteArray → Bool → Heap → Prop) : Prop :=
 C_stylus_Of B s1 h (fun p6 h5 =>
 C_stylus_Reader_Nat B p6 (1) h5 (fun i8 h7 =>
 C_stylus_Reader_Nat B p6 (1099511627776) h7 (fun i10 h9 =>
 C_stylus_Reader_Left B p6 h9 (fun i12 h11 =>
 C_stylus_Reader_Raw B p6 (i12) h11 (fun s14 h13 =>
 C_stylus_Reader_Bad B p6 h13 (fun b16 h15 =>
 (b16 = true →
 Fin B h15 (Q (i10) s14 (false))) ∧ (b16 = false →
 ((i8 : Int) = 0 →
 Fin B h15 (Q (i10) s14 ((decide ((i10 : Int) > (0)))))) ∧ (¬ ((i8 : Int) = 0) →
 Fin B h15 (Q (i10) s14 (false))))))))))
def S_cell_New_file_File (B : RO) (i1 : Int) (b2 : Bool) (s3 : ByteArray) (h : Heap) (Q : Option Addr → Heap → Prop) : Prop :=
 ∀ k5 : Nat, h k5 = none → B k5 = none → ∀ h6 : Heap, h6 = Heap.set h k5 (.vec 111 (plains [(.bool b2), (.string s3)]) 2) →
 ∀ k7 : Nat, h6 k7 = none → B k7 = none → ∀ h8 : Heap, h8 = Heap.set h6 k7 (.vec 199 (plains [(.slice none 0 0)]) 1) →
 ∃ (J14 : Int → Nat → Heap → Prop) (m12 : Nat), Fin B h8 (J14 (0) m12) ∧
 ∀ (i9 : Int) (m11 : Nat) (h10 : Heap), J14 i9 m11 h10 →
 ((i9 : Int) < (i1) →
 ∃ a19 : Option Addr, ∃ n20 : Nat, ∃ c21 : Nat, cellH B h10 ⟨k7, 0, none⟩ = some (.slice a19 n20 c21) ∧
 ∃ b23 : Bool, ∃ s24 : ByteArray, CellsAt B h10 ⟨k5, 0, none⟩ 0 [(.bool b23), (.string s24)] ∧
 ∀ k27 : Nat, h10 k27 = none → B k27 = none → ∀ h28 : Heap, h28 = Heap.set h10 k27 (.vec 196 (plains [(.bool b23), (.string s24), (.int .i64 (0))]) 3) →
 cellH B h28 ⟨k7, 0, none⟩ = some (.slice a19 n20 c21) ∧ CellsAt B h28 ⟨k5, 0, none⟩ 0 [(.bool b23), (.string s24)] ∧
 semH PG B (Builtin.append_ #[197, 197] 197 #[(.slice a19 n20 c21), (.slice (some ⟨k27, 0, none⟩) 1 1)]) h28 (fun v h31 => ∃ a32 : Option Addr, ∃ n33 : Nat, ∃ c34 : Nat, v = (.slice a32 n33 c34) ∧
 cellH B h31 ⟨k7, 0, none⟩ = some (.slice a19 n20 c21) ∧ CellsAt B h31 ⟨k5, 0, none⟩ 0 [(.bool b23), (.string s24)] ∧
 ∃ h37 : Heap, storeH h31 ⟨k7, 0, none⟩ (.slice a32 n33 c34) = some h37 ∧
 Fin B h37 (fun h' => ∃ m', m' < m11 ∧ J14 (IntKind.wrap .i64 ((i9) + (1))) m' h'))) ∧ (¬ ((i9 : Int) < (i1)) →
 Fin B h10 (Q (some ⟨k7, 0, none⟩)))
def S_stylus_Reader_word_J1 (B : RO) (p1 : Option Addr) (i3 : Int) (i4 : Int) (m6 : Nat) (J9 : Int → Int → Nat → Heap → Prop) (s11 : ByteArray) (h13 : Heap) (Q : Int → Heap → Prop) : Prop :=
 0 ≤ (0 : Int) ∧ (0 : Int) < (ByteArray.size s11 : Nat) ∧
 ¬ ((i4 : Int) < 0) ∧
 0 ≤ (0 : Int) ∧ (0 : Int) < (ByteArray.size s11 : Nat) ∧
 ((byteAt s11 (Int.toNat (0)) : Int) < (128) →
 Fin B h13 (Q (IntKind.wrap .u64 ((BitVec.ofInt (IntKind.bits .u64) (i3) ||| BitVec.ofInt (IntKind.bits .u64) (IntKind.wrap .u64 ((IntKind.wrap .u64 (IntKind.wrap .u8 ((BitVec.ofInt (IntKind.bits .u8) (byteAt s11 (Int.toNat (0))) &&& BitVec.ofInt (IntKind.bits .u8) (127)).toNat : Int))) * 2 ^ (min (Int.toNat (i4)) (IntKind.bits .u64))))).toNat : Int)))) ∧ (¬ ((byteAt s11 (Int.toNat (0)) : Int) < (128)) →
 Fin B h13 (fun h' => ∃ m', m' < m6 ∧ J9 (IntKind.wrap .u64 ((BitVec.ofInt (IntKind.bits .u64) (i3) ||| BitVec.ofInt (IntKind.bits .u64) (IntKind.wrap .u64 ((IntKind.wrap .u64 (IntKind.wrap .u8 ((BitVec.ofInt (IntKind.bits .u8) (byteAt s11 (Int.toNat (0))) &&& BitVec.ofInt (IntKind.bits .u8) (127)).toNat : Int))) * 2 ^ (min (Int.toNat (i4)) (IntKind.bits .u64))))).toNat : Int)) (IntKind.wrap .i64 ((i4) + (7))) m' h'))
def S_stylus_Reader_word (B : RO) (p1 : Option Addr) (h : Heap) (Q : Int → Heap → Prop) : Prop :=
 ∃ (J9 : Int → Int → Nat → Heap → Prop) (m7 : Nat), Fin B h (J9 (0) (0) m7) ∧
 ∀ (i3 : Int) (i4 : Int) (m6 : Nat) (h5 : Heap), J9 i3 i4 m6 h5 →
 ((i4 : Int) < (64) →
 C_stylus_Reader_Raw B p1 (1) h5 (fun s11 h10 =>
 (s11 = (ByteArray.mk #[]) →
 C_stylus_Reader_Spoil B p1 h10 (fun h15 =>
 Fin B h15 (Q (0)))) ∧ (¬ (s11 = (ByteArray.mk #[])) →
 ((i4 : Int) = 63 →
 0 ≤ (0 : Int) ∧ (0 : Int) < (ByteArray.size s11 : Nat) ∧
 ((byteAt s11 (Int.toNat (0)) : Int) > (1) →
 C_stylus_Reader_Spoil B p1 h10 (fun h16 =>
 Fin B h16 (Q (0)))) ∧ (¬ ((byteAt s11 (Int.toNat (0)) : Int) > (1)) →
 ((i4 : Int) > (0) →
 0 ≤ (0 : Int) ∧ (0 : Int) < (ByteArray.size s11 : Nat) ∧
 ((byteAt s11 (Int.toNat (0)) : Int) = 0 →
 C_stylus_Reader_Spoil B p1 h10 (fun h17 =>
 Fin B h17 (Q (0)))) ∧ (¬ ((byteAt s11 (Int.toNat (0)) : Int) = 0) →
 Fin B h10 (fun h' => S_stylus_Reader_word_J1 B p1 i3 i4 m6 J9 s11 h' Q))) ∧ (¬ ((i4 : Int) > (0)) →
 Fin B h10 (fun h' => S_stylus_Reader_word_J1 B p1 i3 i4 m6 J9 s11 h' Q)))) ∧ (¬ ((i4 : Int) = 63) →
 ((i4 : Int) > (0) →
 0 ≤ (0 : Int) ∧ (0 : Int) < (ByteArray.size s11 : Nat) ∧
 ((byteAt s11 (Int.toNat (0)) : Int) = 0 →
 C_stylus_Reader_Spoil B p1 h10 (fun h18 =>
 Fin B h18 (Q (0)))) ∧ (¬ ((byteAt s11 (Int.toNat (0)) : Int) = 0) →
 Fin B h10 (fun h' => S_stylus_Reader_word_J1 B p1 i3 i4 m6 J9 s11 h' Q))) ∧ (¬ ((i4 : Int) > (0)) →
 Fin B h10 (fun h' => S_stylus_Reader_word_J1 B p1 i3 i4 m6 J9 s11 h' Q)))))) ∧ (¬ ((i4 : Int) < (64)) →
 C_stylus_Reader_Spoil B p1 h5 (fun h19 =>
 Fin B h19 (Q (0))))
def S_stylus_Reader_Spoil (B : RO) (p1 : Option Addr) (h : Heap) (Q : Heap → Prop) : Prop :=
 (p1 = none →
 Fin B h (Q)) ∧ (¬ (p1 = none) →
 ∃ A3 : Addr, p1 = some A3 ∧
 ∃ h5 : Heap, storeH h A3 (.string (ByteArray.mk #[])) = some h5 ∧
 ∃ A6 : Addr, p1 = some A6 ∧
 ∃ h8 : Heap, storeH h5 (Addr.add A6 1) (.bool true) = some h8 ∧
 Fin B h8 (Q))
def S_stylus_Reader_Text (B : RO) (p1 : Option Addr) (i2 : Int) (h : Heap) (Q : ByteArray → Heap → Prop) : Prop :=
 C_stylus_Reader_Nat B p1 (i2) h (fun i5 h4 =>
 C_stylus_Reader_Raw B p1 (i5) h4 (fun s7 h6 =>
 Fin B h6 (Q s7)))
def S_tome_Tome_Set_J1 (B : RO) (h14 : Heap) (Q : Bool → Heap → Prop) : Prop :=
 Fin B h14 (Q (false))
def S_tome_Tome_Set_J2 (B : RO) (k7 : Nat) (b17 : Bool) (s18 : ByteArray) (h24 : Heap) (Q : Bool → Heap → Prop) : Prop :=
 Fin B h24 (Q (false))
def S_tome_Tome_Set_J3 (B : RO) (i2 : Int) (i5 : Int) (k7 : Nat) (b17 : Bool) (s18 : ByteArray) (p36 : Option Addr) (b37 : Bool) (s38 : ByteArray) (h39 : Heap) (Q : Bool → Heap → Prop) : Prop :=
 C_cell_Row_file_File_Set B p36 (i2) (b37) s38 (i5) h39 (fun b42 h41 =>
 CellsAt B h41 ⟨k7, 0, none⟩ 0 [(.bool b17), (.string s18)] ∧
 Fin B h41 (Q (b42)))
def S_tome_Tome_Set (B : RO) (p1 : Option Addr) (i2 : Int) (b3 : Bool) (s4 : ByteArray) (i5 : Int) (h : Heap) (Q : Bool → Heap → Prop) : Prop :=
 ∀ k7 : Nat, h k7 = none → B k7 = none → ∀ h8 : Heap, h8 = Heap.set h k7 (.vec 111 (plains [(.bool b3), (.string s4)]) 2) →
 (p1 = none →
 (S_tome_Tome_Set_J1 B h8 Q) ∧
 (S_tome_Tome_Set_J1 B h8 Q)) ∧ (¬ (p1 = none) →
 ∃ b17 : Bool, ∃ s18 : ByteArray, CellsAt B h8 ⟨k7, 0, none⟩ 0 [(.bool b17), (.string s18)] ∧
 C_file_Good B (b17) s18 h8 (fun b21 h20 =>
 (b21 = true →
 CellsAt B h20 ⟨k7, 0, none⟩ 0 [(.bool b17), (.string s18)] ∧
 ∃ A27 : Addr, p1 = some A27 ∧
 (∃ p44 : Option Addr, cellH B h20 A27 = some (.pointer p44) ∧
 ∃ b45 : Bool, ∃ s46 : ByteArray, CellsAt B h20 ⟨k7, 0, none⟩ 0 [(.bool b45), (.string s46)] ∧
 S_tome_Tome_Set_J3 B i2 i5 k7 b17 s18 p44 (b45) s46 h20 Q) ∧
 (∃ b47 : Bool, ∃ s48 : ByteArray, CellsAt B h20 ⟨k7, 0, none⟩ 0 [(.bool b47), (.string s48)] ∧
 ∃ p49 : Option Addr, cellH B h20 A27 = some (.pointer p49) ∧
 S_tome_Tome_Set_J3 B i2 i5 k7 b17 s18 p49 (b47) s48 h20 Q)) ∧ (b21 = false →
 CellsAt B h20 ⟨k7, 0, none⟩ 0 [(.bool b17), (.string s18)] ∧
 (S_tome_Tome_Set_J2 B k7 b17 s18 h20 Q) ∧
 (S_tome_Tome_Set_J2 B k7 b17 s18 h20 Q))))
def S_disk_Disk_Reset_J1 (B : RO) (p1 : Option Addr) (i2 : Int) (h5 : Heap) (Q : Int → Heap → Prop) : Prop :=
 ∃ A6 : Addr, p1 = some A6 ∧
 0 ≤ (i2 : Int) ∧ (i2 : Int) < (2 : Nat) ∧
 ∃ h8 : Heap, storeH h5 (Addr.add A6 (Int.toNat (i2) * 2)) (.string (ByteArray.mk #[])) = some h8 ∧
 ∃ A9 : Addr, p1 = some A9 ∧
 LdSl B h8 (Addr.add A9 4) fun a11 n12 c13 h14 =>
 ∀ k15 : Nat, h14 k15 = none → B k15 = none → ∀ h16 : Heap, h16 = Heap.set h14 k15 (.vec 87 (plains [(.int .i64 (i2)), (.bool true), (.string ByteArray.empty)]) 3) →
 semH PG B (Builtin.append_ #[83, 83] 83 #[(.slice a11 n12 c13), (.slice (some ⟨k15, 0, none⟩) 1 1)]) h16 (fun v h17 => ∃ a18 : Option Addr, ∃ n19 : Nat, ∃ c20 : Nat, v = (.slice a18 n19 c20) ∧
 ∃ A21 : Addr, p1 = some A21 ∧
 ∃ h23 : Heap, storeH h17 (Addr.add A21 4) (.slice a18 n19 c20) = some h23 ∧
 Fin B h23 (Q (0)))
def S_disk_Disk_Reset (B : RO) (p1 : Option Addr) (i2 : Int) (h : Heap) (Q : Int → Heap → Prop) : Prop :=
 (p1 = none →
 Fin B h (Q (2))) ∧ (¬ (p1 = none) →
 C_disk_good B (i2) h (fun b26 h25 =>
 (b26 = true →
 Fin B h25 (fun h' => S_disk_Disk_Reset_J1 B p1 i2 h' Q)) ∧ (b26 = false →
 Fin B h25 (Q (1)))))
def S_disk_Disk_Sync (B : RO) (p1 : Option Addr) (h : Heap) (Q : Heap → Prop) : Prop :=
 (p1 = none →
 Fin B h (Q)) ∧ (¬ (p1 = none) →
 ∃ A3 : Addr, p1 = some A3 ∧
 LdSl B h (Addr.add A3 4) fun a5 n6 c7 h8 =>
 ∃ (J14 : Int → Nat → Heap → Prop) (m12 : Nat), Fin B h8 (J14 (0) m12) ∧
 ∀ (i9 : Int) (m11 : Nat) (h10 : Heap), J14 i9 m11 h10 →
 ((i9 : Int) < ((n6 : Nat)) →
 ∃ A15 : Addr, a5 = some A15 ∧ 0 ≤ (i9 : Int) ∧ (i9 : Int) < (n6 : Nat) ∧
 ∃ i17 : Int, ∃ b18 : Bool, ∃ s19 : ByteArray, CellsAt B h10 (Addr.add A15 (Int.toNat (i9) * 3)) 0 [(.int .i64 (i17)), (.bool b18), (.string s19)] ∧
 ∀ k20 : Nat, h10 k20 = none → B k20 = none → ∀ h21 : Heap, h21 = Heap.set h10 k20 (.vec 87 (plains [(.int .i64 (0)), (.bool false), (.string ByteArray.empty)]) 3) →
 ∃ h22 : Heap, StoresAt ⟨k20, 0, none⟩ h21 0 [(.int .i64 (i17)), (.bool b18), (.string s19)] h22 ∧
 ∃ i23 : Int, ∃ b24 : Bool, ∃ s25 : ByteArray, CellsAt B h22 ⟨k20, 0, none⟩ 0 [(.int .i64 (i23)), (.bool b24), (.string s25)] ∧
 C_disk_Disk_land B p1 (i23) (b24) s25 h22 (fun h26 =>
 Fin B h26 (fun h' => ∃ m', m' < m11 ∧ J14 (IntKind.wrap .i64 ((i9) + (1))) m' h'))) ∧ (¬ ((i9 : Int) < ((n6 : Nat))) →
 ∃ A27 : Addr, p1 = some A27 ∧
 ∃ h29 : Heap, storeH h10 (Addr.add A27 4) (.slice none 0 0) = some h29 ∧
 Fin B h29 (Q)))
def S_wafer_Close (B : RO) (s1 : ByteArray) (h : Heap) (Q : ByteArray → Heap → Prop) : Prop :=
 (((ByteArray.size s1 : Nat) : Int) > (1024) →
 Fin B h (Q (ByteArray.mk #[]))) ∧ (¬ (((ByteArray.size s1 : Nat) : Int) > (1024)) →
 ¬ ((8 : Int) < 0) ∧
 ∀ k3 : Nat, h k3 = none → B k3 = none → ∀ h4 : Heap, h4 = Heap.set h k3 (.vec 5 (plains [(.int .u8 (IntKind.wrap .u8 (Int.fdiv ((ByteArray.size s1 : Nat)) (2 ^ (min (Int.toNat (8)) (IntKind.bits .i64)))))), (.int .u8 (IntKind.wrap .u8 ((ByteArray.size s1 : Nat))))]) 2) →
 semH PG B (convert 63 9 (.slice (some ⟨k3, 0, none⟩) 2 2)) h4 (fun v h6 => ∃ s5 : ByteArray, v = (.string s5) ∧
 ByteArray.size s5 + ByteArray.size s1 ≤ 4611686018427387904 ∧
 C_wafer_Sum B (s5 ++ s1) h6 (fun i8 h7 =>
 C_wafer_foots B (i8) h7 (fun s10 h9 =>
 ByteArray.size (s5 ++ s1) + ByteArray.size s10 ≤ 4611686018427387904 ∧
 Fin B h9 (Q ((s5 ++ s1) ++ s10))))))
def S_tome_Tome_All (B : RO) (p1 : Option Addr) (h : Heap) (Q : Value → Heap → Prop) : Prop :=
 ∀ k3 : Nat, h k3 = none → B k3 = none → ∀ h4 : Heap, h4 = Heap.set h k3 (.vec 41 [.plain (.pointer p1)] 1) →
 Fin B h4 (Q (Value.func (.func 102) #[] #[(.pointer (some ⟨k3, 0, none⟩))]))
def S_countermandref02_Open_J1 (B : RO) (s1 : ByteArray) (h5 : Heap) (Q : ByteArray → Int → Heap → Prop) : Prop :=
 0 ≤ (2 : Int) ∧ (2 : Int) ≤ (IntKind.wrap .i64 ((2) + (IntKind.wrap .i64 ((IntKind.wrap .i64 ((256) * (IntKind.wrap .i64 (byteAt s1 (Int.toNat (0)))))) + (IntKind.wrap .i64 (byteAt s1 (Int.toNat (1))))))) : Int) ∧ (IntKind.wrap .i64 ((2) + (IntKind.wrap .i64 ((IntKind.wrap .i64 ((256) * (IntKind.wrap .i64 (byteAt s1 (Int.toNat (0)))))) + (IntKind.wrap .i64 (byteAt s1 (Int.toNat (1))))))) : Int) ≤ (ByteArray.size s1 : Nat) ∧
 0 ≤ (0 : Int) ∧ (0 : Int) ≤ (IntKind.wrap .i64 ((6) + (IntKind.wrap .i64 ((IntKind.wrap .i64 ((256) * (IntKind.wrap .i64 (byteAt s1 (Int.toNat (0)))))) + (IntKind.wrap .i64 (byteAt s1 (Int.toNat (1))))))) : Int) ∧ (IntKind.wrap .i64 ((6) + (IntKind.wrap .i64 ((IntKind.wrap .i64 ((256) * (IntKind.wrap .i64 (byteAt s1 (Int.toNat (0)))))) + (IntKind.wrap .i64 (byteAt s1 (Int.toNat (1))))))) : Int) ≤ (ByteArray.size s1 : Nat) ∧
 C_countermandref02_Close B (ByteArray.extract s1 (Int.toNat (2)) (Int.toNat (IntKind.wrap .i64 ((2) + (IntKind.wrap .i64 ((IntKind.wrap .i64 ((256) * (IntKind.wrap .i64 (byteAt s1 (Int.toNat (0)))))) + (IntKind.wrap .i64 (byteAt s1 (Int.toNat (1)))))))))) h5 (fun s15 h14 =>
 (s15 = (ByteArray.extract s1 (Int.toNat (0)) (Int.toNat (IntKind.wrap .i64 ((6) + (IntKind.wrap .i64 ((IntKind.wrap .i64 ((256) * (IntKind.wrap .i64 (byteAt s1 (Int.toNat (0)))))) + (IntKind.wrap .i64 (byteAt s1 (Int.toNat (1)))))))))) →
 Fin B h14 (Q (ByteArray.extract s1 (Int.toNat (2)) (Int.toNat (IntKind.wrap .i64 ((2) + (IntKind.wrap .i64 ((IntKind.wrap .i64 ((256) * (IntKind.wrap .i64 (byteAt s1 (Int.toNat (0)))))) + (IntKind.wrap .i64 (byteAt s1 (Int.toNat (1)))))))))) (IntKind.wrap .i64 ((6) + (IntKind.wrap .i64 ((IntKind.wrap .i64 ((256) * (IntKind.wrap .i64 (byteAt s1 (Int.toNat (0)))))) + (IntKind.wrap .i64 (byteAt s1 (Int.toNat (1)))))))))) ∧ (¬ (s15 = (ByteArray.extract s1 (Int.toNat (0)) (Int.toNat (IntKind.wrap .i64 ((6) + (IntKind.wrap .i64 ((IntKind.wrap .i64 ((256) * (IntKind.wrap .i64 (byteAt s1 (Int.toNat (0)))))) + (IntKind.wrap .i64 (byteAt s1 (Int.toNat (1))))))))))) →
 Fin B h14 (Q (ByteArray.mk #[]) (0))))
def S_countermandref02_Open (B : RO) (s1 : ByteArray) (h : Heap) (Q : ByteArray → Int → Heap → Prop) : Prop :=
 (((ByteArray.size s1 : Nat) : Int) < (6) →
 Fin B h (Q (ByteArray.mk #[]) (0))) ∧ (¬ (((ByteArray.size s1 : Nat) : Int) < (6)) →
 0 ≤ (0 : Int) ∧ (0 : Int) < (ByteArray.size s1 : Nat) ∧
 0 ≤ (1 : Int) ∧ (1 : Int) < (ByteArray.size s1 : Nat) ∧
 ((IntKind.wrap .i64 ((IntKind.wrap .i64 ((256) * (IntKind.wrap .i64 (byteAt s1 (Int.toNat (0)))))) + (IntKind.wrap .i64 (byteAt s1 (Int.toNat (1))))) : Int) > (1024) →
 Fin B h (Q (ByteArray.mk #[]) (0))) ∧ (¬ ((IntKind.wrap .i64 ((IntKind.wrap .i64 ((256) * (IntKind.wrap .i64 (byteAt s1 (Int.toNat (0)))))) + (IntKind.wrap .i64 (byteAt s1 (Int.toNat (1))))) : Int) > (1024)) →
 (((ByteArray.size s1 : Nat) : Int) < (IntKind.wrap .i64 ((6) + (IntKind.wrap .i64 ((IntKind.wrap .i64 ((256) * (IntKind.wrap .i64 (byteAt s1 (Int.toNat (0)))))) + (IntKind.wrap .i64 (byteAt s1 (Int.toNat (1)))))))) →
 Fin B h (Q (ByteArray.mk #[]) (0))) ∧ (¬ (((ByteArray.size s1 : Nat) : Int) < (IntKind.wrap .i64 ((6) + (IntKind.wrap .i64 ((IntKind.wrap .i64 ((256) * (IntKind.wrap .i64 (byteAt s1 (Int.toNat (0)))))) + (IntKind.wrap .i64 (byteAt s1 (Int.toNat (1))))))))) →
 Fin B h (fun h' => S_countermandref02_Open_J1 B s1 h' Q))))
def S_cell_Row_file_File_is (B : RO) (p1 : Option Addr) (i2 : Int) (h : Heap) (Q : Bool → Heap → Prop) : Prop :=
 (p1 = none →
 Fin B h (Q (false))) ∧ (¬ (p1 = none) →
 ((i2 : Int) ≥ (0) →
 ∃ A5 : Addr, p1 = some A5 ∧
 LdSl B h A5 fun a7 n8 c9 h10 =>
 Fin B h10 (Q ((decide ((i2 : Int) < ((n8 : Nat))))))) ∧ (¬ ((i2 : Int) ≥ (0)) →
 Fin B h (Q (false))))
def S_wafer_All (B : RO) (s1 : ByteArray) (h : Heap) (Q : Value → Heap → Prop) : Prop :=
 ∀ k3 : Nat, h k3 = none → B k3 = none → ∀ h4 : Heap, h4 = Heap.set h k3 (.vec 9 [.plain (.string s1)] 1) →
 Fin B h4 (Q (Value.func (.func 105) #[] #[(.pointer (some ⟨k3, 0, none⟩))]))
def S_wal_Log_All_1 (B : RO) (v1 : Value) (A2 : Addr) (h : Heap) (Q : Heap → Prop) : Prop :=
 isOne v1 = true ∧
 ∀ k3 : Nat, h k3 = none → B k3 = none → ∀ h4 : Heap, h4 = Heap.set h k3 (.vec 204 [.plain v1] 1) →
 ∃ p5 : Option Addr, cellH B h4 A2 = some (.pointer p5) ∧
 (p5 = none →
 Fin B h4 (Q)) ∧ (¬ (p5 = none) →
 ∃ p7 : Option Addr, cellH B h4 A2 = some (.pointer p7) ∧
 ∃ A8 : Addr, p7 = some A8 ∧
 ∃ p10 : Option Addr, cellH B h4 A8 = some (.pointer p10) ∧
 ∃ p11 : Option Addr, cellH B h4 A2 = some (.pointer p11) ∧
 ∃ A12 : Addr, p11 = some A12 ∧
 ∃ i14 : Int, cellH B h4 (Addr.add A12 1) = some (.int .i64 (i14)) ∧
 C_disk_Disk_Read B p10 (i14) h4 (fun s16 h15 =>
 C_wafer_All B s16 h15 (fun v18 h17 =>
 ∃ (xs24 : List (ByteArray)) (G20 : Heap → Prop) (J23 : Nat → Heap → Prop), Iter PG B v18 (xs24.map (fun x : ByteArray => [(.string x)])) G20 ∧ Ins G20 ∧ (∀ i h, J23 i h → G20 h) ∧ Fin B h17 (J23 0) ∧
 (∀ (q22 : Nat) (h21 : Heap) (s19 : ByteArray), xs24[q22]? = some (s19) → J23 q22 h21 →
 ∃ v25 : Value, cellH B h21 ⟨k3, 0, none⟩ = some v25 ∧
 CallV PG B v25 [(.string s19)] h21 (fun v h26 => ∃ b27 : Bool, v = (.bool b27) ∧
 (b27 = true →
 Fin B h26 (J23 (q22 + 1))) ∧ (b27 = false →
 Fin B h26 (Q)))) ∧
 (∀ (h21 : Heap), J23 xs24.length h21 →
 Fin B h21 (Q)))))
def S_file_Good (B : RO) (b1 : Bool) (s2 : ByteArray) (h : Heap) (Q : Bool → Heap → Prop) : Prop :=
 ∀ k4 : Nat, h k4 = none → B k4 = none → ∀ h5 : Heap, h5 = Heap.set h k4 (.vec 111 (plains [(.bool b1), (.string s2)]) 2) →
 ∃ s6 : ByteArray, cellH B h5 ⟨k4, 1, none⟩ = some (.string s6) ∧
 (((ByteArray.size s6 : Nat) : Int) ≤ (32) →
 ∃ b7 : Bool, cellH B h5 ⟨k4, 0, none⟩ = some (.bool b7) ∧ (b7 = true →
 Fin B h5 (Q (true))) ∧ (b7 = false →
 ∃ s8 : ByteArray, cellH B h5 ⟨k4, 1, none⟩ = some (.string s8) ∧
 Fin B h5 (Q ((decide (s8 = (ByteArray.mk #[]))))))) ∧ (¬ (((ByteArray.size s6 : Nat) : Int) ≤ (32)) →
 Fin B h5 (Q (false)))
def S_cell_Row_file_File_Set (B : RO) (p1 : Option Addr) (i2 : Int) (b3 : Bool) (s4 : ByteArray) (i5 : Int) (h : Heap) (Q : Bool → Heap → Prop) : Prop :=
 ∀ k7 : Nat, h k7 = none → B k7 = none → ∀ h8 : Heap, h8 = Heap.set h k7 (.vec 111 (plains [(.bool b3), (.string s4)]) 2) →
 C_cell_Row_file_File_is B p1 (i2) h8 (fun b10 h9 =>
 (b10 = true →
 ∃ A11 : Addr, p1 = some A11 ∧
 ∃ a13 : Option Addr, ∃ n14 : Nat, ∃ c15 : Nat, cellH B h9 A11 = some (.slice a13 n14 c15) ∧
 ∃ b16 : Bool, ∃ s17 : ByteArray, CellsAt B h9 ⟨k7, 0, none⟩ 0 [(.bool b16), (.string s17)] ∧
 ∃ A18 : Addr, a13 = some A18 ∧ 0 ≤ (i2 : Int) ∧ (i2 : Int) < (n14 : Nat) ∧
 ∃ h20 : Heap, StoresAt (Addr.add A18 (Int.toNat (i2) * 3)) h9 0 [(.bool b16), (.string s17), (.int .i64 (i5))] h20 ∧
 Fin B h20 (Q (true))) ∧ (b10 = false →
 Fin B h9 (Q (false))))
def S_wafer_foots (B : RO) (i1 : Int) (h : Heap) (Q : ByteArray → Heap → Prop) : Prop :=
 ¬ ((8 : Int) < 0) ∧
 ¬ ((16 : Int) < 0) ∧
 ¬ ((24 : Int) < 0) ∧
 ∀ k3 : Nat, h k3 = none → B k3 = none → ∀ h4 : Heap, h4 = Heap.set h k3 (.vec 5 (plains [(.int .u8 (IntKind.wrap .u8 (i1))), (.int .u8 (IntKind.wrap .u8 (Int.fdiv (i1) (2 ^ (min (Int.toNat (8)) (IntKind.bits .u32)))))), (.int .u8 (IntKind.wrap .u8 (Int.fdiv (i1) (2 ^ (min (Int.toNat (16)) (IntKind.bits .u32)))))), (.int .u8 (IntKind.wrap .u8 (Int.fdiv (i1) (2 ^ (min (Int.toNat (24)) (IntKind.bits .u32))))))]) 4) →
 semH PG B (convert 63 9 (.slice (some ⟨k3, 0, none⟩) 4 4)) h4 (fun v h6 => ∃ s5 : ByteArray, v = (.string s5) ∧
 Fin B h6 (Q s5))
def S_wafer_Sum (B : RO) (s1 : ByteArray) (h : Heap) (Q : Int → Heap → Prop) : Prop :=
 ∃ (J9 : Int → Int → Nat → Heap → Prop) (m7 : Nat), Fin B h (J9 (4294967295) (0) m7) ∧
 ∀ (i3 : Int) (i4 : Int) (m6 : Nat) (h5 : Heap), J9 i3 i4 m6 h5 →
 ((i4 : Int) < ((ByteArray.size s1 : Nat)) →
 0 ≤ (i4 : Int) ∧ (i4 : Int) < (ByteArray.size s1 : Nat) ∧
 ∃ (J16 : Int → Int → Nat → Heap → Prop) (m14 : Nat), Fin B h5 (J16 (IntKind.wrap .u32 ((BitVec.ofInt (IntKind.bits .u32) (i3) ^^^ BitVec.ofInt (IntKind.bits .u32) (IntKind.wrap .u32 (byteAt s1 (Int.toNat (i4))))).toNat : Int)) (0) m14) ∧
 ∀ (i10 : Int) (i11 : Int) (m13 : Nat) (h12 : Heap), J16 i10 i11 m13 h12 →
 ((i11 : Int) < (8) →
 ¬ ((1 : Int) < 0) ∧
 Fin B h12 (fun h' => ∃ m', m' < m13 ∧ J16 (IntKind.wrap .u32 ((BitVec.ofInt (IntKind.bits .u32) (Int.fdiv (i10) (2 ^ (min (Int.toNat (1)) (IntKind.bits .u32)))) ^^^ BitVec.ofInt (IntKind.bits .u32) (IntKind.wrap .u32 ((BitVec.ofInt (IntKind.bits .u32) (2197175160) &&& BitVec.ofInt (IntKind.bits .u32) (IntKind.wrap .u32 (0 - (IntKind.wrap .u32 ((BitVec.ofInt (IntKind.bits .u32) (i10) &&& BitVec.ofInt (IntKind.bits .u32) (1)).toNat : Int))))).toNat : Int))).toNat : Int)) (IntKind.wrap .i64 ((i11) + (1))) m' h')) ∧ (¬ ((i11 : Int) < (8)) →
 Fin B h12 (fun h' => ∃ m', m' < m6 ∧ J9 (i10) (IntKind.wrap .i64 ((i4) + (1))) m' h'))) ∧ (¬ ((i4 : Int) < ((ByteArray.size s1 : Nat))) →
 Fin B h5 (Q (IntKind.wrap .u32 (((BitVec.ofInt (IntKind.bits .u32) (if IntKind.signed .u32 then (-1 : Int) else IntKind.max .u32) ^^^ BitVec.ofInt (IntKind.bits .u32) (i3)).toNat : Int)))))
def S_tome_Tome_All_1 (B : RO) (v1 : Value) (A2 : Addr) (h : Heap) (Q : Heap → Prop) : Prop :=
 isOne v1 = true ∧
 ∀ k3 : Nat, h k3 = none → B k3 = none → ∀ h4 : Heap, h4 = Heap.set h k3 (.vec 200 [.plain v1] 1) →
 ∃ p5 : Option Addr, cellH B h4 A2 = some (.pointer p5) ∧
 (p5 = none →
 Fin B h4 (Q)) ∧ (¬ (p5 = none) →
 ∃ p7 : Option Addr, cellH B h4 A2 = some (.pointer p7) ∧
 ∃ A8 : Addr, p7 = some A8 ∧
 ∃ p10 : Option Addr, cellH B h4 A8 = some (.pointer p10) ∧
 C_cell_Row_file_File_All B p10 h4 (fun v12 h11 =>
 ∃ (xs20 : List (Int × Bool × ByteArray)) (G16 : Heap → Prop) (J19 : Nat → Heap → Prop), Iter PG B v12 (xs20.map (fun x : Int × Bool × ByteArray => [(.int .i64 (x.1)), (.agg #[(.bool x.2.1), (.string x.2.2)])])) G16 ∧ Ins G16 ∧ (∀ i h, J19 i h → G16 h) ∧ Fin B h11 (J19 0) ∧
 (∀ (q18 : Nat) (h17 : Heap) (i13 : Int) (b14 : Bool) (s15 : ByteArray), xs20[q18]? = some (i13, b14, s15) → J19 q18 h17 →
 ∀ k21 : Nat, h17 k21 = none → B k21 = none → ∀ h22 : Heap, h22 = Heap.set h17 k21 (.vec 111 (plains [(.bool false), (.string ByteArray.empty)]) 2) →
 ∃ h23 : Heap, StoresAt ⟨k21, 0, none⟩ h22 0 [(.bool b14), (.string s15)] h23 ∧
 ∃ b24 : Bool, cellH B h23 ⟨k21, 0, none⟩ = some (.bool b24) ∧ (b24 = true →
 ∃ v25 : Value, cellH B h23 ⟨k3, 0, none⟩ = some v25 ∧
 ∃ b26 : Bool, ∃ s27 : ByteArray, CellsAt B h23 ⟨k21, 0, none⟩ 0 [(.bool b26), (.string s27)] ∧
 CallV PG B v25 [(.int .i64 (i13)), (.agg #[(.bool b26), (.string s27)])] h23 (fun v h28 => ∃ b29 : Bool, v = (.bool b29) ∧
 (b29 = true →
 Fin B h28 (J19 (q18 + 1))) ∧ (b29 = false →
 Fin B h28 (Q)))) ∧ (b24 = false →
 Fin B h23 (J19 (q18 + 1)))) ∧
 (∀ (h17 : Heap), J19 xs20.length h17 →
 Fin B h17 (Q))))
def S_cell_Row_file_File_All (B : RO) (p1 : Option Addr) (h : Heap) (Q : Value → Heap → Prop) : Prop :=
 ∀ k3 : Nat, h k3 = none → B k3 = none → ∀ h4 : Heap, h4 = Heap.set h k3 (.vec 162 [.plain (.pointer p1)] 1) →
 Fin B h4 (Q (Value.func (.func 107) #[] #[(.pointer (some ⟨k3, 0, none⟩))]))
def S_countermandref02_Close (B : RO) (s1 : ByteArray) (h : Heap) (Q : ByteArray → Heap → Prop) : Prop :=
 (((ByteArray.size s1 : Nat) : Int) > (1024) →
 Fin B h (Q (ByteArray.mk #[]))) ∧ (¬ (((ByteArray.size s1 : Nat) : Int) > (1024)) →
 ¬ ((256 : Int) = 0) ∧
 ¬ ((256 : Int) = 0) ∧
 ∀ k3 : Nat, h k3 = none → B k3 = none → ∀ h4 : Heap, h4 = Heap.set h k3 (.vec 5 (plains [(.int .u8 (IntKind.wrap .u8 (IntKind.wrap .i64 (Int.tdiv ((ByteArray.size s1 : Nat)) (256))))), (.int .u8 (IntKind.wrap .u8 (Int.tmod ((ByteArray.size s1 : Nat)) (256))))]) 2) →
 semH PG B (convert 63 9 (.slice (some ⟨k3, 0, none⟩) 2 2)) h4 (fun v h6 => ∃ s5 : ByteArray, v = (.string s5) ∧
 ByteArray.size s5 + ByteArray.size s1 ≤ 4611686018427387904 ∧
 C_countermandref02_Sum B (s5 ++ s1) h6 (fun i8 h7 =>
 ¬ ((256 : Int) = 0) ∧
 ¬ ((256 : Int) = 0) ∧
 ¬ ((256 : Int) = 0) ∧
 ¬ ((65536 : Int) = 0) ∧
 ¬ ((256 : Int) = 0) ∧
 ¬ ((16777216 : Int) = 0) ∧
 ∀ k9 : Nat, h7 k9 = none → B k9 = none → ∀ h10 : Heap, h10 = Heap.set h7 k9 (.vec 5 (plains [(.int .u8 (IntKind.wrap .u8 (Int.tmod (i8) (256)))), (.int .u8 (IntKind.wrap .u8 (Int.tmod (IntKind.wrap .u32 (Int.tdiv (i8) (256))) (256)))), (.int .u8 (IntKind.wrap .u8 (Int.tmod (IntKind.wrap .u32 (Int.tdiv (i8) (65536))) (256)))), (.int .u8 (IntKind.wrap .u8 (IntKind.wrap .u32 (Int.tdiv (i8) (16777216)))))]) 4) →
 semH PG B (convert 63 9 (.slice (some ⟨k9, 0, none⟩) 4 4)) h10 (fun v h12 => ∃ s11 : ByteArray, v = (.string s11) ∧
 ByteArray.size (s5 ++ s1) + ByteArray.size s11 ≤ 4611686018427387904 ∧
 Fin B h12 (Q ((s5 ++ s1) ++ s11))))))
def S_wafer_All_1 (B : RO) (v1 : Value) (A2 : Addr) (h : Heap) (Q : Heap → Prop) : Prop :=
 ∃ s3 : ByteArray, cellH B h A2 = some (.string s3) ∧
 ∃ (J9 : ByteArray → Nat → Heap → Prop) (m7 : Nat), Fin B h (J9 s3 m7) ∧
 ∀ (s4 : ByteArray) (m6 : Nat) (h5 : Heap), J9 s4 m6 h5 →
 C_wafer_Open B s4 h5 (fun s11 i12 h10 =>
 ((i12 : Int) = 0 →
 Fin B h10 (Q)) ∧ (¬ ((i12 : Int) = 0) →
 CallV PG B v1 [(.string s11)] h10 (fun v h13 => ∃ b14 : Bool, v = (.bool b14) ∧
 (b14 = true →
 0 ≤ (i12 : Int) ∧ (i12 : Int) ≤ ((ByteArray.size s4 : Nat) : Int) ∧ ((ByteArray.size s4 : Nat) : Int) ≤ (ByteArray.size s4 : Nat) ∧
 Fin B h13 (fun h' => ∃ m', m' < m6 ∧ J9 (ByteArray.extract s4 (Int.toNat (i12)) (Int.toNat ((ByteArray.size s4 : Nat)))) m' h')) ∧ (b14 = false →
 Fin B h13 (Q)))))
def S_wafer_Open_J1 (B : RO) (s1 : ByteArray) (h5 : Heap) (Q : ByteArray → Int → Heap → Prop) : Prop :=
 0 ≤ (0 : Int) ∧ (0 : Int) ≤ (IntKind.wrap .i64 ((2) + (IntKind.wrap .i64 ((BitVec.ofInt (IntKind.bits .i64) (IntKind.wrap .i64 ((IntKind.wrap .i64 (byteAt s1 (Int.toNat (0)))) * 2 ^ (min (Int.toNat (8)) (IntKind.bits .i64)))) ||| BitVec.ofInt (IntKind.bits .i64) (IntKind.wrap .i64 (byteAt s1 (Int.toNat (1))))).toNat : Int))) : Int) ∧ (IntKind.wrap .i64 ((2) + (IntKind.wrap .i64 ((BitVec.ofInt (IntKind.bits .i64) (IntKind.wrap .i64 ((IntKind.wrap .i64 (byteAt s1 (Int.toNat (0)))) * 2 ^ (min (Int.toNat (8)) (IntKind.bits .i64)))) ||| BitVec.ofInt (IntKind.bits .i64) (IntKind.wrap .i64 (byteAt s1 (Int.toNat (1))))).toNat : Int))) : Int) ≤ (ByteArray.size s1 : Nat) ∧
 0 ≤ (IntKind.wrap .i64 ((2) + (IntKind.wrap .i64 ((BitVec.ofInt (IntKind.bits .i64) (IntKind.wrap .i64 ((IntKind.wrap .i64 (byteAt s1 (Int.toNat (0)))) * 2 ^ (min (Int.toNat (8)) (IntKind.bits .i64)))) ||| BitVec.ofInt (IntKind.bits .i64) (IntKind.wrap .i64 (byteAt s1 (Int.toNat (1))))).toNat : Int))) : Int) ∧ (IntKind.wrap .i64 ((2) + (IntKind.wrap .i64 ((BitVec.ofInt (IntKind.bits .i64) (IntKind.wrap .i64 ((IntKind.wrap .i64 (byteAt s1 (Int.toNat (0)))) * 2 ^ (min (Int.toNat (8)) (IntKind.bits .i64)))) ||| BitVec.ofInt (IntKind.bits .i64) (IntKind.wrap .i64 (byteAt s1 (Int.toNat (1))))).toNat : Int))) : Int) ≤ (IntKind.wrap .i64 ((IntKind.wrap .i64 ((2) + (IntKind.wrap .i64 ((BitVec.ofInt (IntKind.bits .i64) (IntKind.wrap .i64 ((IntKind.wrap .i64 (byteAt s1 (Int.toNat (0)))) * 2 ^ (min (Int.toNat (8)) (IntKind.bits .i64)))) ||| BitVec.ofInt (IntKind.bits .i64) (IntKind.wrap .i64 (byteAt s1 (Int.toNat (1))))).toNat : Int)))) + (4)) : Int) ∧ (IntKind.wrap .i64 ((IntKind.wrap .i64 ((2) + (IntKind.wrap .i64 ((BitVec.ofInt (IntKind.bits .i64) (IntKind.wrap .i64 ((IntKind.wrap .i64 (byteAt s1 (Int.toNat (0)))) * 2 ^ (min (Int.toNat (8)) (IntKind.bits .i64)))) ||| BitVec.ofInt (IntKind.bits .i64) (IntKind.wrap .i64 (byteAt s1 (Int.toNat (1))))).toNat : Int)))) + (4)) : Int) ≤ (ByteArray.size s1 : Nat) ∧
 C_wafer_Sum B (ByteArray.extract s1 (Int.toNat (0)) (Int.toNat (IntKind.wrap .i64 ((2) + (IntKind.wrap .i64 ((BitVec.ofInt (IntKind.bits .i64) (IntKind.wrap .i64 ((IntKind.wrap .i64 (byteAt s1 (Int.toNat (0)))) * 2 ^ (min (Int.toNat (8)) (IntKind.bits .i64)))) ||| BitVec.ofInt (IntKind.bits .i64) (IntKind.wrap .i64 (byteAt s1 (Int.toNat (1))))).toNat : Int)))))) h5 (fun i22 h21 =>
 C_wafer_foots B (i22) h21 (fun s24 h23 =>
 (s24 = (ByteArray.extract s1 (Int.toNat (IntKind.wrap .i64 ((2) + (IntKind.wrap .i64 ((BitVec.ofInt (IntKind.bits .i64) (IntKind.wrap .i64 ((IntKind.wrap .i64 (byteAt s1 (Int.toNat (0)))) * 2 ^ (min (Int.toNat (8)) (IntKind.bits .i64)))) ||| BitVec.ofInt (IntKind.bits .i64) (IntKind.wrap .i64 (byteAt s1 (Int.toNat (1))))).toNat : Int))))) (Int.toNat (IntKind.wrap .i64 ((IntKind.wrap .i64 ((2) + (IntKind.wrap .i64 ((BitVec.ofInt (IntKind.bits .i64) (IntKind.wrap .i64 ((IntKind.wrap .i64 (byteAt s1 (Int.toNat (0)))) * 2 ^ (min (Int.toNat (8)) (IntKind.bits .i64)))) ||| BitVec.ofInt (IntKind.bits .i64) (IntKind.wrap .i64 (byteAt s1 (Int.toNat (1))))).toNat : Int)))) + (4))))) →
 0 ≤ (2 : Int) ∧ (2 : Int) ≤ (IntKind.wrap .i64 ((2) + (IntKind.wrap .i64 ((BitVec.ofInt (IntKind.bits .i64) (IntKind.wrap .i64 ((IntKind.wrap .i64 (byteAt s1 (Int.toNat (0)))) * 2 ^ (min (Int.toNat (8)) (IntKind.bits .i64)))) ||| BitVec.ofInt (IntKind.bits .i64) (IntKind.wrap .i64 (byteAt s1 (Int.toNat (1))))).toNat : Int))) : Int) ∧ (IntKind.wrap .i64 ((2) + (IntKind.wrap .i64 ((BitVec.ofInt (IntKind.bits .i64) (IntKind.wrap .i64 ((IntKind.wrap .i64 (byteAt s1 (Int.toNat (0)))) * 2 ^ (min (Int.toNat (8)) (IntKind.bits .i64)))) ||| BitVec.ofInt (IntKind.bits .i64) (IntKind.wrap .i64 (byteAt s1 (Int.toNat (1))))).toNat : Int))) : Int) ≤ (ByteArray.size s1 : Nat) ∧
 Fin B h23 (Q (ByteArray.extract s1 (Int.toNat (2)) (Int.toNat (IntKind.wrap .i64 ((2) + (IntKind.wrap .i64 ((BitVec.ofInt (IntKind.bits .i64) (IntKind.wrap .i64 ((IntKind.wrap .i64 (byteAt s1 (Int.toNat (0)))) * 2 ^ (min (Int.toNat (8)) (IntKind.bits .i64)))) ||| BitVec.ofInt (IntKind.bits .i64) (IntKind.wrap .i64 (byteAt s1 (Int.toNat (1))))).toNat : Int)))))) (IntKind.wrap .i64 ((IntKind.wrap .i64 ((2) + (IntKind.wrap .i64 ((BitVec.ofInt (IntKind.bits .i64) (IntKind.wrap .i64 ((IntKind.wrap .i64 (byteAt s1 (Int.toNat (0)))) * 2 ^ (min (Int.toNat (8)) (IntKind.bits .i64)))) ||| BitVec.ofInt (IntKind.bits .i64) (IntKind.wrap .i64 (byteAt s1 (Int.toNat (1))))).toNat : Int)))) + (4))))) ∧ (¬ (s24 = (ByteArray.extract s1 (Int.toNat (IntKind.wrap .i64 ((2) + (IntKind.wrap .i64 ((BitVec.ofInt (IntKind.bits .i64) (IntKind.wrap .i64 ((IntKind.wrap .i64 (byteAt s1 (Int.toNat (0)))) * 2 ^ (min (Int.toNat (8)) (IntKind.bits .i64)))) ||| BitVec.ofInt (IntKind.bits .i64) (IntKind.wrap .i64 (byteAt s1 (Int.toNat (1))))).toNat : Int))))) (Int.toNat (IntKind.wrap .i64 ((IntKind.wrap .i64 ((2) + (IntKind.wrap .i64 ((BitVec.ofInt (IntKind.bits .i64) (IntKind.wrap .i64 ((IntKind.wrap .i64 (byteAt s1 (Int.toNat (0)))) * 2 ^ (min (Int.toNat (8)) (IntKind.bits .i64)))) ||| BitVec.ofInt (IntKind.bits .i64) (IntKind.wrap .i64 (byteAt s1 (Int.toNat (1))))).toNat : Int)))) + (4)))))) →
 Fin B h23 (Q (ByteArray.mk #[]) (0)))))
def S_wafer_Open (B : RO) (s1 : ByteArray) (h : Heap) (Q : ByteArray → Int → Heap → Prop) : Prop :=
 (((ByteArray.size s1 : Nat) : Int) < (2) →
 Fin B h (Q (ByteArray.mk #[]) (0))) ∧ (¬ (((ByteArray.size s1 : Nat) : Int) < (2)) →
 0 ≤ (0 : Int) ∧ (0 : Int) < (ByteArray.size s1 : Nat) ∧
 ¬ ((8 : Int) < 0) ∧
 0 ≤ (1 : Int) ∧ (1 : Int) < (ByteArray.size s1 : Nat) ∧
 ((IntKind.wrap .i64 ((BitVec.ofInt (IntKind.bits .i64) (IntKind.wrap .i64 ((IntKind.wrap .i64 (byteAt s1 (Int.toNat (0)))) * 2 ^ (min (Int.toNat (8)) (IntKind.bits .i64)))) ||| BitVec.ofInt (IntKind.bits .i64) (IntKind.wrap .i64 (byteAt s1 (Int.toNat (1))))).toNat : Int) : Int) > (1024) →
 Fin B h (Q (ByteArray.mk #[]) (0))) ∧ (¬ ((IntKind.wrap .i64 ((BitVec.ofInt (IntKind.bits .i64) (IntKind.wrap .i64 ((IntKind.wrap .i64 (byteAt s1 (Int.toNat (0)))) * 2 ^ (min (Int.toNat (8)) (IntKind.bits .i64)))) ||| BitVec.ofInt (IntKind.bits .i64) (IntKind.wrap .i64 (byteAt s1 (Int.toNat (1))))).toNat : Int) : Int) > (1024)) →
 (((ByteArray.size s1 : Nat) : Int) < (IntKind.wrap .i64 ((IntKind.wrap .i64 ((2) + (IntKind.wrap .i64 ((BitVec.ofInt (IntKind.bits .i64) (IntKind.wrap .i64 ((IntKind.wrap .i64 (byteAt s1 (Int.toNat (0)))) * 2 ^ (min (Int.toNat (8)) (IntKind.bits .i64)))) ||| BitVec.ofInt (IntKind.bits .i64) (IntKind.wrap .i64 (byteAt s1 (Int.toNat (1))))).toNat : Int)))) + (4))) →
 Fin B h (Q (ByteArray.mk #[]) (0))) ∧ (¬ (((ByteArray.size s1 : Nat) : Int) < (IntKind.wrap .i64 ((IntKind.wrap .i64 ((2) + (IntKind.wrap .i64 ((BitVec.ofInt (IntKind.bits .i64) (IntKind.wrap .i64 ((IntKind.wrap .i64 (byteAt s1 (Int.toNat (0)))) * 2 ^ (min (Int.toNat (8)) (IntKind.bits .i64)))) ||| BitVec.ofInt (IntKind.bits .i64) (IntKind.wrap .i64 (byteAt s1 (Int.toNat (1))))).toNat : Int)))) + (4)))) →
 Fin B h (fun h' => S_wafer_Open_J1 B s1 h' Q))))
def S_cell_Row_file_File_All_1 (B : RO) (v1 : Value) (A2 : Addr) (h : Heap) (Q : Heap → Prop) : Prop :=
 ∃ p3 : Option Addr, cellH B h A2 = some (.pointer p3) ∧
 (p3 = none →
 Fin B h (Q)) ∧ (¬ (p3 = none) →
 ∃ p5 : Option Addr, cellH B h A2 = some (.pointer p5) ∧
 ∃ A6 : Addr, p5 = some A6 ∧
 LdSl B h A6 fun a8 n9 c10 h11 =>
 ∃ (J17 : Int → Nat → Heap → Prop) (m15 : Nat), Fin B h11 (J17 (0) m15) ∧
 ∀ (i12 : Int) (m14 : Nat) (h13 : Heap), J17 i12 m14 h13 →
 ((i12 : Int) < ((n9 : Nat)) →
 ∃ A18 : Addr, a8 = some A18 ∧ 0 ≤ (i12 : Int) ∧ (i12 : Int) < (n9 : Nat) ∧
 ∃ b20 : Bool, ∃ s21 : ByteArray, ∃ i22 : Int, CellsAt B h13 (Addr.add A18 (Int.toNat (i12) * 3)) 0 [(.bool b20), (.string s21), (.int .i64 (i22))] ∧
 ∀ k23 : Nat, h13 k23 = none → B k23 = none → ∀ h24 : Heap, h24 = Heap.set h13 k23 (.vec 196 (plains [(.bool false), (.string ByteArray.empty), (.int .i64 (0))]) 3) →
 ∃ h25 : Heap, StoresAt ⟨k23, 0, none⟩ h24 0 [(.bool b20), (.string s21), (.int .i64 (i22))] h25 ∧
 ∃ b26 : Bool, ∃ s27 : ByteArray, CellsAt B h25 ⟨k23, 0, none⟩ 0 [(.bool b26), (.string s27)] ∧
 CallV PG B v1 [(.int .i64 (i12)), (.agg #[(.bool b26), (.string s27)])] h25 (fun v h28 => ∃ b29 : Bool, v = (.bool b29) ∧
 (b29 = true →
 Fin B h28 (fun h' => ∃ m', m' < m14 ∧ J17 (IntKind.wrap .i64 ((i12) + (1))) m' h')) ∧ (b29 = false →
 Fin B h28 (Q)))) ∧ (¬ ((i12 : Int) < ((n9 : Nat))) →
 Fin B h13 (Q)))
def S_countermandref02_Sum (B : RO) (s1 : ByteArray) (h : Heap) (Q : Int → Heap → Prop) : Prop :=
 ∃ (J9 : Int → Int → Nat → Heap → Prop) (m7 : Nat), Fin B h (J9 (4294967295) (0) m7) ∧
 ∀ (i3 : Int) (i4 : Int) (m6 : Nat) (h5 : Heap), J9 i3 i4 m6 h5 →
 ((i4 : Int) < ((ByteArray.size s1 : Nat)) →
 0 ≤ (i4 : Int) ∧ (i4 : Int) < (ByteArray.size s1 : Nat) ∧
 ∃ (J17 : Int → Int → Int → Nat → Heap → Prop) (m15 : Nat), Fin B h5 (J17 (i3) (byteAt s1 (Int.toNat (i4))) (0) m15) ∧
 ∀ (i10 : Int) (i11 : Int) (i12 : Int) (m14 : Nat) (h13 : Heap), J17 i10 i11 i12 m14 h13 →
 ((i12 : Int) < (8) →
 ¬ ((2 : Int) = 0) ∧
 ¬ ((2 : Int) = 0) ∧
 (((Int.tmod (i10) (2) : Int) == (1)) = ((Int.tmod (i11) (2) : Int) == (1)) →
 ¬ ((2 : Int) = 0) ∧
 ¬ ((2 : Int) = 0) ∧
 Fin B h13 (fun h' => ∃ m', m' < m14 ∧ J17 (IntKind.wrap .u32 (Int.tdiv (i10) (2))) (IntKind.wrap .u8 (Int.tdiv (i11) (2))) (IntKind.wrap .i64 ((i12) + (1))) m' h')) ∧ (¬ (((Int.tmod (i10) (2) : Int) == (1)) = ((Int.tmod (i11) (2) : Int) == (1))) →
 ¬ ((2 : Int) = 0) ∧
 ¬ ((2 : Int) = 0) ∧
 Fin B h13 (fun h' => ∃ m', m' < m14 ∧ J17 (IntKind.wrap .u32 ((BitVec.ofInt (IntKind.bits .u32) (IntKind.wrap .u32 (Int.tdiv (i10) (2))) ^^^ BitVec.ofInt (IntKind.bits .u32) (2197175160)).toNat : Int)) (IntKind.wrap .u8 (Int.tdiv (i11) (2))) (IntKind.wrap .i64 ((i12) + (1))) m' h'))) ∧ (¬ ((i12 : Int) < (8)) →
 Fin B h13 (fun h' => ∃ m', m' < m6 ∧ J9 (i10) (IntKind.wrap .i64 ((i4) + (1))) m' h'))) ∧ (¬ ((i4 : Int) < ((ByteArray.size s1 : Nat))) →
 Fin B h5 (Q (IntKind.wrap .u32 ((4294967295) - (i3)))))
end Go.Proofs.Ytlehephbflgblaa.H
