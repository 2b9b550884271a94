/- What the law's proof stands on, part 3. No condition. -/
import Derived.Test.YtlehephbflgblaaGreatProg
import Derived.KernelRfl
import Derived.Test.YtlehephbflgblaaGreatG2
namespace Go.Proofs.YtlehephbflgblaaGreat.H
open Go
set_option linter.unusedVariables false
set_option maxRecDepth 100000
set_option maxHeartbeats 4000000
noncomputable abbrev PG : Program := Go.Proofs.Tryz.prog
abbrev TY.int : TypeId := 3
abbrev TY.bool : TypeId := 4
abbrev TY.uint8 : TypeId := 5
abbrev TY.string : TypeId := 9
abbrev TY.s_s_redo_Change : TypeId := 22
abbrev TY.s_redo_Change : TypeId := 23
abbrev TY.countermandref09_File : TypeId := 32
abbrev TY.a_6_countermandref09_File : TypeId := 33
abbrev TY.p_draft_Draft_file_File : TypeId := 34
abbrev TY.s_countermandref18_Change : TypeId := 35
abbrev TY.p_tome_Tome : TypeId := 44
abbrev TY.attempt_View : TypeId := 47
abbrev TY.acts_Open : TypeId := 59
abbrev TY.a_4_int : TypeId := 60
abbrev TY.s_disk_change : TypeId := 65
abbrev TY.disk_Disk : TypeId := 67
abbrev TY.s_string : TypeId := 69
abbrev TY.vault_Found : TypeId := 71
abbrev TY.world_World : TypeId := 86
abbrev TY.s_draft_entry_file_File : TypeId := 87
abbrev TY.draft_Draft_file_File : TypeId := 89
abbrev TY.file_File : TypeId := 90
abbrev TY.redo_Change : TypeId := 92
abbrev TY.countermandref18_Change : TypeId := 99
abbrev TY.p_stylus_Stylus : TypeId := 103
abbrev TY.s_uint8 : TypeId := 104
abbrev TY.stylus_Stylus : TypeId := 106
abbrev TY.disk_change : TypeId := 112
abbrev TY.p_wal_Log : TypeId := 118
abbrev TY.vault_Vault : TypeId := 120
abbrev TY.wire_Wire : TypeId := 135
abbrev TY.token_Token : TypeId := 137
abbrev TY.draft_entry_file_File : TypeId := 141
abbrev TY.stylus_Reader : TypeId := 144
abbrev TY.p_cell_Row_file_File : TypeId := 149
abbrev TY.tome_Tome : TypeId := 151
abbrev TY.wal_Log : TypeId := 154
abbrev TY.s_cell_slot_int : TypeId := 164
abbrev TY.cell_Row_int : TypeId := 166
abbrev TY.cell_slot_int : TypeId := 168
abbrev TY.feed_Feed : TypeId := 171
abbrev TY.cell_slot_file_File : TypeId := 177
abbrev TY.s_cell_slot_file_File : TypeId := 178
abbrev TY.cell_Row_file_File : TypeId := 180
abbrev TY.world_Note : TypeId := 207
theorem TF.agg_103 : aggB PG 103 = some false := by kernel_rfl
theorem TF.agg_104 : aggB PG 104 = some false := by kernel_rfl
theorem TF.agg_112 : aggB PG 112 = some true := by kernel_rfl
theorem TF.agg_118 : aggB PG 118 = some false := by kernel_rfl
theorem TF.agg_141 : aggB PG 141 = some true := by kernel_rfl
theorem TF.agg_149 : aggB PG 149 = some false := by kernel_rfl
theorem TF.agg_164 : aggB PG 164 = some false := by kernel_rfl
theorem TF.agg_177 : aggB PG 177 = some true := by kernel_rfl
theorem TF.agg_178 : aggB PG 178 = some false := by kernel_rfl
theorem TF.agg_182 : aggB PG 182 = some false := by kernel_rfl
theorem TF.agg_23 : aggB PG 23 = some false := by kernel_rfl
theorem TF.agg_25 : aggB PG 25 = some false := by kernel_rfl
theorem TF.agg_3 : aggB PG 3 = some false := by kernel_rfl
theorem TF.agg_32 : aggB PG 32 = some true := by kernel_rfl
theorem TF.agg_33 : aggB PG 33 = some true := by kernel_rfl
theorem TF.agg_34 : aggB PG 34 = some false := by kernel_rfl
theorem TF.agg_35 : aggB PG 35 = some false := by kernel_rfl
theorem TF.agg_4 : aggB PG 4 = some false := by kernel_rfl
theorem TF.agg_44 : aggB PG 44 = some false := by kernel_rfl
theorem TF.agg_48 : aggB PG 48 = some false := by kernel_rfl
theorem TF.agg_59 : aggB PG 59 = some true := by kernel_rfl
theorem TF.agg_60 : aggB PG 60 = some true := by kernel_rfl
theorem TF.agg_65 : aggB PG 65 = some false := by kernel_rfl
theorem TF.agg_68 : aggB PG 68 = some false := by kernel_rfl
theorem TF.agg_69 : aggB PG 69 = some false := by kernel_rfl
theorem TF.agg_71 : aggB PG 71 = some true := by kernel_rfl
theorem TF.agg_87 : aggB PG 87 = some false := by kernel_rfl
theorem TF.agg_9 : aggB PG 9 = some false := by kernel_rfl
theorem TF.agg_90 : aggB PG 90 = some true := by kernel_rfl
theorem TF.agg_92 : aggB PG 92 = some true := by kernel_rfl
theorem TF.agg_94 : aggB PG 94 = some false := by kernel_rfl
theorem TF.agg_99 : aggB PG 99 = some true := by kernel_rfl
theorem TF.arr_33 : arrB PG 33 = some (6, 32, 2, true) := by kernel_rfl
theorem TF.arr_60 : arrB PG 60 = some (4, 3, 1, false) := by kernel_rfl
theorem TF.arr_64 : arrB PG 64 = some (2, 63, 2, true) := by kernel_rfl
theorem TF.eqg_32 : eqGB PG 32 = false := by kernel_rfl
theorem TF.flat_32 : flat6B PG 32 = some [.bool, .str] := by kernel_rfl
theorem TF.goes_10 : Goes PG 10 := ⟨Tryz.f10, Tryz.func10, by kernel_rfl, by kernel_rfl⟩
theorem TF.goes_11 : Goes PG 11 := ⟨Tryz.f11, Tryz.func11, by kernel_rfl, by kernel_rfl⟩
theorem TF.goes_12 : Goes PG 12 := ⟨Tryz.f12, Tryz.func12, by kernel_rfl, by kernel_rfl⟩
theorem TF.goes_13 : Goes PG 13 := ⟨Tryz.f13, Tryz.func13, by kernel_rfl, by kernel_rfl⟩
theorem TF.goes_14 : Goes PG 14 := ⟨Tryz.f14, Tryz.func14, by kernel_rfl, by kernel_rfl⟩
theorem TF.goes_15 : Goes PG 15 := ⟨Tryz.f15, Tryz.func15, by kernel_rfl, by kernel_rfl⟩
theorem TF.goes_16 : Goes PG 16 := ⟨Tryz.f16, Tryz.func16, by kernel_rfl, by kernel_rfl⟩
theorem TF.goes_17 : Goes PG 17 := ⟨Tryz.f17, Tryz.func17, by kernel_rfl, by kernel_rfl⟩
theorem TF.goes_18 : Goes PG 18 := ⟨Tryz.f18, Tryz.func18, by kernel_rfl, by kernel_rfl⟩
theorem TF.goes_19 : Goes PG 19 := ⟨Tryz.f19, Tryz.func19, by kernel_rfl, by kernel_rfl⟩
theorem TF.goes_20 : Goes PG 20 := ⟨Tryz.f20, Tryz.func20, by kernel_rfl, by kernel_rfl⟩
theorem TF.goes_21 : Goes PG 21 := ⟨Tryz.f21, Tryz.func21, by kernel_rfl, by kernel_rfl⟩
theorem TF.goes_22 : Goes PG 22 := ⟨Tryz.f22, Tryz.func22, by kernel_rfl, by kernel_rfl⟩
theorem TF.goes_23 : Goes PG 23 := ⟨Tryz.f23, Tryz.func23, by kernel_rfl, by kernel_rfl⟩
theorem TF.goes_24 : Goes PG 24 := ⟨Tryz.f24, Tryz.func24, by kernel_rfl, by kernel_rfl⟩
theorem TF.goes_25 : Goes PG 25 := ⟨Tryz.f25, Tryz.func25, by kernel_rfl, by kernel_rfl⟩
theorem TF.goes_26 : Goes PG 26 := ⟨Tryz.f26, Tryz.func26, by kernel_rfl, by kernel_rfl⟩
theorem TF.goes_27 : Goes PG 27 := ⟨Tryz.f27, Tryz.func27, by kernel_rfl, by kernel_rfl⟩
theorem TF.goes_28 : Goes PG 28 := ⟨Tryz.f28, Tryz.func28, by kernel_rfl, by kernel_rfl⟩
theorem TF.goes_29 : Goes PG 29 := ⟨Tryz.f29, Tryz.func29, by kernel_rfl, by kernel_rfl⟩
theorem TF.goes_30 : Goes PG 30 := ⟨Tryz.f30, Tryz.func30, by kernel_rfl, by kernel_rfl⟩
theorem TF.goes_31 : Goes PG 31 := ⟨Tryz.f31, Tryz.func31, by kernel_rfl, by kernel_rfl⟩
theorem TF.goes_32 : Goes PG 32 := ⟨Tryz.f32, Tryz.func32, by kernel_rfl, by kernel_rfl⟩
theorem TF.goes_33 : Goes PG 33 := ⟨Tryz.f33, Tryz.func33, by kernel_rfl, by kernel_rfl⟩
theorem TF.goes_34 : Goes PG 34 := ⟨Tryz.f34, Tryz.func34, by kernel_rfl, by kernel_rfl⟩
theorem TF.goes_35 : Goes PG 35 := ⟨Tryz.f35, Tryz.func35, by kernel_rfl, by kernel_rfl⟩
theorem TF.goes_36 : Goes PG 36 := ⟨Tryz.f36, Tryz.func36, by kernel_rfl, by kernel_rfl⟩
theorem TF.goes_37 : Goes PG 37 := ⟨Tryz.f37, Tryz.func37, by kernel_rfl, by kernel_rfl⟩
theorem TF.goes_38 : Goes PG 38 := ⟨Tryz.f38, Tryz.func38, by kernel_rfl, by kernel_rfl⟩
theorem TF.goes_39 : Goes PG 39 := ⟨Tryz.f39, Tryz.func39, by kernel_rfl, by kernel_rfl⟩
theorem TF.goes_4 : Goes PG 4 := ⟨Tryz.f4, Tryz.func4, by kernel_rfl, by kernel_rfl⟩
theorem TF.goes_40 : Goes PG 40 := ⟨Tryz.f40, Tryz.func40, by kernel_rfl, by kernel_rfl⟩
theorem TF.goes_41 : Goes PG 41 := ⟨Tryz.f41, Tryz.func41, by kernel_rfl, by kernel_rfl⟩
theorem TF.goes_42 : Goes PG 42 := ⟨Tryz.f42, Tryz.func42, by kernel_rfl, by kernel_rfl⟩
theorem TF.goes_43 : Goes PG 43 := ⟨Tryz.f43, Tryz.func43, by kernel_rfl, by kernel_rfl⟩
theorem TF.goes_44 : Goes PG 44 := ⟨Tryz.f44, Tryz.func44, by kernel_rfl, by kernel_rfl⟩
theorem TF.goes_45 : Goes PG 45 := ⟨Tryz.f45, Tryz.func45, by kernel_rfl, by kernel_rfl⟩
theorem TF.goes_46 : Goes PG 46 := ⟨Tryz.f46, Tryz.func46, by kernel_rfl, by kernel_rfl⟩
theorem TF.goes_47 : Goes PG 47 := ⟨Tryz.f47, Tryz.func47, by kernel_rfl, by kernel_rfl⟩
theorem TF.goes_48 : Goes PG 48 := ⟨Tryz.f48, Tryz.func48, by kernel_rfl, by kernel_rfl⟩
theorem TF.goes_49 : Goes PG 49 := ⟨Tryz.f49, Tryz.func49, by kernel_rfl, by kernel_rfl⟩
theorem TF.goes_5 : Goes PG 5 := ⟨Tryz.f5, Tryz.func5, by kernel_rfl, by kernel_rfl⟩
theorem TF.goes_50 : Goes PG 50 := ⟨Tryz.f50, Tryz.func50, by kernel_rfl, by kernel_rfl⟩
theorem TF.goes_51 : Goes PG 51 := ⟨Tryz.f51, Tryz.func51, by kernel_rfl, by kernel_rfl⟩
theorem TF.goes_52 : Goes PG 52 := ⟨Tryz.f52, Tryz.func52, by kernel_rfl, by kernel_rfl⟩
theorem TF.goes_53 : Goes PG 53 := ⟨Tryz.f53, Tryz.func53, by kernel_rfl, by kernel_rfl⟩
theorem TF.goes_54 : Goes PG 54 := ⟨Tryz.f54, Tryz.func54, by kernel_rfl, by kernel_rfl⟩
theorem TF.goes_55 : Goes PG 55 := ⟨Tryz.f55, Tryz.func55, by kernel_rfl, by kernel_rfl⟩
theorem TF.goes_56 : Goes PG 56 := ⟨Tryz.f56, Tryz.func56, by kernel_rfl, by kernel_rfl⟩
theorem TF.goes_57 : Goes PG 57 := ⟨Tryz.f57, Tryz.func57, by kernel_rfl, by kernel_rfl⟩
theorem TF.goes_58 : Goes PG 58 := ⟨Tryz.f58, Tryz.func58, by kernel_rfl, by kernel_rfl⟩
theorem TF.goes_59 : Goes PG 59 := ⟨Tryz.f59, Tryz.func59, by kernel_rfl, by kernel_rfl⟩
theorem TF.goes_6 : Goes PG 6 := ⟨Tryz.f6, Tryz.func6, by kernel_rfl, by kernel_rfl⟩
theorem TF.goes_60 : Goes PG 60 := ⟨Tryz.f60, Tryz.func60, by kernel_rfl, by kernel_rfl⟩
theorem TF.goes_61 : Goes PG 61 := ⟨Tryz.f61, Tryz.func61, by kernel_rfl, by kernel_rfl⟩
theorem TF.goes_62 : Goes PG 62 := ⟨Tryz.f62, Tryz.func62, by kernel_rfl, by kernel_rfl⟩
theorem TF.goes_63 : Goes PG 63 := ⟨Tryz.f63, Tryz.func63, by kernel_rfl, by kernel_rfl⟩
theorem TF.goes_64 : Goes PG 64 := ⟨Tryz.f64, Tryz.func64, by kernel_rfl, by kernel_rfl⟩
theorem TF.goes_65 : Goes PG 65 := ⟨Tryz.f65, Tryz.func65, by kernel_rfl, by kernel_rfl⟩
theorem TF.goes_66 : Goes PG 66 := ⟨Tryz.f66, Tryz.func66, by kernel_rfl, by kernel_rfl⟩
theorem TF.goes_67 : Goes PG 67 := ⟨Tryz.f67, Tryz.func67, by kernel_rfl, by kernel_rfl⟩
theorem TF.goes_68 : Goes PG 68 := ⟨Tryz.f68, Tryz.func68, by kernel_rfl, by kernel_rfl⟩
theorem TF.goes_69 : Goes PG 69 := ⟨Tryz.f69, Tryz.func69, by kernel_rfl, by kernel_rfl⟩
theorem TF.goes_7 : Goes PG 7 := ⟨Tryz.f7, Tryz.func7, by kernel_rfl, by kernel_rfl⟩
theorem TF.goes_70 : Goes PG 70 := ⟨Tryz.f70, Tryz.func70, by kernel_rfl, by kernel_rfl⟩
theorem TF.goes_71 : Goes PG 71 := ⟨Tryz.f71, Tryz.func71, by kernel_rfl, by kernel_rfl⟩
theorem TF.goes_72 : Goes PG 72 := ⟨Tryz.f72, Tryz.func72, by kernel_rfl, by kernel_rfl⟩
theorem TF.goes_73 : Goes PG 73 := ⟨Tryz.f73, Tryz.func73, by kernel_rfl, by kernel_rfl⟩
theorem TF.goes_74 : Goes PG 74 := ⟨Tryz.f74, Tryz.func74, by kernel_rfl, by kernel_rfl⟩
theorem TF.goes_75 : Goes PG 75 := ⟨Tryz.f75, Tryz.func75, by kernel_rfl, by kernel_rfl⟩
theorem TF.goes_76 : Goes PG 76 := ⟨Tryz.f76, Tryz.func76, by kernel_rfl, by kernel_rfl⟩
theorem TF.goes_77 : Goes PG 77 := ⟨Tryz.f77, Tryz.func77, by kernel_rfl, by kernel_rfl⟩
theorem TF.goes_78 : Goes PG 78 := ⟨Tryz.f78, Tryz.func78, by kernel_rfl, by kernel_rfl⟩
theorem TF.goes_79 : Goes PG 79 := ⟨Tryz.f79, Tryz.func79, by kernel_rfl, by kernel_rfl⟩
theorem TF.goes_8 : Goes PG 8 := ⟨Tryz.f8, Tryz.func8, by kernel_rfl, by kernel_rfl⟩
theorem TF.goes_80 : Goes PG 80 := ⟨Tryz.f80, Tryz.func80, by kernel_rfl, by kernel_rfl⟩
theorem TF.goes_82 : Goes PG 82 := ⟨Tryz.f82, Tryz.func82, by kernel_rfl, by kernel_rfl⟩
theorem TF.goes_83 : Goes PG 83 := ⟨Tryz.f83, Tryz.func83, by kernel_rfl, by kernel_rfl⟩
theorem TF.goes_84 : Goes PG 84 := ⟨Tryz.f84, Tryz.func84, by kernel_rfl, by kernel_rfl⟩
theorem TF.goes_85 : Goes PG 85 := ⟨Tryz.f85, Tryz.func85, by kernel_rfl, by kernel_rfl⟩
theorem TF.goes_86 : Goes PG 86 := ⟨Tryz.f86, Tryz.func86, by kernel_rfl, by kernel_rfl⟩
theorem TF.goes_87 : Goes PG 87 := ⟨Tryz.f87, Tryz.func87, by kernel_rfl, by kernel_rfl⟩
theorem TF.goes_88 : Goes PG 88 := ⟨Tryz.f88, Tryz.func88, by kernel_rfl, by kernel_rfl⟩
theorem TF.goes_89 : Goes PG 89 := ⟨Tryz.f89, Tryz.func89, by kernel_rfl, by kernel_rfl⟩
theorem TF.goes_9 : Goes PG 9 := ⟨Tryz.f9, Tryz.func9, by kernel_rfl, by kernel_rfl⟩
theorem TF.goes_91 : Goes PG 91 := ⟨Tryz.f91, Tryz.func91, by kernel_rfl, by kernel_rfl⟩
theorem TF.goes_92 : Goes PG 92 := ⟨Tryz.f92, Tryz.func92, by kernel_rfl, by kernel_rfl⟩
theorem TF.goes_93 : Goes PG 93 := ⟨Tryz.f93, Tryz.func93, by kernel_rfl, by kernel_rfl⟩
theorem TF.goesx_81 : GoesX PG 81 (Extern.SlicesOverlaps.overlaps #[87, 87] #[4]) := ⟨Tryz.f81, Tryz.func81, by kernel_rfl, by kernel_rfl, by kernel_rfl, by kernel_rfl⟩
theorem TF.int_145 : intB PG 145 = some .u64 := by kernel_rfl
theorem TF.int_148 : intB PG 148 = some .u64 := by kernel_rfl
theorem TF.int_184 : intB PG 184 = some .u32 := by kernel_rfl
theorem TF.int_3 : intB PG 3 = some .i64 := by kernel_rfl
theorem TF.int_5 : intB PG 5 = some .u8 := by kernel_rfl
theorem TF.isStr_9 : isStr PG 9 = true := by kernel_rfl
theorem TF.mixed : PG.follows .mixedOrders = true := by kernel_rfl
theorem TF.places_106 : strPlaces PG 106 = some [(0, 1)] := by kernel_rfl
theorem TF.places_112 : strPlaces PG 112 = some [(0, 1), (1, 1), (2, 1)] := by kernel_rfl
theorem TF.places_120 : strPlaces PG 120 = some [(0, 1), (1, 1), (2, 1), (3, 1)] := by kernel_rfl
theorem TF.places_135 : strPlaces PG 135 = some [(0, 9)] := by kernel_rfl
theorem TF.places_137 : strPlaces PG 137 = some [(0, 1), (1, 1), (2, 1)] := by kernel_rfl
theorem TF.places_141 : strPlaces PG 141 = some [(0, 1), (1, 2)] := by kernel_rfl
theorem TF.places_144 : strPlaces PG 144 = some [(0, 1), (1, 1)] := by kernel_rfl
theorem TF.places_151 : strPlaces PG 151 = some [(0, 1)] := by kernel_rfl
theorem TF.places_154 : strPlaces PG 154 = some [(0, 1), (1, 1), (2, 1), (3, 1)] := by kernel_rfl
theorem TF.places_166 : strPlaces PG 166 = some [(0, 1)] := by kernel_rfl
theorem TF.places_168 : strPlaces PG 168 = some [(0, 1), (1, 1)] := by kernel_rfl
theorem TF.places_171 : strPlaces PG 171 = some [(0, 3), (3, 1)] := by kernel_rfl
theorem TF.places_177 : strPlaces PG 177 = some [(0, 2), (2, 1)] := by kernel_rfl
theorem TF.places_180 : strPlaces PG 180 = some [(0, 1)] := by kernel_rfl
theorem TF.places_47 : strPlaces PG 47 = some [(0, 1), (1, 1), (2, 1), (3, 1)] := by kernel_rfl
theorem TF.places_59 : strPlaces PG 59 = some [(0, 1), (1, 1)] := by kernel_rfl
theorem TF.places_67 : strPlaces PG 67 = some [(0, 4), (4, 1)] := by kernel_rfl
theorem TF.places_71 : strPlaces PG 71 = some [(0, 1), (1, 1)] := by kernel_rfl
theorem TF.places_86 : strPlaces PG 86 = some [(0, 1), (1, 1), (2, 1), (3, 1), (4, 1), (5, 4), (9, 1), (10, 1), (11, 1)] := by kernel_rfl
theorem TF.places_89 : strPlaces PG 89 = some [(0, 1)] := by kernel_rfl
theorem TF.places_90 : strPlaces PG 90 = some [(0, 1), (1, 1)] := by kernel_rfl
theorem TF.places_92 : strPlaces PG 92 = some [(0, 1), (1, 2)] := by kernel_rfl
theorem TF.places_99 : strPlaces PG 99 = some [(0, 1), (1, 2)] := by kernel_rfl
theorem TF.ptr_100 : ptrB PG 100 = true := by kernel_rfl
theorem TF.ptr_118 : ptrB PG 118 = true := by kernel_rfl
theorem TF.ptr_149 : ptrB PG 149 = true := by kernel_rfl
theorem TF.ptr_25 : ptrB PG 25 = true := by kernel_rfl
theorem TF.ptr_27 : ptrB PG 27 = true := by kernel_rfl
theorem TF.ptr_34 : ptrB PG 34 = true := by kernel_rfl
theorem TF.ptr_44 : ptrB PG 44 = true := by kernel_rfl
theorem TF.ptr_68 : ptrB PG 68 = true := by kernel_rfl
theorem TF.sl_117 : slT PG 117 = true := by kernel_rfl
theorem TF.sl_147 : slT PG 147 = true := by kernel_rfl
theorem TF.sl_178 : slT PG 178 = true := by kernel_rfl
theorem TF.sl_22 : slT PG 22 = true := by kernel_rfl
theorem TF.sl_23 : slT PG 23 = true := by kernel_rfl
theorem TF.sl_35 : slT PG 35 = true := by kernel_rfl
theorem TF.sl_65 : slT PG 65 = true := by kernel_rfl
theorem TF.sl_69 : slT PG 69 = true := by kernel_rfl
theorem TF.sl_87 : slT PG 87 = true := by kernel_rfl
theorem TF.slc_104 : slcB PG 104 = some (5, 1, 1) := by kernel_rfl
theorem TF.slc_117 : slcB PG 117 = some (59, 2, 16) := by kernel_rfl
theorem TF.slc_147 : slcB PG 147 = some (3, 1, 8) := by kernel_rfl
theorem TF.slc_164 : slcB PG 164 = some (168, 2, 16) := by kernel_rfl
theorem TF.slc_178 : slcB PG 178 = some (177, 3, 32) := by kernel_rfl
theorem TF.slc_22 : slcB PG 22 = some (23, 1, 24) := by kernel_rfl
theorem TF.slc_23 : slcB PG 23 = some (92, 3, 32) := by kernel_rfl
theorem TF.slc_35 : slcB PG 35 = some (99, 3, 32) := by kernel_rfl
theorem TF.slc_65 : slcB PG 65 = some (112, 3, 32) := by kernel_rfl
theorem TF.slc_69 : slcB PG 69 = some (9, 1, 16) := by kernel_rfl
theorem TF.slc_87 : slcB PG 87 = some (141, 3, 32) := by kernel_rfl
theorem TF.sz_103 : szB PG 103 = some 1 := by kernel_rfl
theorem TF.sz_104 : szB PG 104 = some 1 := by kernel_rfl
theorem TF.sz_112 : szB PG 112 = some 3 := by kernel_rfl
theorem TF.sz_118 : szB PG 118 = some 1 := by kernel_rfl
theorem TF.sz_141 : szB PG 141 = some 3 := by kernel_rfl
theorem TF.sz_164 : szB PG 164 = some 1 := by kernel_rfl
theorem TF.sz_177 : szB PG 177 = some 3 := by kernel_rfl
theorem TF.sz_178 : szB PG 178 = some 1 := by kernel_rfl
theorem TF.sz_3 : szB PG 3 = some 1 := by kernel_rfl
theorem TF.sz_32 : szB PG 32 = some 2 := by kernel_rfl
theorem TF.sz_33 : szB PG 33 = some 12 := by kernel_rfl
theorem TF.sz_35 : szB PG 35 = some 1 := by kernel_rfl
theorem TF.sz_4 : szB PG 4 = some 1 := by kernel_rfl
theorem TF.sz_44 : szB PG 44 = some 1 := by kernel_rfl
theorem TF.sz_59 : szB PG 59 = some 2 := by kernel_rfl
theorem TF.sz_60 : szB PG 60 = some 4 := by kernel_rfl
theorem TF.sz_65 : szB PG 65 = some 1 := by kernel_rfl
theorem TF.sz_69 : szB PG 69 = some 1 := by kernel_rfl
theorem TF.sz_71 : szB PG 71 = some 2 := by kernel_rfl
theorem TF.sz_87 : szB PG 87 = some 1 := by kernel_rfl
theorem TF.sz_9 : szB PG 9 = some 1 := by kernel_rfl
theorem TF.sz_90 : szB PG 90 = some 2 := by kernel_rfl
theorem TF.sz_92 : szB PG 92 = some 3 := by kernel_rfl
theorem TF.sz_99 : szB PG 99 = some 3 := by kernel_rfl
theorem TF.zero_103 : zeroB PG 103 = some [(Value.pointer none)] := by kernel_rfl
theorem TF.zero_106 : zeroB PG 106 = some [(Value.slice none 0 0)] := by kernel_rfl
theorem TF.zero_112 : zeroB PG 112 = some [(Value.int .i64 (0)), (Value.bool false), (Value.string ByteArray.empty)] := by kernel_rfl
theorem TF.zero_120 : zeroB PG 120 = some [(Value.pointer none), (Value.pointer none), (Value.int .i64 (0)), (Value.bool false)] := by kernel_rfl
theorem TF.zero_135 : zeroB PG 135 = some [(Value.string ByteArray.empty), (Value.string ByteArray.empty), (Value.string ByteArray.empty), (Value.string ByteArray.empty), (Value.string ByteArray.empty), (Value.string ByteArray.empty), (Value.string ByteArray.empty), (Value.string ByteArray.empty), (Value.string ByteArray.empty)] := by kernel_rfl
theorem TF.zero_137 : zeroB PG 137 = some [(Value.int .i64 (0)), (Value.bool false), (Value.int .i64 (0))] := by kernel_rfl
theorem TF.zero_141 : zeroB PG 141 = some [(Value.int .i64 (0)), (Value.bool false), (Value.string ByteArray.empty)] := by kernel_rfl
theorem TF.zero_144 : zeroB PG 144 = some [(Value.string ByteArray.empty), (Value.bool false)] := by kernel_rfl
theorem TF.zero_151 : zeroB PG 151 = some [(Value.pointer none)] := by kernel_rfl
theorem TF.zero_154 : zeroB PG 154 = some [(Value.pointer none), (Value.int .i64 (0)), (Value.int .i64 (0)), (Value.bool false)] := by kernel_rfl
theorem TF.zero_166 : zeroB PG 166 = some [(Value.slice none 0 0)] := by kernel_rfl
theorem TF.zero_168 : zeroB PG 168 = some [(Value.int .i64 (0)), (Value.int .i64 (0))] := by kernel_rfl
theorem TF.zero_171 : zeroB PG 171 = some [(Value.string ByteArray.empty), (Value.string ByteArray.empty), (Value.string ByteArray.empty), (Value.pointer none)] := by kernel_rfl
theorem TF.zero_177 : zeroB PG 177 = some [(Value.bool false), (Value.string ByteArray.empty), (Value.int .i64 (0))] := by kernel_rfl
theorem TF.zero_180 : zeroB PG 180 = some [(Value.slice none 0 0)] := by kernel_rfl
theorem TF.zero_3 : zeroB PG 3 = some [(Value.int .i64 (0))] := by kernel_rfl
theorem TF.zero_32 : zeroB PG 32 = some [(Value.bool false), (Value.string ByteArray.empty)] := by kernel_rfl
theorem TF.zero_33 : zeroB PG 33 = some [(Value.bool false), (Value.string ByteArray.empty), (Value.bool false), (Value.string ByteArray.empty), (Value.bool false), (Value.string ByteArray.empty), (Value.bool false), (Value.string ByteArray.empty), (Value.bool false), (Value.string ByteArray.empty), (Value.bool false), (Value.string ByteArray.empty)] := by kernel_rfl
theorem TF.zero_35 : zeroB PG 35 = some [(Value.slice none 0 0)] := by kernel_rfl
theorem TF.zero_47 : zeroB PG 47 = some [(Value.pointer none), (Value.pointer none), (Value.pointer none), (Value.int .i64 (0))] := by kernel_rfl
theorem TF.zero_5 : zeroB PG 5 = some [(Value.int .u8 (0))] := by kernel_rfl
theorem TF.zero_59 : zeroB PG 59 = some [(Value.int .i64 (0)), (Value.int .i64 (0))] := by kernel_rfl
theorem TF.zero_60 : zeroB PG 60 = some [(Value.int .i64 (0)), (Value.int .i64 (0)), (Value.int .i64 (0)), (Value.int .i64 (0))] := by kernel_rfl
theorem TF.zero_67 : zeroB PG 67 = some [(Value.string ByteArray.empty), (Value.string ByteArray.empty), (Value.string ByteArray.empty), (Value.string ByteArray.empty), (Value.slice none 0 0)] := by kernel_rfl
theorem TF.zero_71 : zeroB PG 71 = some [(Value.string ByteArray.empty), (Value.slice none 0 0)] := by kernel_rfl
theorem TF.zero_86 : zeroB PG 86 = some [(Value.pointer none), (Value.pointer none), (Value.pointer none), (Value.pointer none), (Value.pointer none), (Value.int .i64 (0)), (Value.int .i64 (0)), (Value.int .i64 (0)), (Value.int .i64 (0)), (Value.slice none 0 0), (Value.int .i64 (0)), (Value.int .i64 (0))] := by kernel_rfl
theorem TF.zero_89 : zeroB PG 89 = some [(Value.slice none 0 0)] := by kernel_rfl
theorem TF.zero_9 : zeroB PG 9 = some [(Value.string ByteArray.empty)] := by kernel_rfl
theorem TF.zero_90 : zeroB PG 90 = some [(Value.bool false), (Value.string ByteArray.empty)] := by kernel_rfl
theorem TF.zero_92 : zeroB PG 92 = some [(Value.int .i64 (0)), (Value.bool false), (Value.string ByteArray.empty)] := by kernel_rfl
theorem TF.zero_99 : zeroB PG 99 = some [(Value.int .i64 (0)), (Value.bool false), (Value.string ByteArray.empty)] := by kernel_rfl
def FT0 : FT := [(106, 0, 0), (112, 0, 0), (112, 1, 1), (112, 2, 2), (120, 0, 0), (120, 1, 1), (120, 2, 2), (120, 3, 3), (141, 0, 0), (141, 1, 1), (144, 0, 0), (144, 1, 1), (151, 0, 0), (154, 0, 0), (154, 1, 1), (154, 2, 2), (154, 3, 3), (166, 0, 0), (177, 0, 0), (177, 1, 2), (180, 0, 0), (47, 1, 1), (47, 3, 3), (59, 0, 0), (59, 1, 1), (63, 0, 0), (63, 1, 1), (67, 0, 0), (67, 1, 4), (71, 0, 0), (71, 1, 1), (86, 0, 0), (86, 4, 4), (86, 5, 5), (86, 7, 10), (86, 8, 11), (89, 0, 0), (90, 0, 0), (90, 1, 1), (92, 0, 0), (92, 1, 1), (99, 0, 0), (99, 1, 1)]
theorem FT0_ok : FTok PG FT0 := ftB_ok (by kernel_rfl)
theorem au {B : RO} {N : Nat} {e : Env} {h : Heap} {Φ : Lv → Env → Heap → Prop} (n : Nat) {t t' : List Item} {L L' : LE} (ha : aut FT0 N n t L = some (t', L')) (hr : Run PG B N t' (updL L' e) h Φ) : Run PG B N t (updL L e) h Φ := aut_run FT0_ok n ha hr
theorem auT {B : RO} {N : Nat} {k : List Item} {e : Env} {h : Heap} {Φ : Lv → Env → Heap → Prop} {ops : Array Oper} {C : Heap → Prop} {z : List Nat} (n : Nat) {t t' : Ord} {L L' : LE} (ha : autT FT0 N ops.toList n t L = some (t', L')) (hr : RunT PG B N ops k Φ C z t' (updL L' e) h) : RunT PG B N ops k Φ C z t (updL L e) h := autT_run FT0_ok n ha hr
abbrev FN.countermandlaw21_WorldRoom : FuncId := 4
abbrev FN.draft_Draft_file_File_All_1 : FuncId := 64
abbrev FN.draft_by_file_File : FuncId := 80
abbrev FN.wal_Log_All_1 : FuncId := 85
abbrev FN.tome_Tome_All_1 : FuncId := 88
abbrev FN.wafer_All_1 : FuncId := 91
abbrev FN.cell_Row_file_File_All_1 : FuncId := 93
theorem TG.countermandlaw21_WorldRoom : Goes PG FN.countermandlaw21_WorldRoom := TF.goes_4
theorem TG.draft_Draft_file_File_All_1 : Goes PG FN.draft_Draft_file_File_All_1 := TF.goes_64
theorem TG.draft_by_file_File : Goes PG FN.draft_by_file_File := TF.goes_80
theorem TG.wal_Log_All_1 : Goes PG FN.wal_Log_All_1 := TF.goes_85
theorem TG.tome_Tome_All_1 : Goes PG FN.tome_Tome_All_1 := TF.goes_88
theorem TG.wafer_All_1 : Goes PG FN.wafer_All_1 := TF.goes_91
theorem TG.cell_Row_file_File_All_1 : Goes PG FN.cell_Row_file_File_All_1 := TF.goes_93
def C_countermandlaw21_WorldRoom (B : RO) (a1 : Option Addr) (n2 : Nat) (c3 : Nat) (i4 : Int) (h : Heap) (Q : Bool → Heap → Prop) : Prop :=
  Spec PG B 4 #[(Value.slice a1 n2 c3), (Value.int .i64 (i4))] h (fun v h' => ∃ b5 : Bool, v = (Value.bool b5) ∧ Q b5 h')
def C_countermandlaw21_alive (B : RO) (h : Heap) (Q : Bool → Heap → Prop) : Prop :=
  Spec PG B 5 #[] h (fun v h' => ∃ b1 : Bool, v = (Value.bool b1) ∧ Q b1 h')
def C_disk_New (B : RO) (h : Heap) (Q : Option Addr → Heap → Prop) : Prop :=
  Spec PG B 6 #[] h (fun v h' => ∃ p1 : Option Addr, v = (Value.pointer p1) ∧ Q p1 h')
def C_world_Open (B : RO) (p1 : Option Addr) (h : Heap) (Q : Option Addr → Int → Heap → Prop) : Prop :=
  Spec PG B 7 #[(Value.pointer p1)] h (fun v h' => ∃ p2 : Option Addr, ∃ i3 : Int, v = Value.tuple #[(Value.pointer p2), (Value.int .i64 (i3))] ∧ Q p2 i3 h')
def C_countermandlaw21_drawn (B : RO) (a1 : Option Addr) (n2 : Nat) (c3 : Nat) (h : Heap) (Q : Option Addr → Option Addr → Nat → Nat → Bool → Heap → Prop) : Prop :=
  Spec PG B 8 #[(Value.slice a1 n2 c3)] h (fun v h' => ∃ p4 : Option Addr, ∃ a5 : Option Addr, ∃ n6 : Nat, ∃ c7 : Nat, ∃ b8 : Bool, v = Value.tuple #[(Value.pointer p4), (Value.slice a5 n6 c7), (Value.bool b8)] ∧ Q p4 a5 n6 c7 b8 h')
def C_world_World_Write (B : RO) (p1 : Option Addr) (p2 : Option Addr) (h : Heap) (Q : Int → Heap → Prop) : Prop :=
  Spec PG B 9 #[(Value.pointer p1), (Value.pointer p2)] h (fun v h' => ∃ i3 : Int, v = (Value.int .i64 (i3)) ∧ Q i3 h')
def C_world_World_Force (B : RO) (p1 : Option Addr) (h : Heap) (Q : Heap → Prop) : Prop :=
  Spec PG B 10 #[(Value.pointer p1)] h (fun v h' => v = Value.tuple #[] ∧ Q  h')
def C_redo_Read (B : RO) (s1 : ByteArray) (h : Heap) (Q : Int → Option Addr → Nat → Nat → Bool → Heap → Prop) : Prop :=
  Spec PG B 11 #[(Value.string s1)] h (fun v h' => ∃ i2 : Int, ∃ a3 : Option Addr, ∃ n4 : Nat, ∃ c5 : Nat, ∃ b6 : Bool, v = Value.tuple #[(Value.int .i64 (i2)), (Value.slice a3 n4 c5), (Value.bool b6)] ∧ Q i2 a3 n4 c5 b6 h')
def C_redo_Bytes (B : RO) (i1 : Int) (p2 : Option Addr) (h : Heap) (Q : ByteArray → Heap → Prop) : Prop :=
  Spec PG B 12 #[(Value.int .i64 (i1)), (Value.pointer p2)] h (fun v h' => ∃ s3 : ByteArray, v = (Value.string s3) ∧ Q s3 h')
def C_redo_Apply (B : RO) (p1 : Option Addr) (a2 : Option Addr) (n3 : Nat) (c4 : Nat) (i5 : Int) (h : Heap) (Q : Heap → Prop) : Prop :=
  Spec PG B 13 #[(Value.pointer p1), (Value.slice a2 n3 c4), (Value.int .i64 (i5))] h (fun v h' => v = Value.tuple #[] ∧ Q  h')
def C_world_World_View (B : RO) (p1 : Option Addr) (h : Heap) (Q : Option Addr → Heap → Prop) : Prop :=
  Spec PG B 14 #[(Value.pointer p1)] h (fun v h' => ∃ p2 : Option Addr, v = (Value.pointer p2) ∧ Q p2 h')
def C_world_World_Done (B : RO) (p1 : Option Addr) (h : Heap) (Q : Heap → Prop) : Prop :=
  Spec PG B 15 #[(Value.pointer p1)] h (fun v h' => v = Value.tuple #[] ∧ Q  h')
def C_countermandref18_Apply (B : RO) (l1 : List Value) (a2 : Option Addr) (n3 : Nat) (c4 : Nat) (h : Heap) (Q : List Value → Heap → Prop) : Prop :=
  Spec PG B 16 #[(Value.agg (List.toArray l1)), (Value.slice a2 n3 c4)] h (fun v h' => ∃ l5 : List Value, v = (Value.agg (List.toArray l5)) ∧ Q l5 h')
def C_disk_Disk_Crash (B : RO) (p1 : Option Addr) (i2 : Int) (i3 : Int) (h : Heap) (Q : Heap → Prop) : Prop :=
  Spec PG B 17 #[(Value.pointer p1), (Value.int .i64 (i2)), (Value.int .i64 (i3))] h (fun v h' => v = Value.tuple #[] ∧ Q  h')
def C_world_World_Blocks (B : RO) (p1 : Option Addr) (h : Heap) (Q : Int → Heap → Prop) : Prop :=
  Spec PG B 18 #[(Value.pointer p1)] h (fun v h' => ∃ i2 : Int, v = (Value.int .i64 (i2)) ∧ Q i2 h')
def C_countermandlaw21_are (B : RO) (p1 : Option Addr) (l2 : List Value) (h : Heap) (Q : Bool → Heap → Prop) : Prop :=
  Spec PG B 19 #[(Value.pointer p1), (Value.agg (List.toArray l2))] h (fun v h' => ∃ b3 : Bool, v = (Value.bool b3) ∧ Q b3 h')
def C_disk_Disk_Read (B : RO) (p1 : Option Addr) (i2 : Int) (h : Heap) (Q : ByteArray → Heap → Prop) : Prop :=
  Spec PG B 20 #[(Value.pointer p1), (Value.int .i64 (i2))] h (fun v h' => ∃ s3 : ByteArray, v = (Value.string s3) ∧ Q s3 h')
def C_world_World_Add (B : RO) (p1 : Option Addr) (a2 : Option Addr) (n3 : Nat) (c4 : Nat) (h : Heap) (Q : Heap → Prop) : Prop :=
  Spec PG B 21 #[(Value.pointer p1), (Value.slice a2 n3 c4)] h (fun v h' => v = Value.tuple #[] ∧ Q  h')
def C_world_World_Tallies (B : RO) (p1 : Option Addr) (h : Heap) (Q : Int → Int → Int → Int → Heap → Prop) : Prop :=
  Spec PG B 22 #[(Value.pointer p1)] h (fun v h' => ∃ i2 : Int, ∃ i3 : Int, ∃ i4 : Int, ∃ i5 : Int, v = (Value.agg #[(Value.int .i64 (i2)), (Value.int .i64 (i3)), (Value.int .i64 (i4)), (Value.int .i64 (i5))]) ∧ Q i2 i3 i4 i5 h')
def C_vault_Open (B : RO) (p1 : Option Addr) (h : Heap) (Q : Option Addr → ByteArray → Option Addr → Nat → Nat → Int → Heap → Prop) : Prop :=
  Spec PG B 23 #[(Value.pointer p1)] h (fun v h' => ∃ p2 : Option Addr, ∃ s3 : ByteArray, ∃ a4 : Option Addr, ∃ n5 : Nat, ∃ c6 : Nat, ∃ i7 : Int, v = Value.tuple #[(Value.pointer p2), (Value.agg #[(Value.string s3), (Value.slice a4 n5 c6)]), (Value.int .i64 (i7))] ∧ Q p2 s3 a4 n5 c6 i7 h')
def C_world_read (B : RO) (s1 : ByteArray) (h : Heap) (Q : Int → Option Addr → Bool → Heap → Prop) : Prop :=
  Spec PG B 24 #[(Value.string s1)] h (fun v h' => ∃ i2 : Int, ∃ p3 : Option Addr, ∃ b4 : Bool, v = Value.tuple #[(Value.int .i64 (i2)), (Value.pointer p3), (Value.bool b4)] ∧ Q i2 p3 b4 h')
def C_redo_Replay (B : RO) (p1 : Option Addr) (a2 : Option Addr) (n3 : Nat) (c4 : Nat) (h : Heap) (Q : Int → Int → Heap → Prop) : Prop :=
  Spec PG B 25 #[(Value.pointer p1), (Value.slice a2 n3 c4)] h (fun v h' => ∃ i5 : Int, ∃ i6 : Int, v = Value.tuple #[(Value.int .i64 (i5)), (Value.int .i64 (i6))] ∧ Q i5 i6 h')
def C_vault_Vault_Settle (B : RO) (p1 : Option Addr) (s2 : ByteArray) (h : Heap) (Q : Int → Heap → Prop) : Prop :=
  Spec PG B 26 #[(Value.pointer p1), (Value.string s2)] h (fun v h' => ∃ i3 : Int, v = (Value.int .i64 (i3)) ∧ Q i3 h')
def C_world_image (B : RO) (i1 : Int) (p2 : Option Addr) (h : Heap) (Q : ByteArray → Heap → Prop) : Prop :=
  Spec PG B 27 #[(Value.int .i64 (i1)), (Value.pointer p2)] h (fun v h' => ∃ s3 : ByteArray, v = (Value.string s3) ∧ Q s3 h')
def C_attempt_NewView (B : RO) (h : Heap) (Q : Option Addr → Heap → Prop) : Prop :=
  Spec PG B 28 #[] h (fun v h' => ∃ p1 : Option Addr, v = (Value.pointer p1) ∧ Q p1 h')
def C_wire_New (B : RO) (h : Heap) (Q : Option Addr → Heap → Prop) : Prop :=
  Spec PG B 29 #[] h (fun v h' => ∃ p1 : Option Addr, v = (Value.pointer p1) ∧ Q p1 h')
def C_token_New (B : RO) (h : Heap) (Q : Option Addr → Heap → Prop) : Prop :=
  Spec PG B 30 #[] h (fun v h' => ∃ p1 : Option Addr, v = (Value.pointer p1) ∧ Q p1 h')
def C_file_Good (B : RO) (b1 : Bool) (s2 : ByteArray) (h : Heap) (Q : Bool → Heap → Prop) : Prop :=
  Spec PG B 31 #[(Value.agg #[(Value.bool b1), (Value.string s2)])] h (fun v h' => ∃ b3 : Bool, v = (Value.bool b3) ∧ Q b3 h')
def C_draft_Draft_file_File_Put (B : RO) (p1 : Option Addr) (i2 : Int) (b3 : Bool) (s4 : ByteArray) (h : Heap) (Q : Bool → Heap → Prop) : Prop :=
  Spec PG B 32 #[(Value.pointer p1), (Value.int .i64 (i2)), (Value.agg #[(Value.bool b3), (Value.string s4)])] h (fun v h' => ∃ b5 : Bool, v = (Value.bool b5) ∧ Q b5 h')
def C_draft_Draft_file_File_All (B : RO) (p1 : Option Addr) (h : Heap) (Q : Value → Heap → Prop) : Prop :=
  Spec PG B 33 #[(Value.pointer p1)] h (fun v h' => ∃ v2 : Value, v = v2 ∧ Q v2 h')
def C_vault_Vault_Size (B : RO) (p1 : Option Addr) (h : Heap) (Q : Int → Heap → Prop) : Prop :=
  Spec PG B 34 #[(Value.pointer p1)] h (fun v h' => ∃ i2 : Int, v = (Value.int .i64 (i2)) ∧ Q i2 h')
def C_vault_Vault_Append (B : RO) (p1 : Option Addr) (s2 : ByteArray) (h : Heap) (Q : Int → Heap → Prop) : Prop :=
  Spec PG B 35 #[(Value.pointer p1), (Value.string s2)] h (fun v h' => ∃ i3 : Int, v = (Value.int .i64 (i3)) ∧ Q i3 h')
def C_vault_Vault_Force (B : RO) (p1 : Option Addr) (h : Heap) (Q : Heap → Prop) : Prop :=
  Spec PG B 36 #[(Value.pointer p1)] h (fun v h' => v = Value.tuple #[] ∧ Q  h')
def C_stylus_Of (B : RO) (s1 : ByteArray) (h : Heap) (Q : Option Addr → Heap → Prop) : Prop :=
  Spec PG B 37 #[(Value.string s1)] h (fun v h' => ∃ p2 : Option Addr, v = (Value.pointer p2) ∧ Q p2 h')
def C_stylus_Reader_Nat (B : RO) (p1 : Option Addr) (i2 : Int) (h : Heap) (Q : Int → Heap → Prop) : Prop :=
  Spec PG B 38 #[(Value.pointer p1), (Value.int .i64 (i2))] h (fun v h' => ∃ i3 : Int, v = (Value.int .i64 (i3)) ∧ Q i3 h')
def C_stylus_Reader_Left (B : RO) (p1 : Option Addr) (h : Heap) (Q : Int → Heap → Prop) : Prop :=
  Spec PG B 39 #[(Value.pointer p1)] h (fun v h' => ∃ i2 : Int, v = (Value.int .i64 (i2)) ∧ Q i2 h')
def C_stylus_Reader_Text (B : RO) (p1 : Option Addr) (i2 : Int) (h : Heap) (Q : ByteArray → Heap → Prop) : Prop :=
  Spec PG B 40 #[(Value.pointer p1), (Value.int .i64 (i2))] h (fun v h' => ∃ s3 : ByteArray, v = (Value.string s3) ∧ Q s3 h')
def C_stylus_Reader_Bad (B : RO) (p1 : Option Addr) (h : Heap) (Q : Bool → Heap → Prop) : Prop :=
  Spec PG B 41 #[(Value.pointer p1)] h (fun v h' => ∃ b2 : Bool, v = (Value.bool b2) ∧ Q b2 h')
def C_stylus_Stylus_Nat (B : RO) (p1 : Option Addr) (a2 : Option Addr) (n3 : Nat) (c4 : Nat) (h : Heap) (Q : Heap → Prop) : Prop :=
  Spec PG B 42 #[(Value.pointer p1), (Value.slice a2 n3 c4)] h (fun v h' => v = Value.tuple #[] ∧ Q  h')
def C_stylus_Stylus_Text (B : RO) (p1 : Option Addr) (a2 : Option Addr) (n3 : Nat) (c4 : Nat) (h : Heap) (Q : Heap → Prop) : Prop :=
  Spec PG B 43 #[(Value.pointer p1), (Value.slice a2 n3 c4)] h (fun v h' => v = Value.tuple #[] ∧ Q  h')
def C_stylus_Stylus_Bytes (B : RO) (p1 : Option Addr) (h : Heap) (Q : ByteArray → Heap → Prop) : Prop :=
  Spec PG B 44 #[(Value.pointer p1)] h (fun v h' => ∃ s2 : ByteArray, v = (Value.string s2) ∧ Q s2 h')
def C_tome_Tome_Set (B : RO) (p1 : Option Addr) (i2 : Int) (b3 : Bool) (s4 : ByteArray) (i5 : Int) (h : Heap) (Q : Bool → Heap → Prop) : Prop :=
  Spec PG B 45 #[(Value.pointer p1), (Value.int .i64 (i2)), (Value.agg #[(Value.bool b3), (Value.string s4)]), (Value.int .i64 (i5))] h (fun v h' => ∃ b6 : Bool, v = (Value.bool b6) ∧ Q b6 h')
def C_disk_Disk_land (B : RO) (p1 : Option Addr) (i2 : Int) (b3 : Bool) (s4 : ByteArray) (h : Heap) (Q : Heap → Prop) : Prop :=
  Spec PG B 46 #[(Value.pointer p1), (Value.agg #[(Value.int .i64 (i2)), (Value.bool b3), (Value.string s4)])] h (fun v h' => v = Value.tuple #[] ∧ Q  h')
def C_tome_Tome_Get (B : RO) (p1 : Option Addr) (i2 : Int) (h : Heap) (Q : Bool → ByteArray → Int → Heap → Prop) : Prop :=
  Spec PG B 47 #[(Value.pointer p1), (Value.int .i64 (i2))] h (fun v h' => ∃ b3 : Bool, ∃ s4 : ByteArray, ∃ i5 : Int, v = Value.tuple #[(Value.agg #[(Value.bool b3), (Value.string s4)]), (Value.int .i64 (i5))] ∧ Q b3 s4 i5 h')
def C_disk_good (B : RO) (i1 : Int) (h : Heap) (Q : Bool → Heap → Prop) : Prop :=
  Spec PG B 48 #[(Value.int .i64 (i1))] h (fun v h' => ∃ b2 : Bool, v = (Value.bool b2) ∧ Q b2 h')
def C_wal_Open (B : RO) (p1 : Option Addr) (i2 : Int) (h : Heap) (Q : Option Addr → Int → Heap → Prop) : Prop :=
  Spec PG B 49 #[(Value.pointer p1), (Value.int .i64 (i2))] h (fun v h' => ∃ p3 : Option Addr, ∃ i4 : Int, v = Value.tuple #[(Value.pointer p3), (Value.int .i64 (i4))] ∧ Q p3 i4 h')
def C_vault_look (B : RO) (p1 : Option Addr) (h : Heap) (Q : Int → ByteArray → Option Addr → Nat → Nat → Heap → Prop) : Prop :=
  Spec PG B 50 #[(Value.pointer p1)] h (fun v h' => ∃ i2 : Int, ∃ s3 : ByteArray, ∃ a4 : Option Addr, ∃ n5 : Nat, ∃ c6 : Nat, v = Value.tuple #[(Value.int .i64 (i2)), (Value.agg #[(Value.string s3), (Value.slice a4 n5 c6)])] ∧ Q i2 s3 a4 n5 c6 h')
def C_tome_New (B : RO) (h : Heap) (Q : Option Addr → Heap → Prop) : Prop :=
  Spec PG B 51 #[] h (fun v h' => ∃ p1 : Option Addr, v = (Value.pointer p1) ∧ Q p1 h')
def C_tome_Read (B : RO) (s1 : ByteArray) (h : Heap) (Q : Option Addr → Bool → Heap → Prop) : Prop :=
  Spec PG B 52 #[(Value.string s1)] h (fun v h' => ∃ p2 : Option Addr, ∃ b3 : Bool, v = Value.tuple #[(Value.pointer p2), (Value.bool b3)] ∧ Q p2 b3 h')
def C_stylus_Reader_Raw (B : RO) (p1 : Option Addr) (i2 : Int) (h : Heap) (Q : ByteArray → Heap → Prop) : Prop :=
  Spec PG B 53 #[(Value.pointer p1), (Value.int .i64 (i2))] h (fun v h' => ∃ s3 : ByteArray, v = (Value.string s3) ∧ Q s3 h')
def C_stylus_Stylus_Raw (B : RO) (p1 : Option Addr) (s2 : ByteArray) (h : Heap) (Q : Heap → Prop) : Prop :=
  Spec PG B 54 #[(Value.pointer p1), (Value.string s2)] h (fun v h' => v = Value.tuple #[] ∧ Q  h')
def C_wal_Log_Area (B : RO) (p1 : Option Addr) (h : Heap) (Q : Int → Heap → Prop) : Prop :=
  Spec PG B 55 #[(Value.pointer p1)] h (fun v h' => ∃ i2 : Int, v = (Value.int .i64 (i2)) ∧ Q i2 h')
def C_wal_Log_Clear (B : RO) (p1 : Option Addr) (h : Heap) (Q : Heap → Prop) : Prop :=
  Spec PG B 56 #[(Value.pointer p1)] h (fun v h' => v = Value.tuple #[] ∧ Q  h')
def C_wal_Log_Force (B : RO) (p1 : Option Addr) (h : Heap) (Q : Heap → Prop) : Prop :=
  Spec PG B 57 #[(Value.pointer p1)] h (fun v h' => v = Value.tuple #[] ∧ Q  h')
def C_wal_Log_Append (B : RO) (p1 : Option Addr) (s2 : ByteArray) (h : Heap) (Q : Int → Heap → Prop) : Prop :=
  Spec PG B 58 #[(Value.pointer p1), (Value.string s2)] h (fun v h' => ∃ i3 : Int, v = (Value.int .i64 (i3)) ∧ Q i3 h')
def C_tome_Tome_Bytes (B : RO) (p1 : Option Addr) (h : Heap) (Q : ByteArray → Heap → Prop) : Prop :=
  Spec PG B 59 #[(Value.pointer p1)] h (fun v h' => ∃ s2 : ByteArray, v = (Value.string s2) ∧ Q s2 h')
def C_cell_New_int (B : RO) (i1 : Int) (i2 : Int) (h : Heap) (Q : Option Addr → Heap → Prop) : Prop :=
  Spec PG B 60 #[(Value.int .i64 (i1)), (Value.int .i64 (i2))] h (fun v h' => ∃ p3 : Option Addr, v = (Value.pointer p3) ∧ Q p3 h')
def C_feed_New (B : RO) (h : Heap) (Q : Option Addr → Heap → Prop) : Prop :=
  Spec PG B 61 #[] h (fun v h' => ∃ p1 : Option Addr, v = (Value.pointer p1) ∧ Q p1 h')
def C_draft_Draft_file_File_find (B : RO) (p1 : Option Addr) (i2 : Int) (h : Heap) (Q : Int → Bool → Heap → Prop) : Prop :=
  Spec PG B 62 #[(Value.pointer p1), (Value.int .i64 (i2))] h (fun v h' => ∃ i3 : Int, ∃ b4 : Bool, v = Value.tuple #[(Value.int .i64 (i3)), (Value.bool b4)] ∧ Q i3 b4 h')
def C_slices_Insert_s_draft_entry_file_File_draft_entry_file_File (B : RO) (a1 : Option Addr) (n2 : Nat) (c3 : Nat) (i4 : Int) (a5 : Option Addr) (n6 : Nat) (c7 : Nat) (h : Heap) (Q : Option Addr → Nat → Nat → Heap → Prop) : Prop :=
  Spec PG B 63 #[(Value.slice a1 n2 c3), (Value.int .i64 (i4)), (Value.slice a5 n6 c7)] h (fun v h' => ∃ a8 : Option Addr, ∃ n9 : Nat, ∃ c10 : Nat, v = (Value.slice a8 n9 c10) ∧ Q a8 n9 c10 h')
def C_draft_Draft_file_File_All_1 (B : RO) (v1 : Value) (A2 : Addr) (h : Heap) (Q : Heap → Prop) : Prop :=
  Spec PG B 64 #[v1, (Value.pointer (some A2))] h (fun v h' => v = Value.tuple #[] ∧ Q  h')
def C_wal_Log_Size (B : RO) (p1 : Option Addr) (h : Heap) (Q : Int → Heap → Prop) : Prop :=
  Spec PG B 65 #[(Value.pointer p1)] h (fun v h' => ∃ i2 : Int, v = (Value.int .i64 (i2)) ∧ Q i2 h')
def C_stylus_Reader_word (B : RO) (p1 : Option Addr) (h : Heap) (Q : Int → Heap → Prop) : Prop :=
  Spec PG B 66 #[(Value.pointer p1)] h (fun v h' => ∃ i2 : Int, v = (Value.int .u64 (i2)) ∧ Q i2 h')
def C_stylus_Reader_Spoil (B : RO) (p1 : Option Addr) (h : Heap) (Q : Heap → Prop) : Prop :=
  Spec PG B 67 #[(Value.pointer p1)] h (fun v h' => v = Value.tuple #[] ∧ Q  h')
def C_cell_Row_file_File_Set (B : RO) (p1 : Option Addr) (i2 : Int) (b3 : Bool) (s4 : ByteArray) (i5 : Int) (h : Heap) (Q : Bool → Heap → Prop) : Prop :=
  Spec PG B 68 #[(Value.pointer p1), (Value.int .i64 (i2)), (Value.agg #[(Value.bool b3), (Value.string s4)]), (Value.int .i64 (i5))] h (fun v h' => ∃ b6 : Bool, v = (Value.bool b6) ∧ Q b6 h')
def C_cell_Row_file_File_Get (B : RO) (p1 : Option Addr) (i2 : Int) (h : Heap) (Q : Bool → ByteArray → Int → Heap → Prop) : Prop :=
  Spec PG B 69 #[(Value.pointer p1), (Value.int .i64 (i2))] h (fun v h' => ∃ b3 : Bool, ∃ s4 : ByteArray, ∃ i5 : Int, v = Value.tuple #[(Value.agg #[(Value.bool b3), (Value.string s4)]), (Value.int .i64 (i5))] ∧ Q b3 s4 i5 h')
def C_wafer_Whole (B : RO) (s1 : ByteArray) (h : Heap) (Q : Int → Heap → Prop) : Prop :=
  Spec PG B 70 #[(Value.string s1)] h (fun v h' => ∃ i2 : Int, v = (Value.int .i64 (i2)) ∧ Q i2 h')
def C_wal_Log_All (B : RO) (p1 : Option Addr) (h : Heap) (Q : Value → Heap → Prop) : Prop :=
  Spec PG B 71 #[(Value.pointer p1)] h (fun v h' => ∃ v2 : Value, v = v2 ∧ Q v2 h')
def C_vault_first (B : RO) (s1 : ByteArray) (h : Heap) (Q : Int → ByteArray → Bool → Heap → Prop) : Prop :=
  Spec PG B 72 #[(Value.string s1)] h (fun v h' => ∃ i2 : Int, ∃ s3 : ByteArray, ∃ b4 : Bool, v = Value.tuple #[(Value.int .i64 (i2)), (Value.string s3), (Value.bool b4)] ∧ Q i2 s3 b4 h')
def C_cell_New_file_File (B : RO) (i1 : Int) (b2 : Bool) (s3 : ByteArray) (h : Heap) (Q : Option Addr → Heap → Prop) : Prop :=
  Spec PG B 73 #[(Value.int .i64 (i1)), (Value.agg #[(Value.bool b2), (Value.string s3)])] h (fun v h' => ∃ p4 : Option Addr, v = (Value.pointer p4) ∧ Q p4 h')
def C_disk_Disk_Reset (B : RO) (p1 : Option Addr) (i2 : Int) (h : Heap) (Q : Int → Heap → Prop) : Prop :=
  Spec PG B 74 #[(Value.pointer p1), (Value.int .i64 (i2))] h (fun v h' => ∃ i3 : Int, v = (Value.int .i64 (i3)) ∧ Q i3 h')
def C_disk_Disk_Sync (B : RO) (p1 : Option Addr) (h : Heap) (Q : Heap → Prop) : Prop :=
  Spec PG B 75 #[(Value.pointer p1)] h (fun v h' => v = Value.tuple #[] ∧ Q  h')
def C_wafer_Close (B : RO) (s1 : ByteArray) (h : Heap) (Q : ByteArray → Heap → Prop) : Prop :=
  Spec PG B 76 #[(Value.string s1)] h (fun v h' => ∃ s2 : ByteArray, v = (Value.string s2) ∧ Q s2 h')
def C_disk_Disk_Append (B : RO) (p1 : Option Addr) (i2 : Int) (s3 : ByteArray) (h : Heap) (Q : Int → Heap → Prop) : Prop :=
  Spec PG B 77 #[(Value.pointer p1), (Value.int .i64 (i2)), (Value.string s3)] h (fun v h' => ∃ i4 : Int, v = (Value.int .i64 (i4)) ∧ Q i4 h')
def C_tome_Tome_All (B : RO) (p1 : Option Addr) (h : Heap) (Q : Value → Heap → Prop) : Prop :=
  Spec PG B 78 #[(Value.pointer p1)] h (fun v h' => ∃ v2 : Value, v = v2 ∧ Q v2 h')
def C_slices_BinarySearchFunc_s_draft_entry_file_File_draft_entry_file_File_int (B : RO) (a1 : Option Addr) (n2 : Nat) (c3 : Nat) (i4 : Int) (v5 : Value) (h : Heap) (Q : Int → Bool → Heap → Prop) : Prop :=
  Spec PG B 79 #[(Value.slice a1 n2 c3), (Value.int .i64 (i4)), v5] h (fun v h' => ∃ i6 : Int, ∃ b7 : Bool, v = Value.tuple #[(Value.int .i64 (i6)), (Value.bool b7)] ∧ Q i6 b7 h')
def C_draft_by_file_File (B : RO) (i1 : Int) (b2 : Bool) (s3 : ByteArray) (i4 : Int) (h : Heap) (Q : Int → Heap → Prop) : Prop :=
  Spec PG B 80 #[(Value.agg #[(Value.int .i64 (i1)), (Value.bool b2), (Value.string s3)]), (Value.int .i64 (i4))] h (fun v h' => ∃ i5 : Int, v = (Value.int .i64 (i5)) ∧ Q i5 h')
def C_slices_rotateRight_draft_entry_file_File (B : RO) (a1 : Option Addr) (n2 : Nat) (c3 : Nat) (i4 : Int) (h : Heap) (Q : Heap → Prop) : Prop :=
  Spec PG B 82 #[(Value.slice a1 n2 c3), (Value.int .i64 (i4))] h (fun v h' => v = Value.tuple #[] ∧ Q  h')
def C_cell_Row_file_File_is (B : RO) (p1 : Option Addr) (i2 : Int) (h : Heap) (Q : Bool → Heap → Prop) : Prop :=
  Spec PG B 83 #[(Value.pointer p1), (Value.int .i64 (i2))] h (fun v h' => ∃ b3 : Bool, v = (Value.bool b3) ∧ Q b3 h')
def C_wafer_All (B : RO) (s1 : ByteArray) (h : Heap) (Q : Value → Heap → Prop) : Prop :=
  Spec PG B 84 #[(Value.string s1)] h (fun v h' => ∃ v2 : Value, v = v2 ∧ Q v2 h')
def C_wal_Log_All_1 (B : RO) (v1 : Value) (A2 : Addr) (h : Heap) (Q : Heap → Prop) : Prop :=
  Spec PG B 85 #[v1, (Value.pointer (some A2))] h (fun v h' => v = Value.tuple #[] ∧ Q  h')
def C_wafer_foots (B : RO) (i1 : Int) (h : Heap) (Q : ByteArray → Heap → Prop) : Prop :=
  Spec PG B 86 #[(Value.int .u32 (i1))] h (fun v h' => ∃ s2 : ByteArray, v = (Value.string s2) ∧ Q s2 h')
def C_wafer_Sum (B : RO) (s1 : ByteArray) (h : Heap) (Q : Int → Heap → Prop) : Prop :=
  Spec PG B 87 #[(Value.string s1)] h (fun v h' => ∃ i2 : Int, v = (Value.int .u32 (i2)) ∧ Q i2 h')
def C_tome_Tome_All_1 (B : RO) (v1 : Value) (A2 : Addr) (h : Heap) (Q : Heap → Prop) : Prop :=
  Spec PG B 88 #[v1, (Value.pointer (some A2))] h (fun v h' => v = Value.tuple #[] ∧ Q  h')
def C_cell_Row_file_File_All (B : RO) (p1 : Option Addr) (h : Heap) (Q : Value → Heap → Prop) : Prop :=
  Spec PG B 89 #[(Value.pointer p1)] h (fun v h' => ∃ v2 : Value, v = v2 ∧ Q v2 h')
def C_wafer_All_1 (B : RO) (v1 : Value) (A2 : Addr) (h : Heap) (Q : Heap → Prop) : Prop :=
  Spec PG B 91 #[v1, (Value.pointer (some A2))] h (fun v h' => v = Value.tuple #[] ∧ Q  h')
def C_wafer_Open (B : RO) (s1 : ByteArray) (h : Heap) (Q : ByteArray → Int → Heap → Prop) : Prop :=
  Spec PG B 92 #[(Value.string s1)] h (fun v h' => ∃ s2 : ByteArray, ∃ i3 : Int, v = Value.tuple #[(Value.string s2), (Value.int .i64 (i3))] ∧ Q s2 i3 h')
def C_cell_Row_file_File_All_1 (B : RO) (v1 : Value) (A2 : Addr) (h : Heap) (Q : Heap → Prop) : Prop :=
  Spec PG B 93 #[v1, (Value.pointer (some A2))] h (fun v h' => v = Value.tuple #[] ∧ Q  h')
end Go.Proofs.YtlehephbflgblaaGreat.H
namespace Go.Proofs.YtlehephbflgblaaGreat.H
open Go
set_option linter.unusedVariables false
set_option maxRecDepth 100000
set_option maxHeartbeats 4000000
def S_countermandlaw21_WorldRoom_J2 (B : RO) (p11 : Option Addr) (k15 : Nat) (i18 : Int) (h19 : Heap) (Q : Bool → Heap → Prop) : Prop :=
 C_disk_Disk_Crash B p11 (0) (0) h19 (fun h20 =>
 C_world_Open B p11 h20 (fun p22 i23 h21 =>
 ((i23 : Int) = 0 →
 ∃ l24 : List Value, List.length l24 = 12 ∧ CellsAt B h21 ⟨k15, 0, none⟩ 0 l24 ∧
 C_countermandlaw21_are B p22 l24 h21 (fun b26 h25 =>
 (b26 = true →
 C_world_World_Blocks B p22 h25 (fun i28 h27 =>
 Fin B h27 (Q (((i28 : Int) == (i18)))))) ∧ (b26 = false →
 Fin B h25 (Q (false))))) ∧ (¬ ((i23 : Int) = 0) →
 Fin B h21 (Q (false)))))
def S_countermandlaw21_WorldRoom_J1 (B : RO) (a1 : Option Addr) (n2 : Nat) (c3 : Nat) (i4 : Int) (h9 : Heap) (Q : Bool → Heap → Prop) : Prop :=
 C_disk_New B h9 (fun p11 h10 =>
 C_world_Open B p11 h10 (fun p13 i14 h12 =>
 ∀ k15 : Nat, h12 k15 = none → B k15 = none → ∀ h16 : Heap, h16 = Heap.set h12 k15 (.vec 33 (plains [(.bool false), (.string ByteArray.empty), (.bool false), (.string ByteArray.empty), (.bool false), (.string ByteArray.empty), (.bool false), (.string ByteArray.empty), (.bool false), (.string ByteArray.empty), (.bool false), (.string ByteArray.empty)]) 12) →
 ∃ (J35 : Int → Int → Nat → Heap → Prop) (m33 : Nat), Fin B h16 (J35 (0) (0) m33) ∧
 ∀ (i29 : Int) (i30 : Int) (m32 : Nat) (h31 : Heap), J35 i29 i30 m32 h31 →
 ((i30 : Int) < (i4) →
 ∃ (J42 : Int → Int → Nat → Heap → Prop) (m40 : Nat), Fin B h31 (J42 (i29) (0) m40) ∧
 ∀ (i36 : Int) (i37 : Int) (m39 : Nat) (h38 : Heap), J42 i36 i37 m39 h38 →
 ((i37 : Int) < ((n2 : Nat)) →
 ∃ A43 : Addr, a1 = some A43 ∧ 0 ≤ (i37 : Int) ∧ (i37 : Int) < (n2 : Nat) ∧
 LdSl B h38 (Addr.add A43 (Int.toNat (i37) * 1)) fun a45 n46 c47 h48 =>
 C_countermandlaw21_drawn B a45 n46 c47 h48 (fun p50 a51 n52 c53 b54 h49 =>
 (b54 = true →
 C_world_World_Write B p13 p50 h49 (fun i56 h55 =>
 ((i56 : Int) = 0 →
 C_world_World_Force B p13 h55 (fun h57 =>
 C_redo_Bytes B (1) p50 h57 (fun s59 h58 =>
 C_redo_Read B s59 h58 (fun i61 a62 n63 c64 b65 h60 =>
 C_world_World_View B p13 h60 (fun p67 h66 =>
 ∃ A68 : Addr, p67 = some A68 ∧
 ∃ p70 : Option Addr, cellH B h66 (Addr.add A68 1) = some (.pointer p70) ∧
 C_redo_Apply B p70 a62 n63 c64 (0) h66 (fun h71 =>
 C_world_World_Done B p13 h71 (fun h72 =>
 ∃ l73 : List Value, List.length l73 = 12 ∧ CellsAt B h72 ⟨k15, 0, none⟩ 0 l73 ∧
 C_countermandref18_Apply B l73 a51 n52 c53 h72 (fun l75 h74 =>
 List.length l75 = 12 ∧ ∃ h76 : Heap, StoresAt ⟨k15, 0, none⟩ h74 0 l75 h76 ∧
 C_disk_Disk_Read B p11 (0) h76 (fun s78 h77 =>
 C_disk_Disk_Read B p11 (1) h77 (fun s80 h79 =>
 ((IntKind.wrap .i64 (((ByteArray.size s78 : Nat)) + ((ByteArray.size s80 : Nat))) : Int) > (2348) →
 Fin B h79 (Q (false))) ∧ (¬ ((IntKind.wrap .i64 (((ByteArray.size s78 : Nat)) + ((ByteArray.size s80 : Nat))) : Int) > (2348)) →
 Fin B h79 (fun h' => ∃ m', m' < m39 ∧ J42 (IntKind.wrap .i64 ((i36) + (1))) (IntKind.wrap .i64 ((i37) + (1))) m' h')))))))))))) ∧ (¬ ((i56 : Int) = 0) →
 Fin B h55 (Q (false))))) ∧ (b54 = false →
 Fin B h49 (Q (true))))) ∧ (¬ ((i37 : Int) < ((n2 : Nat))) →
 Fin B h38 (fun h' => ∃ m', m' < m32 ∧ J35 (i36) (IntKind.wrap .i64 ((i30) + (1))) m' h'))) ∧ (¬ ((i30 : Int) < (i4)) →
 Fin B h31 (fun h' => S_countermandlaw21_WorldRoom_J2 B p11 k15 (i29) h' Q))))
def S_countermandlaw21_WorldRoom (B : RO) (a1 : Option Addr) (n2 : Nat) (c3 : Nat) (i4 : Int) (h : Heap) (Q : Bool → Heap → Prop) : Prop :=
 C_countermandlaw21_alive B h (fun b7 h6 =>
 (b7 = true →
 (((n2 : Nat) : Int) > (60) →
 Fin B h6 (Q (true))) ∧ (¬ (((n2 : Nat) : Int) > (60)) →
 ((i4 : Int) < (0) →
 Fin B h6 (Q (true))) ∧ (¬ ((i4 : Int) < (0)) →
 ((i4 : Int) > (5) →
 Fin B h6 (Q (true))) ∧ (¬ ((i4 : Int) > (5)) →
 Fin B h6 (fun h' => S_countermandlaw21_WorldRoom_J1 B a1 n2 c3 i4 h' Q))))) ∧ (b7 = false →
 Fin B h6 (Q (false))))
def S_countermandlaw21_alive (B : RO) (h : Heap) (Q : Bool → Heap → Prop) : Prop :=
 C_disk_New B h (fun p3 h2 =>
 C_world_Open B p3 h2 (fun p5 i6 h4 =>
 ((i6 : Int) = 0 →
 ∀ k7 : Nat, h4 k7 = none → B k7 = none → ∀ h8 : Heap, h8 = Heap.set h4 k7 (.vec 59 (plains [(.int .i64 (1)), (.int .i64 (5))]) 2) →
 C_world_World_Add B p5 (some ⟨k7, 0, none⟩) 1 1 h8 (fun h9 =>
 C_world_World_Done B p5 h9 (fun h10 =>
 C_world_World_Tallies B p5 h10 (fun i12 i13 i14 i15 h11 =>
 0 ≤ (1 : Int) ∧ (1 : Int) < (4 : Nat) ∧ ∃ i16 : Int, (#[(.int .i64 (i12)), (.int .i64 (i13)), (.int .i64 (i14)), (.int .i64 (i15))] : Array Value)[Int.toNat (1) * 1]? = some (.int .i64 (i16)) ∧
 ((i16 : Int) = 5 →
 C_world_World_Blocks B p5 h11 (fun i18 h17 =>
 ((i18 : Int) = 1 →
 C_world_World_View B p5 h17 (fun p20 h19 =>
 ∃ A21 : Addr, p20 = some A21 ∧
 ∃ i23 : Int, cellH B h19 (Addr.add A21 3) = some (.int .i64 (i23)) ∧
 Fin B h19 (Q (((i23 : Int) == (0)))))) ∧ (¬ ((i18 : Int) = 1) →
 Fin B h17 (Q (false))))) ∧ (¬ ((i16 : Int) = 5) →
 Fin B h11 (Q (false))))))) ∧ (¬ ((i6 : Int) = 0) →
 Fin B h4 (Q (false)))))
def S_disk_New (B : RO) (h : Heap) (Q : Option Addr → Heap → Prop) : Prop :=
 ∀ k2 : Nat, h k2 = none → B k2 = none → ∀ h3 : Heap, h3 = Heap.set h k2 (.vec 67 (plains [(.string ByteArray.empty), (.string ByteArray.empty), (.string ByteArray.empty), (.string ByteArray.empty), (.slice none 0 0)]) 5) →
 Fin B h3 (Q (some ⟨k2, 0, none⟩))
def S_world_Open (B : RO) (p1 : Option Addr) (h : Heap) (Q : Option Addr → Int → Heap → Prop) : Prop :=
 C_vault_Open B p1 h (fun p5 s6 a7 n8 c9 i10 h4 =>
 ∀ k11 : Nat, h4 k11 = none → B k11 = none → ∀ h12 : Heap, h12 = Heap.set h4 k11 (.vec 71 (plains [(.string ByteArray.empty), (.slice none 0 0)]) 2) →
 ∃ h13 : Heap, StoresAt ⟨k11, 0, none⟩ h12 0 [(.string s6), (.slice a7 n8 c9)] h13 ∧
 ((i10 : Int) = 0 →
 ∃ s14 : ByteArray, cellH B h13 ⟨k11, 0, none⟩ = some (.string s14) ∧
 C_world_read B s14 h13 (fun i16 p17 b18 h15 =>
 (b18 = true →
 LdSl B h15 ⟨k11, 1, none⟩ fun a19 n20 c21 h22 =>
 C_redo_Replay B p17 a19 n20 c21 h22 (fun i24 i25 h23 =>
 LdSl B h23 ⟨k11, 1, none⟩ fun a26 n27 c28 h29 =>
 ((i25 : Int) < ((n27 : Nat)) →
 Fin B h29 (Q none (4))) ∧ (¬ ((i25 : Int) < ((n27 : Nat))) →
 C_world_image B (if (i24 : Int) > (i16) then (i24 : Int) else (i16)) p17 h29 (fun s31 h30 =>
 C_vault_Vault_Settle B p5 s31 h30 (fun i33 h32 =>
 ((i33 : Int) = 0 →
 C_attempt_NewView B h32 (fun p35 h34 =>
 C_wire_New B h34 (fun p37 h36 =>
 C_token_New B h36 (fun p39 h38 =>
 ∀ k40 : Nat, h38 k40 = none → B k40 = none → ∀ h41 : Heap, h41 = Heap.set h38 k40 (.vec 86 (plains [(.pointer p35), (.pointer p37), (.pointer p39), (.pointer p1), (.pointer p5), (.int .i64 (0)), (.int .i64 (0)), (.int .i64 (0)), (.int .i64 (0)), (.slice none 0 0), (.int .i64 (if (i24 : Int) > (i16) then (i24 : Int) else (i16))), (.int .i64 (0))]) 12) →
 ∃ p42 : Option Addr, cellH B h41 ⟨k40, 0, none⟩ = some (.pointer p42) ∧
 ∃ A43 : Addr, p42 = some A43 ∧
 ∃ h45 : Heap, storeH h41 (Addr.add A43 1) (.pointer p17) = some h45 ∧
 Fin B h45 (Q (some ⟨k40, 0, none⟩) (0)))))) ∧ (¬ ((i33 : Int) = 0) →
 Fin B h32 (Q none (i33)))))))) ∧ (b18 = false →
 Fin B h15 (Q none (4))))) ∧ (¬ ((i10 : Int) = 0) →
 Fin B h13 (Q none (i10))))
def S_countermandlaw21_drawn_J1 (B : RO) (k9 : Nat) (h12 : Heap) (Q : Option Addr → Option Addr → Nat → Nat → Bool → Heap → Prop) : Prop :=
 ∀ k13 : Nat, h12 k13 = none → B k13 = none → ∀ h14 : Heap, h14 = Heap.set h12 k13 (.vec 35 (plains [(.slice none 0 0)]) 1) →
 C_draft_Draft_file_File_All B (some ⟨k9, 0, none⟩) h14 (fun v16 h15 =>
 ∃ (xs24 : List (Int × Bool × ByteArray)) (G20 : Heap → Prop) (J23 : Nat → Heap → Prop), Iter PG B v16 (xs24.map (fun x : Int × Bool × ByteArray => [(.int .i64 (x.1)), (.agg #[(.bool x.2.1), (.string x.2.2)])])) G20 ∧ Ins G20 ∧ (∀ i h, J23 i h → G20 h) ∧ Fin B h15 (J23 0) ∧
 (∀ (q22 : Nat) (h21 : Heap) (i17 : Int) (b18 : Bool) (s19 : ByteArray), xs24[q22]? = some (i17, b18, s19) → J23 q22 h21 →
 ∀ k25 : Nat, h21 k25 = none → B k25 = none → ∀ h26 : Heap, h26 = Heap.set h21 k25 (.vec 90 (plains [(.bool false), (.string ByteArray.empty)]) 2) →
 ∃ h27 : Heap, StoresAt ⟨k25, 0, none⟩ h26 0 [(.bool b18), (.string s19)] h27 ∧
 LdSl B h27 ⟨k13, 0, none⟩ fun a28 n29 c30 h31 =>
 ∃ b32 : Bool, ∃ s33 : ByteArray, CellsAt B h31 ⟨k25, 0, none⟩ 0 [(.bool b32), (.string s33)] ∧
 ∀ k34 : Nat, h31 k34 = none → B k34 = none → ∀ h35 : Heap, h35 = Heap.set h31 k34 (.vec 99 (plains [(.int .i64 (i17)), (.bool b32), (.string s33)]) 3) →
 semH PG B (Builtin.append_ #[35, 35] 35 #[(.slice a28 n29 c30), (.slice (some ⟨k34, 0, none⟩) 1 1)]) h35 (fun v h36 => ∃ a37 : Option Addr, ∃ n38 : Nat, ∃ c39 : Nat, v = (.slice a37 n38 c39) ∧
 ∃ h40 : Heap, storeH h36 ⟨k13, 0, none⟩ (.slice a37 n38 c39) = some h40 ∧
 Fin B h40 (J23 (q22 + 1)))) ∧
 (∀ (h21 : Heap), J23 xs24.length h21 →
 ∃ a41 : Option Addr, ∃ n42 : Nat, ∃ c43 : Nat, cellH B h21 ⟨k13, 0, none⟩ = some (.slice a41 n42 c43) ∧
 Fin B h21 (Q (some ⟨k9, 0, none⟩) a41 n42 c43 (true))))
def S_countermandlaw21_drawn_J2 (B : RO) (a1 : Option Addr) (n2 : Nat) (c3 : Nat) (k9 : Nat) (i44 : Int) (m46 : Nat) (J49 : Int → Nat → Heap → Prop) (k55 : Nat) (h59 : Heap) (Q : Option Addr → Option Addr → Nat → Nat → Bool → Heap → Prop) : Prop :=
 ∃ i60 : Int, cellH B h59 ⟨k55, 0, none⟩ = some (.int .i64 (i60)) ∧
 ∃ b61 : Bool, ∃ s62 : ByteArray, CellsAt B h59 ⟨k55, 1, none⟩ 0 [(.bool b61), (.string s62)] ∧
 C_draft_Draft_file_File_Put B (some ⟨k9, 0, none⟩) (i60) (b61) s62 h59 (fun b64 h63 =>
 Fin B h63 (fun h' => ∃ m', m' < m46 ∧ J49 (IntKind.wrap .i64 ((i44) + (1))) m' h'))
def S_countermandlaw21_drawn (B : RO) (a1 : Option Addr) (n2 : Nat) (c3 : Nat) (h : Heap) (Q : Option Addr → Option Addr → Nat → Nat → Bool → Heap → Prop) : Prop :=
 ∀ k9 : Nat, h k9 = none → B k9 = none → ∀ h10 : Heap, h10 = Heap.set h k9 (.vec 89 (plains [(.slice none 0 0)]) 1) →
 (((n2 : Nat) : Int) > (10) →
 Fin B h10 (Q (some ⟨k9, 0, none⟩) none 0 0 (false))) ∧ (¬ (((n2 : Nat) : Int) > (10)) →
 ∃ (J49 : Int → Nat → Heap → Prop) (m47 : Nat), Fin B h10 (J49 (0) m47) ∧
 ∀ (i44 : Int) (m46 : Nat) (h45 : Heap), J49 i44 m46 h45 →
 ((i44 : Int) < ((n2 : Nat)) →
 ∃ A50 : Addr, a1 = some A50 ∧ 0 ≤ (i44 : Int) ∧ (i44 : Int) < (n2 : Nat) ∧
 ∃ i52 : Int, ∃ b53 : Bool, ∃ s54 : ByteArray, CellsAt B h45 (Addr.add A50 (Int.toNat (i44) * 3)) 0 [(.int .i64 (i52)), (.bool b53), (.string s54)] ∧
 ∀ k55 : Nat, h45 k55 = none → B k55 = none → ∀ h56 : Heap, h56 = Heap.set h45 k55 (.vec 92 (plains [(.int .i64 (0)), (.bool false), (.string ByteArray.empty)]) 3) →
 ∃ h57 : Heap, StoresAt ⟨k55, 0, none⟩ h56 0 [(.int .i64 (i52)), (.bool b53), (.string s54)] h57 ∧
 ∃ i65 : Int, cellH B h57 ⟨k55, 0, none⟩ = some (.int .i64 (i65)) ∧
 ((i65 : Int) < (0) →
 Fin B h57 (Q (some ⟨k9, 0, none⟩) none 0 0 (false))) ∧ (¬ ((i65 : Int) < (0)) →
 ∃ i66 : Int, cellH B h57 ⟨k55, 0, none⟩ = some (.int .i64 (i66)) ∧
 ((i66 : Int) > (5) →
 Fin B h57 (Q (some ⟨k9, 0, none⟩) none 0 0 (false))) ∧ (¬ ((i66 : Int) > (5)) →
 ∃ b67 : Bool, ∃ s68 : ByteArray, CellsAt B h57 ⟨k55, 1, none⟩ 0 [(.bool b67), (.string s68)] ∧
 C_file_Good B (b67) s68 h57 (fun b70 h69 =>
 (b70 = true →
 Fin B h69 (fun h' => S_countermandlaw21_drawn_J2 B a1 n2 c3 k9 i44 m46 J49 k55 h' Q)) ∧ (b70 = false →
 Fin B h69 (Q (some ⟨k9, 0, none⟩) none 0 0 (false))))))) ∧ (¬ ((i44 : Int) < ((n2 : Nat))) →
 Fin B h45 (fun h' => S_countermandlaw21_drawn_J1 B k9 h' Q)))
def S_world_World_Write_J1 (B : RO) (p1 : Option Addr) (p2 : Option Addr) (h18 : Heap) (Q : Int → Heap → Prop) : Prop :=
 ∃ A20 : Addr, p1 = some A20 ∧
 ∃ p24 : Option Addr, cellH B h18 (Addr.add A20 4) = some (.pointer p24) ∧
 ∃ A27 : Addr, p1 = some A27 ∧
 ∃ i31 : Int, cellH B h18 (Addr.add A27 10) = some (.int .i64 (i31)) ∧
 C_redo_Bytes B (IntKind.wrap .i64 ((i31) + (1))) p2 h18 (fun s36 h35 =>
 cellH B h35 (Addr.add A20 4) = some (.pointer p24) ∧ cellH B h35 (Addr.add A27 10) = some (.int .i64 (i31)) ∧
 C_vault_Vault_Append B p24 s36 h35 (fun i40 h39 =>
 cellH B h39 (Addr.add A20 4) = some (.pointer p24) ∧ cellH B h39 (Addr.add A27 10) = some (.int .i64 (i31)) ∧
 Fin B h39 (Q (i40))))
def S_world_World_Write (B : RO) (p1 : Option Addr) (p2 : Option Addr) (h : Heap) (Q : Int → Heap → Prop) : Prop :=
 (p1 = none →
 Fin B h (Q (2))) ∧ (¬ (p1 = none) →
 ∃ A5 : Addr, p1 = some A5 ∧
 ∃ i7 : Int, cellH B h (Addr.add A5 11) = some (.int .i64 (i7)) ∧
 ((i7 : Int) > (0) →
 ∃ A8 : Addr, p1 = some A8 ∧
 ∃ i10 : Int, cellH B h (Addr.add A8 11) = some (.int .i64 (i10)) ∧
 ∃ A11 : Addr, p1 = some A11 ∧
 ∃ h13 : Heap, storeH h (Addr.add A11 11) (.int .i64 (IntKind.wrap .i64 ((i10) - (1)))) = some h13 ∧
 Fin B h13 (Q (7))) ∧ (¬ ((i7 : Int) > (0)) →
 ∃ A14 : Addr, p1 = some A14 ∧
 ∃ i16 : Int, cellH B h (Addr.add A14 10) = some (.int .i64 (i16)) ∧
 ((i16 : Int) ≥ (1099511627776) →
 Fin B h (Q (6))) ∧ (¬ ((i16 : Int) ≥ (1099511627776)) →
 ∃ A43 : Addr, p1 = some A43 ∧
 ∃ p45 : Option Addr, cellH B h (Addr.add A43 4) = some (.pointer p45) ∧
 C_vault_Vault_Size B p45 h (fun i47 h46 =>
 ((i47 : Int) > (2048) →
 ∃ A49 : Addr, p1 = some A49 ∧
 ∃ p53 : Option Addr, cellH B h46 (Addr.add A49 4) = some (.pointer p53) ∧
 ∃ A56 : Addr, p1 = some A56 ∧
 ∃ i60 : Int, cellH B h46 (Addr.add A56 10) = some (.int .i64 (i60)) ∧
 ∃ A63 : Addr, p1 = some A63 ∧
 ∃ p67 : Option Addr, cellH B h46 A63 = some (.pointer p67) ∧
 ∃ A69 : Addr, p67 = some A69 ∧
 ∃ p73 : Option Addr, cellH B h46 (Addr.add A69 1) = some (.pointer p73) ∧
 C_world_image B (i60) p73 h46 (fun s76 h75 =>
 cellH B h75 (Addr.add A49 4) = some (.pointer p53) ∧ cellH B h75 (Addr.add A56 10) = some (.int .i64 (i60)) ∧ cellH B h75 A63 = some (.pointer p67) ∧ cellH B h75 (Addr.add A69 1) = some (.pointer p73) ∧
 C_vault_Vault_Settle B p53 s76 h75 (fun i82 h81 =>
 cellH B h81 (Addr.add A49 4) = some (.pointer p53) ∧ cellH B h81 (Addr.add A56 10) = some (.int .i64 (i60)) ∧ cellH B h81 A63 = some (.pointer p67) ∧ cellH B h81 (Addr.add A69 1) = some (.pointer p73) ∧
 ((i82 : Int) = 0 →
 Fin B h81 (fun h' => S_world_World_Write_J1 B p1 p2 h' Q)) ∧ (¬ ((i82 : Int) = 0) →
 Fin B h81 (Q (i82)))))) ∧ (¬ ((i47 : Int) > (2048)) →
 Fin B h46 (fun h' => S_world_World_Write_J1 B p1 p2 h' Q))))))
def S_world_World_Force (B : RO) (p1 : Option Addr) (h : Heap) (Q : Heap → Prop) : Prop :=
 (p1 = none →
 Fin B h (Q)) ∧ (¬ (p1 = none) →
 ∃ A3 : Addr, p1 = some A3 ∧
 ∃ p5 : Option Addr, cellH B h (Addr.add A3 4) = some (.pointer p5) ∧
 C_vault_Vault_Force B p5 h (fun h6 =>
 Fin B h6 (Q)))
def S_redo_Read_J1 (B : RO) (p8 : Option Addr) (i10 : Int) (a12 : Option Addr) (n13 : Nat) (c14 : Nat) (h15 : Heap) (Q : Int → Option Addr → Nat → Nat → Bool → Heap → Prop) : Prop :=
 C_stylus_Reader_Bad B p8 h15 (fun b17 h16 =>
 (b17 = true →
 Fin B h16 (Q (0) none 0 0 (false))) ∧ (b17 = false →
 Fin B h16 (Q (i10) a12 n13 c14 (true))))
def S_redo_Read_J3 (B : RO) (p8 : Option Addr) (i10 : Int) (a18 : Option Addr) (n19 : Nat) (c20 : Nat) (m23 : Nat) (J26 : Option Addr → Nat → Nat → Int → Nat → Heap → Prop) (k31 : Nat) (h37 : Heap) (Q : Int → Option Addr → Nat → Nat → Bool → Heap → Prop) : Prop :=
 ∃ i38 : Int, cellH B h37 ⟨k31, 0, none⟩ = some (.int .i64 (i38)) ∧
 ∃ i39 : Int, ∃ b40 : Bool, ∃ s41 : ByteArray, CellsAt B h37 ⟨k31, 0, none⟩ 0 [(.int .i64 (i39)), (.bool b40), (.string s41)] ∧
 ∀ k42 : Nat, h37 k42 = none → B k42 = none → ∀ h43 : Heap, h43 = Heap.set h37 k42 (.vec 92 (plains [(.int .i64 (i39)), (.bool b40), (.string s41)]) 3) →
 semH PG B (Builtin.append_ #[23, 23] 23 #[(.slice a18 n19 c20), (.slice (some ⟨k42, 0, none⟩) 1 1)]) h43 (fun v h44 => ∃ a45 : Option Addr, ∃ n46 : Nat, ∃ c47 : Nat, v = (.slice a45 n46 c47) ∧
 Fin B h44 (fun h' => ∃ m', m' < m23 ∧ J26 a45 n46 c47 (i38) m' h'))
def S_redo_Read_J2 (B : RO) (p8 : Option Addr) (i10 : Int) (a18 : Option Addr) (n19 : Nat) (c20 : Nat) (i21 : Int) (m23 : Nat) (J26 : Option Addr → Nat → Nat → Int → Nat → Heap → Prop) (k31 : Nat) (h35 : Heap) (Q : Int → Option Addr → Nat → Nat → Bool → Heap → Prop) : Prop :=
 C_stylus_Reader_Bad B p8 h35 (fun b49 h48 =>
 (b49 = true →
 Fin B h48 (Q (0) none 0 0 (false))) ∧ (b49 = false →
 ∃ i50 : Int, cellH B h48 ⟨k31, 0, none⟩ = some (.int .i64 (i50)) ∧
 ((i50 : Int) ≤ (i21) →
 Fin B h48 (Q (0) none 0 0 (false))) ∧ (¬ ((i50 : Int) ≤ (i21)) →
 Fin B h48 (fun h' => S_redo_Read_J3 B p8 i10 a18 n19 c20 m23 J26 k31 h' Q))))
def S_redo_Read (B : RO) (s1 : ByteArray) (h : Heap) (Q : Int → Option Addr → Nat → Nat → Bool → Heap → Prop) : Prop :=
 C_stylus_Of B s1 h (fun p8 h7 =>
 C_stylus_Reader_Nat B p8 (1099511627776) h7 (fun i10 h9 =>
 ∃ (J26 : Option Addr → Nat → Nat → Int → Nat → Heap → Prop) (m24 : Nat), Fin B h9 (J26 none 0 0 ((-1)) m24) ∧
 ∀ (a18 : Option Addr) (n19 : Nat) (c20 : Nat) (i21 : Int) (m23 : Nat) (h22 : Heap), J26 a18 n19 c20 i21 m23 h22 →
 C_stylus_Reader_Left B p8 h22 (fun i28 h27 =>
 ((i28 : Int) > (0) →
 C_stylus_Reader_Nat B p8 (5) h27 (fun i30 h29 =>
 ∀ k31 : Nat, h29 k31 = none → B k31 = none → ∀ h32 : Heap, h32 = Heap.set h29 k31 (.vec 92 (plains [(.int .i64 (0)), (.bool false), (.string ByteArray.empty)]) 3) →
 ∃ h33 : Heap, StoresAt ⟨k31, 0, none⟩ h32 0 [(.int .i64 (i30)), (.bool false), (.string ByteArray.empty)] h33 ∧
 C_stylus_Reader_Nat B p8 (1) h33 (fun i52 h51 =>
 ((i52 : Int) = 1 →
 C_stylus_Reader_Text B p8 (32) h51 (fun s54 h53 =>
 ∃ h55 : Heap, StoresAt ⟨k31, 1, none⟩ h53 0 [(.bool true), (.string s54)] h55 ∧
 Fin B h55 (fun h' => S_redo_Read_J2 B p8 i10 a18 n19 c20 i21 m23 J26 k31 h' Q))) ∧ (¬ ((i52 : Int) = 1) →
 Fin B h51 (fun h' => S_redo_Read_J2 B p8 i10 a18 n19 c20 i21 m23 J26 k31 h' Q))))) ∧ (¬ ((i28 : Int) > (0)) →
 Fin B h27 (fun h' => S_redo_Read_J1 B p8 i10 a18 n19 c20 h' Q)))))
def S_redo_Bytes (B : RO) (i1 : Int) (p2 : Option Addr) (h : Heap) (Q : ByteArray → Heap → Prop) : Prop :=
 ∀ k4 : Nat, h k4 = none → B k4 = none → ∀ h5 : Heap, h5 = Heap.set h k4 (.vec 106 (plains [(.slice none 0 0)]) 1) →
 ∀ k6 : Nat, h5 k6 = none → B k6 = none → ∀ h7 : Heap, h7 = Heap.set h5 k6 (.vec 103 (plains [(.pointer none)]) 1) →
 ∃ h8 : Heap, storeH h7 ⟨k6, 0, none⟩ (.pointer (some ⟨k4, 0, none⟩)) = some h8 ∧
 ∃ p9 : Option Addr, cellH B h8 ⟨k6, 0, none⟩ = some (.pointer p9) ∧
 ∀ k10 : Nat, h8 k10 = none → B k10 = none → ∀ h11 : Heap, h11 = Heap.set h8 k10 (.vec 3 (plains [(.int .i64 (i1))]) 1) →
 C_stylus_Stylus_Nat B p9 (some ⟨k10, 0, none⟩) 1 1 h11 (fun h12 =>
 C_draft_Draft_file_File_All B p2 h12 (fun v14 h13 =>
 ∃ (xs22 : List (Int × Bool × ByteArray)) (G18 : Heap → Prop) (J21 : Nat → Heap → Prop), Iter PG B v14 (xs22.map (fun x : Int × Bool × ByteArray => [(.int .i64 (x.1)), (.agg #[(.bool x.2.1), (.string x.2.2)])])) G18 ∧ Ins G18 ∧ (∀ i h, J21 i h → G18 h) ∧ Fin B h13 (J21 0) ∧
 (∀ (q20 : Nat) (h19 : Heap) (i15 : Int) (b16 : Bool) (s17 : ByteArray), xs22[q20]? = some (i15, b16, s17) → J21 q20 h19 →
 ∀ k23 : Nat, h19 k23 = none → B k23 = none → ∀ h24 : Heap, h24 = Heap.set h19 k23 (.vec 90 (plains [(.bool false), (.string ByteArray.empty)]) 2) →
 ∃ h25 : Heap, StoresAt ⟨k23, 0, none⟩ h24 0 [(.bool b16), (.string s17)] h25 ∧
 ∃ b26 : Bool, cellH B h25 ⟨k23, 0, none⟩ = some (.bool b26) ∧ (b26 = true →
 ∃ p31 : Option Addr, cellH B h25 ⟨k6, 0, none⟩ = some (.pointer p31) ∧
 ∀ k32 : Nat, h25 k32 = none → B k32 = none → ∀ h33 : Heap, h33 = Heap.set h25 k32 (.vec 3 (plains [(.int .i64 (i15)), (.int .i64 (1))]) 2) →
 C_stylus_Stylus_Nat B p31 (some ⟨k32, 0, none⟩) 2 2 h33 (fun h34 =>
 ∃ p35 : Option Addr, cellH B h34 ⟨k6, 0, none⟩ = some (.pointer p35) ∧
 ∃ s36 : ByteArray, cellH B h34 ⟨k23, 1, none⟩ = some (.string s36) ∧
 ∀ k37 : Nat, h34 k37 = none → B k37 = none → ∀ h38 : Heap, h38 = Heap.set h34 k37 (.vec 9 (plains [(.string s36)]) 1) →
 C_stylus_Stylus_Text B p35 (some ⟨k37, 0, none⟩) 1 1 h38 (fun h39 =>
 Fin B h39 (J21 (q20 + 1))))) ∧ (b26 = false →
 ∃ p27 : Option Addr, cellH B h25 ⟨k6, 0, none⟩ = some (.pointer p27) ∧
 ∀ k28 : Nat, h25 k28 = none → B k28 = none → ∀ h29 : Heap, h29 = Heap.set h25 k28 (.vec 3 (plains [(.int .i64 (i15)), (.int .i64 (0))]) 2) →
 C_stylus_Stylus_Nat B p27 (some ⟨k28, 0, none⟩) 2 2 h29 (fun h30 =>
 Fin B h30 (J21 (q20 + 1))))) ∧
 (∀ (h19 : Heap), J21 xs22.length h19 →
 ∃ p40 : Option Addr, cellH B h19 ⟨k6, 0, none⟩ = some (.pointer p40) ∧
 C_stylus_Stylus_Bytes B p40 h19 (fun s42 h41 =>
 Fin B h41 (Q s42)))))
def S_redo_Apply (B : RO) (p1 : Option Addr) (a2 : Option Addr) (n3 : Nat) (c4 : Nat) (i5 : Int) (h : Heap) (Q : Heap → Prop) : Prop :=
 ∃ (J11 : Int → Nat → Heap → Prop) (m9 : Nat), Fin B h (J11 (0) m9) ∧
 ∀ (i6 : Int) (m8 : Nat) (h7 : Heap), J11 i6 m8 h7 →
 ((i6 : Int) < ((n3 : Nat)) →
 ∃ A12 : Addr, a2 = some A12 ∧ 0 ≤ (i6 : Int) ∧ (i6 : Int) < (n3 : Nat) ∧
 ∃ i14 : Int, ∃ b15 : Bool, ∃ s16 : ByteArray, CellsAt B h7 (Addr.add A12 (Int.toNat (i6) * 3)) 0 [(.int .i64 (i14)), (.bool b15), (.string s16)] ∧
 ∀ k17 : Nat, h7 k17 = none → B k17 = none → ∀ h18 : Heap, h18 = Heap.set h7 k17 (.vec 92 (plains [(.int .i64 (0)), (.bool false), (.string ByteArray.empty)]) 3) →
 ∃ h19 : Heap, StoresAt ⟨k17, 0, none⟩ h18 0 [(.int .i64 (i14)), (.bool b15), (.string s16)] h19 ∧
 ∃ i20 : Int, cellH B h19 ⟨k17, 0, none⟩ = some (.int .i64 (i20)) ∧
 ∃ b21 : Bool, ∃ s22 : ByteArray, CellsAt B h19 ⟨k17, 1, none⟩ 0 [(.bool b21), (.string s22)] ∧
 C_tome_Tome_Set B p1 (i20) (b21) s22 (i5) h19 (fun b24 h23 =>
 Fin B h23 (fun h' => ∃ m', m' < m8 ∧ J11 (IntKind.wrap .i64 ((i6) + (1))) m' h'))) ∧ (¬ ((i6 : Int) < ((n3 : Nat))) →
 Fin B h7 (Q))
def S_world_World_View (B : RO) (p1 : Option Addr) (h : Heap) (Q : Option Addr → Heap → Prop) : Prop :=
 (p1 = none →
 Fin B h (Q none)) ∧ (¬ (p1 = none) →
 ∃ A4 : Addr, p1 = some A4 ∧
 ∃ p6 : Option Addr, cellH B h A4 = some (.pointer p6) ∧
 Fin B h (Q p6))
def S_world_World_Done (B : RO) (p1 : Option Addr) (h : Heap) (Q : Heap → Prop) : Prop :=
 (p1 = none →
 Fin B h (Q)) ∧ (¬ (p1 = none) →
 ∃ A3 : Addr, p1 = some A3 ∧
 ∃ i5 : Int, cellH B h (Addr.add A3 10) = some (.int .i64 (i5)) ∧
 ∃ A6 : Addr, p1 = some A6 ∧
 ∃ h8 : Heap, storeH h (Addr.add A6 10) (.int .i64 (IntKind.wrap .i64 ((i5) + (1)))) = some h8 ∧
 Fin B h8 (Q))
def S_countermandref18_Apply (B : RO) (l1 : List Value) (a2 : Option Addr) (n3 : Nat) (c4 : Nat) (h : Heap) (Q : List Value → Heap → Prop) : Prop :=
 ∀ k6 : Nat, h k6 = none → B k6 = none → ∀ h7 : Heap, h7 = Heap.set h k6 (.vec 33 (plains l1) (List.length l1)) →
 ∀ k8 : Nat, h7 k8 = none → B k8 = none → ∀ h9 : Heap, h9 = Heap.set h7 k8 (.vec 33 (plains [(.bool false), (.string ByteArray.empty), (.bool false), (.string ByteArray.empty), (.bool false), (.string ByteArray.empty), (.bool false), (.string ByteArray.empty), (.bool false), (.string ByteArray.empty), (.bool false), (.string ByteArray.empty)]) 12) →
 ∃ (J15 : Int → Nat → Heap → Prop) (m13 : Nat), Fin B h9 (J15 (0) m13) ∧
 ∀ (i10 : Int) (m12 : Nat) (h11 : Heap), J15 i10 m12 h11 →
 ((i10 : Int) < ((n3 : Nat)) →
 ∃ A16 : Addr, a2 = some A16 ∧ 0 ≤ (i10 : Int) ∧ (i10 : Int) < (n3 : Nat) ∧
 ∃ i18 : Int, ∃ b19 : Bool, ∃ s20 : ByteArray, CellsAt B h11 (Addr.add A16 (Int.toNat (i10) * 3)) 0 [(.int .i64 (i18)), (.bool b19), (.string s20)] ∧
 ∀ k21 : Nat, h11 k21 = none → B k21 = none → ∀ h22 : Heap, h22 = Heap.set h11 k21 (.vec 99 (plains [(.int .i64 (0)), (.bool false), (.string ByteArray.empty)]) 3) →
 ∃ h23 : Heap, StoresAt ⟨k21, 0, none⟩ h22 0 [(.int .i64 (i18)), (.bool b19), (.string s20)] h23 ∧
 ∃ i24 : Int, cellH B h23 ⟨k21, 0, none⟩ = some (.int .i64 (i24)) ∧
 ∃ b25 : Bool, ∃ s26 : ByteArray, CellsAt B h23 ⟨k21, 1, none⟩ 0 [(.bool b25), (.string s26)] ∧
 0 ≤ (i24 : Int) ∧ (i24 : Int) < (6 : Nat) ∧
 ∃ h27 : Heap, StoresAt (Addr.add ⟨k6, 0, none⟩ (Int.toNat (i24) * 2)) h23 0 [(.bool b25), (.string s26)] h27 ∧
 Fin B h27 (fun h' => ∃ m', m' < m12 ∧ J15 (IntKind.wrap .i64 ((i10) + (1))) m' h')) ∧ (¬ ((i10 : Int) < ((n3 : Nat))) →
 ∃ l28 : List Value, List.length l28 = 12 ∧ CellsAt B h11 ⟨k6, 0, none⟩ 0 l28 ∧
 List.length l28 = 12 ∧ ∃ h29 : Heap, StoresAt ⟨k8, 0, none⟩ h11 0 l28 h29 ∧
 ∃ l30 : List Value, List.length l30 = 12 ∧ CellsAt B h29 ⟨k8, 0, none⟩ 0 l30 ∧ Fin B h29 (Q l30))
def S_disk_Disk_Crash_J1 (B : RO) (p1 : Option Addr) (h6 : Heap) (Q : Heap → Prop) : Prop :=
 ∃ A7 : Addr, p1 = some A7 ∧
 ∃ h9 : Heap, storeH h6 (Addr.add A7 4) (.slice none 0 0) = some h9 ∧
 ∃ (J15 : Int → Nat → Heap → Prop) (m13 : Nat), Fin B h9 (J15 (0) m13) ∧
 ∀ (i10 : Int) (m12 : Nat) (h11 : Heap), J15 i10 m12 h11 →
 ((i10 : Int) < (2) →
 ∃ A16 : Addr, p1 = some A16 ∧
 0 ≤ (i10 : Int) ∧ (i10 : Int) < (2 : Nat) ∧
 ∃ s18 : ByteArray, cellH B h11 (Addr.add (Addr.add A16 (Int.toNat (i10) * 2)) 1) = some (.string s18) ∧
 ∃ A19 : Addr, p1 = some A19 ∧
 0 ≤ (i10 : Int) ∧ (i10 : Int) < (2 : Nat) ∧
 ∃ h21 : Heap, storeH h11 (Addr.add A19 (Int.toNat (i10) * 2)) (.string s18) = some h21 ∧
 Fin B h21 (fun h' => ∃ m', m' < m12 ∧ J15 (IntKind.wrap .i64 ((i10) + (1))) m' h')) ∧ (¬ ((i10 : Int) < (2)) →
 Fin B h11 (Q))
def S_disk_Disk_Crash (B : RO) (p1 : Option Addr) (i2 : Int) (i3 : Int) (h : Heap) (Q : Heap → Prop) : Prop :=
 (p1 = none →
 Fin B h (Q)) ∧ (¬ (p1 = none) →
 ∃ A22 : Addr, p1 = some A22 ∧
 LdSl B h (Addr.add A22 4) fun a24 n25 c26 h27 =>
 ∃ (J33 : Int → Nat → Heap → Prop) (m31 : Nat), Fin B h27 (J33 (0) m31) ∧
 ∀ (i28 : Int) (m30 : Nat) (h29 : Heap), J33 i28 m30 h29 →
 ((i28 : Int) < ((n25 : Nat)) →
 ∃ A34 : Addr, a24 = some A34 ∧ 0 ≤ (i28 : Int) ∧ (i28 : Int) < (n25 : Nat) ∧
 ∃ i36 : Int, ∃ b37 : Bool, ∃ s38 : ByteArray, CellsAt B h29 (Addr.add A34 (Int.toNat (i28) * 3)) 0 [(.int .i64 (i36)), (.bool b37), (.string s38)] ∧
 ∀ k39 : Nat, h29 k39 = none → B k39 = none → ∀ h40 : Heap, h40 = Heap.set h29 k39 (.vec 112 (plains [(.int .i64 (0)), (.bool false), (.string ByteArray.empty)]) 3) →
 ∃ h41 : Heap, StoresAt ⟨k39, 0, none⟩ h40 0 [(.int .i64 (i36)), (.bool b37), (.string s38)] h41 ∧
 ((i28 : Int) ≥ (i2) →
 ∃ b42 : Bool, cellH B h41 ⟨k39, 1, none⟩ = some (.bool b42) ∧ (b42 = true →
 Fin B h41 (fun h' => S_disk_Disk_Crash_J1 B p1 h' Q)) ∧ (b42 = false →
 ∃ s43 : ByteArray, cellH B h41 ⟨k39, 2, none⟩ = some (.string s43) ∧
 ∃ s44 : ByteArray, cellH B h41 ⟨k39, 2, none⟩ = some (.string s44) ∧
 0 ≤ (0 : Int) ∧ (0 : Int) ≤ (if ((ByteArray.size s44 : Nat) : Int) < (if (0 : Int) > (i3) then (0 : Int) else (i3)) then ((ByteArray.size s44 : Nat) : Int) else (if (0 : Int) > (i3) then (0 : Int) else (i3)) : Int) ∧ (if ((ByteArray.size s44 : Nat) : Int) < (if (0 : Int) > (i3) then (0 : Int) else (i3)) then ((ByteArray.size s44 : Nat) : Int) else (if (0 : Int) > (i3) then (0 : Int) else (i3)) : Int) ≤ (ByteArray.size s43 : Nat) ∧
 ∃ h45 : Heap, storeH h41 ⟨k39, 2, none⟩ (.string (ByteArray.extract s43 (Int.toNat (0)) (Int.toNat (if ((ByteArray.size s44 : Nat) : Int) < (if (0 : Int) > (i3) then (0 : Int) else (i3)) then ((ByteArray.size s44 : Nat) : Int) else (if (0 : Int) > (i3) then (0 : Int) else (i3)))))) = some h45 ∧
 ∃ i46 : Int, ∃ b47 : Bool, ∃ s48 : ByteArray, CellsAt B h45 ⟨k39, 0, none⟩ 0 [(.int .i64 (i46)), (.bool b47), (.string s48)] ∧
 C_disk_Disk_land B p1 (i46) (b47) s48 h45 (fun h49 =>
 Fin B h49 (fun h' => S_disk_Disk_Crash_J1 B p1 h' Q)))) ∧ (¬ ((i28 : Int) ≥ (i2)) →
 ∃ i50 : Int, ∃ b51 : Bool, ∃ s52 : ByteArray, CellsAt B h41 ⟨k39, 0, none⟩ 0 [(.int .i64 (i50)), (.bool b51), (.string s52)] ∧
 C_disk_Disk_land B p1 (i50) (b51) s52 h41 (fun h53 =>
 Fin B h53 (fun h' => ∃ m', m' < m30 ∧ J33 (IntKind.wrap .i64 ((i28) + (1))) m' h')))) ∧ (¬ ((i28 : Int) < ((n25 : Nat))) →
 Fin B h29 (fun h' => S_disk_Disk_Crash_J1 B p1 h' Q)))
def S_world_World_Blocks (B : RO) (p1 : Option Addr) (h : Heap) (Q : Int → Heap → Prop) : Prop :=
 (p1 = none →
 Fin B h (Q (0))) ∧ (¬ (p1 = none) →
 ∃ A4 : Addr, p1 = some A4 ∧
 ∃ i6 : Int, cellH B h (Addr.add A4 10) = some (.int .i64 (i6)) ∧
 Fin B h (Q (i6)))
def S_countermandlaw21_are (B : RO) (p1 : Option Addr) (l2 : List Value) (h : Heap) (Q : Bool → Heap → Prop) : Prop :=
 ∀ k4 : Nat, h k4 = none → B k4 = none → ∀ h5 : Heap, h5 = Heap.set h k4 (.vec 33 (plains l2) (List.length l2)) →
 ∃ l6 : List Value, List.length l6 = 12 ∧ CellsAt B h5 ⟨k4, 0, none⟩ 0 l6 ∧
 ∃ (J12 : Int → Nat → Heap → Prop) (m10 : Nat), Fin B h5 (J12 (0) m10) ∧
 ∀ (i7 : Int) (m9 : Nat) (h8 : Heap), J12 i7 m9 h8 →
 ((i7 : Int) < (6) →
 0 ≤ (i7 : Int) ∧ (i7 : Int) < (6 : Nat) ∧ ∃ b13 : Bool, ∃ s14 : ByteArray, Array.extract (List.toArray l6) (Int.toNat (i7) * 2) (Int.toNat (i7) * 2 + 2) = #[(.bool b13), (.string s14)] ∧
 ∀ k15 : Nat, h8 k15 = none → B k15 = none → ∀ h16 : Heap, h16 = Heap.set h8 k15 (.vec 32 (plains [(.bool false), (.string ByteArray.empty)]) 2) →
 ∃ h17 : Heap, StoresAt ⟨k15, 0, none⟩ h16 0 [(.bool b13), (.string s14)] h17 ∧
 C_world_World_View B p1 h17 (fun p19 h18 =>
 ∃ A20 : Addr, p19 = some A20 ∧
 ∃ p22 : Option Addr, cellH B h18 (Addr.add A20 1) = some (.pointer p22) ∧
 C_tome_Tome_Get B p22 (i7) h18 (fun b24 s25 i26 h23 =>
 ∀ k27 : Nat, h23 k27 = none → B k27 = none → ∀ h28 : Heap, h28 = Heap.set h23 k27 (.vec 90 (plains [(.bool false), (.string ByteArray.empty)]) 2) →
 ∃ h29 : Heap, StoresAt ⟨k27, 0, none⟩ h28 0 [(.bool b24), (.string s25)] h29 ∧
 ∃ b30 : Bool, ∃ s31 : ByteArray, CellsAt B h29 ⟨k27, 0, none⟩ 0 [(.bool b30), (.string s31)] ∧
 ∃ b32 : Bool, ∃ s33 : ByteArray, CellsAt B h29 ⟨k15, 0, none⟩ 0 [(.bool b32), (.string s33)] ∧
 (eqL [(.bool b30), (.string s31)] [(.bool b32), (.string s33)] = true →
 Fin B h29 (fun h' => ∃ m', m' < m9 ∧ J12 (IntKind.wrap .i64 ((i7) + (1))) m' h')) ∧ (¬ (eqL [(.bool b30), (.string s31)] [(.bool b32), (.string s33)] = true) →
 Fin B h29 (Q (false)))))) ∧ (¬ ((i7 : Int) < (6)) →
 Fin B h8 (Q (true)))
def S_disk_Disk_Read_J1 (B : RO) (p1 : Option Addr) (i2 : Int) (h5 : Heap) (Q : ByteArray → Heap → Prop) : Prop :=
 ∃ A6 : Addr, p1 = some A6 ∧
 0 ≤ (i2 : Int) ∧ (i2 : Int) < (2 : Nat) ∧
 ∃ s8 : ByteArray, cellH B h5 (Addr.add A6 (Int.toNat (i2) * 2)) = some (.string s8) ∧
 Fin B h5 (Q s8)
def S_disk_Disk_Read (B : RO) (p1 : Option Addr) (i2 : Int) (h : Heap) (Q : ByteArray → Heap → Prop) : Prop :=
 (p1 = none →
 Fin B h (Q (ByteArray.mk #[]))) ∧ (¬ (p1 = none) →
 C_disk_good B (i2) h (fun b11 h10 =>
 (b11 = true →
 Fin B h10 (fun h' => S_disk_Disk_Read_J1 B p1 i2 h' Q)) ∧ (b11 = false →
 Fin B h10 (Q (ByteArray.mk #[])))))
def S_world_World_Add_J1 (B : RO) (p1 : Option Addr) (a2 : Option Addr) (n3 : Nat) (c4 : Nat) (i6 : Int) (m8 : Nat) (J11 : Int → Nat → Heap → Prop) (k16 : Nat) (b20 : Bool) (h21 : Heap) (Q : Heap → Prop) : Prop :=
 (b20 = true →
 ∃ i22 : Int, cellH B h21 ⟨k16, 0, none⟩ = some (.int .i64 (i22)) ∧
 ∃ A23 : Addr, p1 = some A23 ∧
 0 ≤ (i22 : Int) ∧ (i22 : Int) < (4 : Nat) ∧
 ∃ i25 : Int, cellH B h21 (Addr.add (Addr.add A23 5) (Int.toNat (i22) * 1)) = some (.int .i64 (i25)) ∧
 ∃ i26 : Int, cellH B h21 ⟨k16, 1, none⟩ = some (.int .i64 (i26)) ∧
 ∃ A27 : Addr, p1 = some A27 ∧
 0 ≤ (i22 : Int) ∧ (i22 : Int) < (4 : Nat) ∧
 ∃ h29 : Heap, storeH h21 (Addr.add (Addr.add A27 5) (Int.toNat (i22) * 1)) (.int .i64 (IntKind.wrap .i64 ((i25) + (i26)))) = some h29 ∧
 Fin B h29 (fun h' => ∃ m', m' < m8 ∧ J11 (IntKind.wrap .i64 ((i6) + (1))) m' h')) ∧ (b20 = false →
 Fin B h21 (fun h' => ∃ m', m' < m8 ∧ J11 (IntKind.wrap .i64 ((i6) + (1))) m' h'))
def S_world_World_Add (B : RO) (p1 : Option Addr) (a2 : Option Addr) (n3 : Nat) (c4 : Nat) (h : Heap) (Q : Heap → Prop) : Prop :=
 (p1 = none →
 Fin B h (Q)) ∧ (¬ (p1 = none) →
 ∃ (J11 : Int → Nat → Heap → Prop) (m9 : Nat), Fin B h (J11 (0) m9) ∧
 ∀ (i6 : Int) (m8 : Nat) (h7 : Heap), J11 i6 m8 h7 →
 ((i6 : Int) < ((n3 : Nat)) →
 ∃ A12 : Addr, a2 = some A12 ∧ 0 ≤ (i6 : Int) ∧ (i6 : Int) < (n3 : Nat) ∧
 ∃ i14 : Int, ∃ i15 : Int, CellsAt B h7 (Addr.add A12 (Int.toNat (i6) * 2)) 0 [(.int .i64 (i14)), (.int .i64 (i15))] ∧
 ∀ k16 : Nat, h7 k16 = none → B k16 = none → ∀ h17 : Heap, h17 = Heap.set h7 k16 (.vec 59 (plains [(.int .i64 (0)), (.int .i64 (0))]) 2) →
 ∃ h18 : Heap, StoresAt ⟨k16, 0, none⟩ h17 0 [(.int .i64 (i14)), (.int .i64 (i15))] h18 ∧
 ∃ i30 : Int, cellH B h18 ⟨k16, 0, none⟩ = some (.int .i64 (i30)) ∧
 ((i30 : Int) ≥ (0) →
 ∃ i31 : Int, cellH B h18 ⟨k16, 0, none⟩ = some (.int .i64 (i31)) ∧
 ((i31 : Int) < (4) →
 Fin B h18 (fun h' => S_world_World_Add_J1 B p1 a2 n3 c4 i6 m8 J11 k16 (true) h' Q)) ∧ (¬ ((i31 : Int) < (4)) →
 Fin B h18 (fun h' => S_world_World_Add_J1 B p1 a2 n3 c4 i6 m8 J11 k16 (false) h' Q))) ∧ (¬ ((i30 : Int) ≥ (0)) →
 Fin B h18 (fun h' => S_world_World_Add_J1 B p1 a2 n3 c4 i6 m8 J11 k16 (false) h' Q))) ∧ (¬ ((i6 : Int) < ((n3 : Nat))) →
 Fin B h7 (Q)))
def S_world_World_Tallies (B : RO) (p1 : Option Addr) (h : Heap) (Q : Int → Int → Int → Int → Heap → Prop) : Prop :=
 ∀ k6 : Nat, h k6 = none → B k6 = none → ∀ h7 : Heap, h7 = Heap.set h k6 (.vec 60 (plains [(.int .i64 (0)), (.int .i64 (0)), (.int .i64 (0)), (.int .i64 (0))]) 4) →
 (p1 = none →
 ∃ h9 : Heap, StoresAt ⟨k6, 0, none⟩ h7 0 [(.int .i64 (0)), (.int .i64 (0)), (.int .i64 (0)), (.int .i64 (0))] h9 ∧
 ∃ i10 : Int, ∃ i11 : Int, ∃ i12 : Int, ∃ i13 : Int, CellsAt B h9 ⟨k6, 0, none⟩ 0 [(.int .i64 (i10)), (.int .i64 (i11)), (.int .i64 (i12)), (.int .i64 (i13))] ∧ Fin B h9 (Q (i10) (i11) (i12) (i13))) ∧ (¬ (p1 = none) →
 ∃ A14 : Addr, p1 = some A14 ∧
 ∃ i16 : Int, ∃ i17 : Int, ∃ i18 : Int, ∃ i19 : Int, CellsAt B h7 (Addr.add A14 5) 0 [(.int .i64 (i16)), (.int .i64 (i17)), (.int .i64 (i18)), (.int .i64 (i19))] ∧
 ∃ h20 : Heap, StoresAt ⟨k6, 0, none⟩ h7 0 [(.int .i64 (i16)), (.int .i64 (i17)), (.int .i64 (i18)), (.int .i64 (i19))] h20 ∧
 ∃ i21 : Int, ∃ i22 : Int, ∃ i23 : Int, ∃ i24 : Int, CellsAt B h20 ⟨k6, 0, none⟩ 0 [(.int .i64 (i21)), (.int .i64 (i22)), (.int .i64 (i23)), (.int .i64 (i24))] ∧ Fin B h20 (Q (i21) (i22) (i23) (i24)))
def S_vault_Open_J1 (B : RO) (p1 : Option Addr) (k8 : Nat) (k16 : Nat) (k18 : Nat) (i20 : Int) (m22 : Nat) (J25 : Int → Nat → Heap → Prop) (p27 : Option Addr) (i30 : Int) (k35 : Nat) (b39 : Bool) (h40 : Heap) (Q : Option Addr → ByteArray → Option Addr → Nat → Nat → Int → Heap → Prop) : Prop :=
 (b39 = true →
 ∃ s45 : ByteArray, ∃ a46 : Option Addr, ∃ n47 : Nat, ∃ c48 : Nat, CellsAt B h40 ⟨k35, 0, none⟩ 0 [(.string s45), (.slice a46 n47 c48)] ∧
 ∃ h52 : Heap, storeH h40 ⟨k16, 1, none⟩ (.pointer p27) = some h52 ∧
 CellsAt B h52 ⟨k35, 0, none⟩ 0 [(.string s45), (.slice a46 n47 c48)] ∧
 ∃ h54 : Heap, storeH h52 ⟨k16, 2, none⟩ (.int .i64 (i30)) = some h54 ∧
 CellsAt B h54 ⟨k35, 0, none⟩ 0 [(.string s45), (.slice a46 n47 c48)] ∧
 ∃ h56 : Heap, StoresAt ⟨k18, 0, none⟩ h54 0 [(.string s45), (.slice a46 n47 c48)] h56 ∧
 Fin B h56 (fun h' => ∃ m', m' < m22 ∧ J25 (IntKind.wrap .i64 ((i20) + (1))) m' h')) ∧ (b39 = false →
 Fin B h40 (fun h' => ∃ m', m' < m22 ∧ J25 (IntKind.wrap .i64 ((i20) + (1))) m' h'))
def S_vault_Open (B : RO) (p1 : Option Addr) (h : Heap) (Q : Option Addr → ByteArray → Option Addr → Nat → Nat → Int → Heap → Prop) : Prop :=
 ∀ k8 : Nat, h k8 = none → B k8 = none → ∀ h9 : Heap, h9 = Heap.set h k8 (.vec 71 (plains [(.string ByteArray.empty), (.slice none 0 0)]) 2) →
 (p1 = none →
 ∃ h11 : Heap, StoresAt ⟨k8, 0, none⟩ h9 0 [(.string ByteArray.empty), (.slice none 0 0)] h11 ∧
 ∃ s12 : ByteArray, ∃ a13 : Option Addr, ∃ n14 : Nat, ∃ c15 : Nat, CellsAt B h11 ⟨k8, 0, none⟩ 0 [(.string s12), (.slice a13 n14 c15)] ∧ Fin B h11 (Q none s12 a13 n14 c15 (2))) ∧ (¬ (p1 = none) →
 ∀ k16 : Nat, h9 k16 = none → B k16 = none → ∀ h17 : Heap, h17 = Heap.set h9 k16 (.vec 120 (plains [(.pointer p1), (.pointer none), (.int .i64 (0)), (.bool false)]) 4) →
 ∀ k18 : Nat, h17 k18 = none → B k18 = none → ∀ h19 : Heap, h19 = Heap.set h17 k18 (.vec 71 (plains [(.string ByteArray.empty), (.slice none 0 0)]) 2) →
 ∃ (J25 : Int → Nat → Heap → Prop) (m23 : Nat), Fin B h19 (J25 (0) m23) ∧
 ∀ (i20 : Int) (m22 : Nat) (h21 : Heap), J25 i20 m22 h21 →
 ((i20 : Int) < (2) →
 C_wal_Open B p1 (i20) h21 (fun p27 i28 h26 =>
 C_vault_look B p27 h26 (fun i30 s31 a32 n33 c34 h29 =>
 ∀ k35 : Nat, h29 k35 = none → B k35 = none → ∀ h36 : Heap, h36 = Heap.set h29 k35 (.vec 71 (plains [(.string ByteArray.empty), (.slice none 0 0)]) 2) →
 ∃ h37 : Heap, StoresAt ⟨k35, 0, none⟩ h36 0 [(.string s31), (.slice a32 n33 c34)] h37 ∧
 ∃ p57 : Option Addr, cellH B h37 ⟨k16, 1, none⟩ = some (.pointer p57) ∧
 (p57 = none →
 Fin B h37 (fun h' => S_vault_Open_J1 B p1 k8 k16 k18 i20 m22 J25 p27 i30 k35 (true) h' Q)) ∧ (¬ (p57 = none) →
 ∃ i59 : Int, cellH B h37 ⟨k16, 2, none⟩ = some (.int .i64 (i59)) ∧
 ((i30 : Int) > (i59) →
 Fin B h37 (fun h' => S_vault_Open_J1 B p1 k8 k16 k18 i20 m22 J25 p27 i30 k35 (true) h' Q)) ∧ (¬ ((i30 : Int) > (i59)) →
 Fin B h37 (fun h' => S_vault_Open_J1 B p1 k8 k16 k18 i20 m22 J25 p27 i30 k35 (false) h' Q)))))) ∧ (¬ ((i20 : Int) < (2)) →
 ∃ s61 : ByteArray, ∃ a62 : Option Addr, ∃ n63 : Nat, ∃ c64 : Nat, CellsAt B h21 ⟨k18, 0, none⟩ 0 [(.string s61), (.slice a62 n63 c64)] ∧
 ∃ h67 : Heap, StoresAt ⟨k8, 0, none⟩ h21 0 [(.string s61), (.slice a62 n63 c64)] h67 ∧
 CellsAt B h67 ⟨k18, 0, none⟩ 0 [(.string s61), (.slice a62 n63 c64)] ∧
 ∃ s69 : ByteArray, ∃ a70 : Option Addr, ∃ n71 : Nat, ∃ c72 : Nat, CellsAt B h67 ⟨k8, 0, none⟩ 0 [(.string s69), (.slice a70 n71 c72)] ∧ Fin B h67 (Q (some ⟨k16, 0, none⟩) s69 a70 n71 c72 (0))))
def S_world_read (B : RO) (s1 : ByteArray) (h : Heap) (Q : Int → Option Addr → Bool → Heap → Prop) : Prop :=
 (s1 = (ByteArray.mk #[]) →
 C_tome_New B h (fun p7 h6 =>
 Fin B h6 (Q (0) p7 (true)))) ∧ (¬ (s1 = (ByteArray.mk #[])) →
 C_stylus_Of B s1 h (fun p9 h8 =>
 C_stylus_Reader_Nat B p9 (1099511627776) h8 (fun i11 h10 =>
 C_stylus_Reader_Bad B p9 h10 (fun b13 h12 =>
 (b13 = true →
 Fin B h12 (Q (0) none (false))) ∧ (b13 = false →
 C_stylus_Reader_Left B p9 h12 (fun i15 h14 =>
 C_stylus_Reader_Raw B p9 (i15) h14 (fun s17 h16 =>
 C_tome_Read B s17 h16 (fun p19 b20 h18 =>
 Fin B h18 (Q (i11) p19 (b20))))))))))
def S_redo_Replay (B : RO) (p1 : Option Addr) (a2 : Option Addr) (n3 : Nat) (c4 : Nat) (h : Heap) (Q : Int → Int → Heap → Prop) : Prop :=
 ∃ (J13 : Int → Int → Nat → Heap → Prop) (m11 : Nat), Fin B h (J13 (0) (0) m11) ∧
 ∀ (i7 : Int) (i8 : Int) (m10 : Nat) (h9 : Heap), J13 i7 i8 m10 h9 →
 ((i8 : Int) < ((n3 : Nat)) →
 ∃ A14 : Addr, a2 = some A14 ∧ 0 ≤ (i8 : Int) ∧ (i8 : Int) < (n3 : Nat) ∧
 ∃ s16 : ByteArray, cellH B h9 (Addr.add A14 (Int.toNat (i8) * 1)) = some (.string s16) ∧
 C_redo_Read B s16 h9 (fun i18 a19 n20 c21 b22 h17 =>
 (b22 = true →
 C_redo_Apply B p1 a19 n20 c21 (0) h17 (fun h23 =>
 Fin B h23 (fun h' => ∃ m', m' < m10 ∧ J13 (if (i18 : Int) > (i7) then (i18 : Int) else (i7)) (IntKind.wrap .i64 ((i8) + (1))) m' h'))) ∧ (b22 = false →
 Fin B h17 (Q (i7) (i8))))) ∧ (¬ ((i8 : Int) < ((n3 : Nat))) →
 Fin B h9 (Q (i7) ((n3 : Nat))))
def S_vault_Vault_Settle_J1 (B : RO) (p1 : Option Addr) (s2 : ByteArray) (h5 : Heap) (Q : Int → Heap → Prop) : Prop :=
 ∀ k6 : Nat, h5 k6 = none → B k6 = none → ∀ h7 : Heap, h7 = Heap.set h5 k6 (.vec 106 (plains [(.slice none 0 0)]) 1) →
 ∃ A8 : Addr, p1 = some A8 ∧
 ∃ i10 : Int, cellH B h7 (Addr.add A8 2) = some (.int .i64 (i10)) ∧
 ∀ k11 : Nat, h7 k11 = none → B k11 = none → ∀ h12 : Heap, h12 = Heap.set h7 k11 (.vec 3 (plains [(.int .i64 (0)), (.int .i64 (IntKind.wrap .i64 ((i10) + (1))))]) 2) →
 C_stylus_Stylus_Nat B (some ⟨k6, 0, none⟩) (some ⟨k11, 0, none⟩) 2 2 h12 (fun h13 =>
 C_stylus_Stylus_Raw B (some ⟨k6, 0, none⟩) s2 h13 (fun h14 =>
 C_stylus_Stylus_Bytes B (some ⟨k6, 0, none⟩) h14 (fun s16 h15 =>
 (((ByteArray.size s16 : Nat) : Int) > (1024) →
 Fin B h15 (Q (3))) ∧ (¬ (((ByteArray.size s16 : Nat) : Int) > (1024)) →
 ∃ A17 : Addr, p1 = some A17 ∧
 ∃ p19 : Option Addr, cellH B h15 (Addr.add A17 1) = some (.pointer p19) ∧
 ∃ A21 : Addr, p1 = some A21 ∧
 ∃ p25 : Option Addr, cellH B h15 A21 = some (.pointer p25) ∧
 C_wal_Log_Area B p19 h15 (fun i29 h28 =>
 cellH B h28 A21 = some (.pointer p25) ∧
 C_wal_Open B p25 (IntKind.wrap .i64 ((1) - (i29))) h28 (fun p32 i33 h31 =>
 cellH B h31 A21 = some (.pointer p25) ∧
 C_wal_Log_Clear B p32 h31 (fun h35 =>
 C_wal_Log_Force B p32 h35 (fun h36 =>
 C_stylus_Stylus_Bytes B (some ⟨k6, 0, none⟩) h36 (fun s38 h37 =>
 C_wal_Log_Append B p32 s38 h37 (fun i40 h39 =>
 C_wal_Log_Force B p32 h39 (fun h41 =>
 C_wal_Log_Clear B p19 h41 (fun h42 =>
 C_wal_Log_Force B p19 h42 (fun h43 =>
 ∃ A44 : Addr, p1 = some A44 ∧
 ∃ i46 : Int, cellH B h43 (Addr.add A44 2) = some (.int .i64 (i46)) ∧
 ∃ A47 : Addr, p1 = some A47 ∧
 ∃ h49 : Heap, storeH h43 (Addr.add A47 1) (.pointer p32) = some h49 ∧
 ∃ A50 : Addr, p1 = some A50 ∧
 ∃ h52 : Heap, storeH h49 (Addr.add A50 2) (.int .i64 (IntKind.wrap .i64 ((i46) + (1)))) = some h52 ∧
 ∃ A53 : Addr, p1 = some A53 ∧
 ∃ h55 : Heap, storeH h52 (Addr.add A53 3) (.bool true) = some h55 ∧
 Fin B h55 (Q (0)))))))))))))))
def S_vault_Vault_Settle (B : RO) (p1 : Option Addr) (s2 : ByteArray) (h : Heap) (Q : Int → Heap → Prop) : Prop :=
 (p1 = none →
 Fin B h (Q (2))) ∧ (¬ (p1 = none) →
 ∃ A57 : Addr, p1 = some A57 ∧
 ∃ i59 : Int, cellH B h (Addr.add A57 2) = some (.int .i64 (i59)) ∧
 ((i59 : Int) ≥ (1099511627776) →
 Fin B h (Q (6))) ∧ (¬ ((i59 : Int) ≥ (1099511627776)) →
 Fin B h (fun h' => S_vault_Vault_Settle_J1 B p1 s2 h' Q)))
def S_world_image (B : RO) (i1 : Int) (p2 : Option Addr) (h : Heap) (Q : ByteArray → Heap → Prop) : Prop :=
 ∀ k4 : Nat, h k4 = none → B k4 = none → ∀ h5 : Heap, h5 = Heap.set h k4 (.vec 106 (plains [(.slice none 0 0)]) 1) →
 ∀ k6 : Nat, h5 k6 = none → B k6 = none → ∀ h7 : Heap, h7 = Heap.set h5 k6 (.vec 3 (plains [(.int .i64 (i1))]) 1) →
 C_stylus_Stylus_Nat B (some ⟨k4, 0, none⟩) (some ⟨k6, 0, none⟩) 1 1 h7 (fun h8 =>
 C_tome_Tome_Bytes B p2 h8 (fun s10 h9 =>
 C_stylus_Stylus_Raw B (some ⟨k4, 0, none⟩) s10 h9 (fun h11 =>
 C_stylus_Stylus_Bytes B (some ⟨k4, 0, none⟩) h11 (fun s13 h12 =>
 Fin B h12 (Q s13)))))
def S_attempt_NewView (B : RO) (h : Heap) (Q : Option Addr → Heap → Prop) : Prop :=
 C_cell_New_int B (8) (0) h (fun p3 h2 =>
 C_tome_New B h2 (fun p5 h4 =>
 C_feed_New B h4 (fun p7 h6 =>
 ∀ k8 : Nat, h6 k8 = none → B k8 = none → ∀ h9 : Heap, h9 = Heap.set h6 k8 (.vec 47 (plains [(.pointer p3), (.pointer p5), (.pointer p7), (.int .i64 (0))]) 4) →
 Fin B h9 (Q (some ⟨k8, 0, none⟩)))))
def S_wire_New (B : RO) (h : Heap) (Q : Option Addr → Heap → Prop) : Prop :=
 ∀ k2 : Nat, h k2 = none → B k2 = none → ∀ h3 : Heap, h3 = Heap.set h k2 (.vec 135 (plains [(.string ByteArray.empty), (.string ByteArray.empty), (.string ByteArray.empty), (.string ByteArray.empty), (.string ByteArray.empty), (.string ByteArray.empty), (.string ByteArray.empty), (.string ByteArray.empty), (.string ByteArray.empty)]) 9) →
 Fin B h3 (Q (some ⟨k2, 0, none⟩))
def S_token_New (B : RO) (h : Heap) (Q : Option Addr → Heap → Prop) : Prop :=
 ∀ k2 : Nat, h k2 = none → B k2 = none → ∀ h3 : Heap, h3 = Heap.set h k2 (.vec 137 (plains [(.int .i64 ((-1))), (.bool false), (.int .i64 ((-1)))]) 3) →
 Fin B h3 (Q (some ⟨k2, 0, none⟩))
def S_file_Good (B : RO) (b1 : Bool) (s2 : ByteArray) (h : Heap) (Q : Bool → Heap → Prop) : Prop :=
 ∀ k4 : Nat, h k4 = none → B k4 = none → ∀ h5 : Heap, h5 = Heap.set h k4 (.vec 90 (plains [(.bool b1), (.string s2)]) 2) →
 ∃ s6 : ByteArray, cellH B h5 ⟨k4, 1, none⟩ = some (.string s6) ∧
 (((ByteArray.size s6 : Nat) : Int) ≤ (32) →
 ∃ b7 : Bool, cellH B h5 ⟨k4, 0, none⟩ = some (.bool b7) ∧ (b7 = true →
 Fin B h5 (Q (true))) ∧ (b7 = false →
 ∃ s8 : ByteArray, cellH B h5 ⟨k4, 1, none⟩ = some (.string s8) ∧
 Fin B h5 (Q ((decide (s8 = (ByteArray.mk #[]))))))) ∧ (¬ (((ByteArray.size s6 : Nat) : Int) ≤ (32)) →
 Fin B h5 (Q (false)))
def S_draft_Draft_file_File_Put (B : RO) (p1 : Option Addr) (i2 : Int) (b3 : Bool) (s4 : ByteArray) (h : Heap) (Q : Bool → Heap → Prop) : Prop :=
 ∀ k6 : Nat, h k6 = none → B k6 = none → ∀ h7 : Heap, h7 = Heap.set h k6 (.vec 90 (plains [(.bool b3), (.string s4)]) 2) →
 (p1 = none →
 Fin B h7 (Q (false))) ∧ (¬ (p1 = none) →
 C_draft_Draft_file_File_find B p1 (i2) h7 (fun i10 b11 h9 =>
 (b11 = true →
 ∃ A41 : Addr, p1 = some A41 ∧
 ∃ a43 : Option Addr, ∃ n44 : Nat, ∃ c45 : Nat, cellH B h9 A41 = some (.slice a43 n44 c45) ∧
 ∃ b46 : Bool, ∃ s47 : ByteArray, CellsAt B h9 ⟨k6, 0, none⟩ 0 [(.bool b46), (.string s47)] ∧
 ∃ A48 : Addr, a43 = some A48 ∧ 0 ≤ (i10 : Int) ∧ (i10 : Int) < (n44 : Nat) ∧
 ∃ h50 : Heap, StoresAt (Addr.add (Addr.add A48 (Int.toNat (i10) * 3)) 1) h9 0 [(.bool b46), (.string s47)] h50 ∧
 Fin B h50 (Q (true))) ∧ (b11 = false →
 ∃ A14 : Addr, p1 = some A14 ∧
 ∃ a18 : Option Addr, ∃ n19 : Nat, ∃ c20 : Nat, cellH B h9 A14 = some (.slice a18 n19 c20) ∧
 ∃ b24 : Bool, ∃ s25 : ByteArray, CellsAt B h9 ⟨k6, 0, none⟩ 0 [(.bool b24), (.string s25)] ∧
 ∀ k28 : Nat, h9 k28 = none → B k28 = none → ∀ h29 : Heap, h29 = Heap.set h9 k28 (.vec 141 (plains [(.int .i64 (i2)), (.bool b24), (.string s25)]) 3) →
 cellH B h29 A14 = some (.slice a18 n19 c20) ∧ CellsAt B h29 ⟨k6, 0, none⟩ 0 [(.bool b24), (.string s25)] ∧
 C_slices_Insert_s_draft_entry_file_File_draft_entry_file_File B a18 n19 c20 (i10) (some ⟨k28, 0, none⟩) 1 1 h29 (fun a33 n34 c35 h32 =>
 cellH B h32 A14 = some (.slice a18 n19 c20) ∧ CellsAt B h32 ⟨k6, 0, none⟩ 0 [(.bool b24), (.string s25)] ∧
 ∃ A38 : Addr, p1 = some A38 ∧
 ∃ h40 : Heap, storeH h32 A38 (.slice a33 n34 c35) = some h40 ∧
 Fin B h40 (Q (true))))))
def S_draft_Draft_file_File_All (B : RO) (p1 : Option Addr) (h : Heap) (Q : Value → Heap → Prop) : Prop :=
 ∀ k3 : Nat, h k3 = none → B k3 = none → ∀ h4 : Heap, h4 = Heap.set h k3 (.vec 34 [.plain (.pointer p1)] 1) →
 Fin B h4 (Q (Value.func (.func 64) #[] #[(.pointer (some ⟨k3, 0, none⟩))]))
def S_vault_Vault_Size (B : RO) (p1 : Option Addr) (h : Heap) (Q : Int → Heap → Prop) : Prop :=
 (p1 = none →
 Fin B h (Q (0))) ∧ (¬ (p1 = none) →
 ∃ A4 : Addr, p1 = some A4 ∧
 ∃ p6 : Option Addr, cellH B h (Addr.add A4 1) = some (.pointer p6) ∧
 C_wal_Log_Size B p6 h (fun i8 h7 =>
 Fin B h7 (Q (i8))))
def S_vault_Vault_Append_J1 (B : RO) (p1 : Option Addr) (s2 : ByteArray) (h5 : Heap) (Q : Int → Heap → Prop) : Prop :=
 ∃ A7 : Addr, p1 = some A7 ∧
 ∃ p11 : Option Addr, cellH B h5 (Addr.add A7 1) = some (.pointer p11) ∧
 ∀ k14 : Nat, h5 k14 = none → B k14 = none → ∀ h15 : Heap, h15 = Heap.set h5 k14 (.vec 5 (plains [(.int .u8 (1))]) 1) →
 cellH B h15 (Addr.add A7 1) = some (.pointer p11) ∧
 semH PG B (convert 104 9 (.slice (some ⟨k14, 0, none⟩) 1 1)) h15 (fun v h18 => ∃ s17 : ByteArray, v = (.string s17) ∧
 cellH B h18 (Addr.add A7 1) = some (.pointer p11) ∧
 ByteArray.size s17 + ByteArray.size s2 ≤ 4611686018427387904 ∧
 C_wal_Log_Append B p11 (s17 ++ s2) h18 (fun i21 h20 =>
 cellH B h20 (Addr.add A7 1) = some (.pointer p11) ∧
 Fin B h20 (Q (i21))))
def S_vault_Vault_Append (B : RO) (p1 : Option Addr) (s2 : ByteArray) (h : Heap) (Q : Int → Heap → Prop) : Prop :=
 (p1 = none →
 Fin B h (Q (2))) ∧ (¬ (p1 = none) →
 ∃ A24 : Addr, p1 = some A24 ∧
 ∃ b26 : Bool, cellH B h (Addr.add A24 3) = some (.bool b26) ∧ (b26 = true →
 Fin B h (fun h' => S_vault_Vault_Append_J1 B p1 s2 h' Q)) ∧ (b26 = false →
 Fin B h (Q (9))))
def S_vault_Vault_Force (B : RO) (p1 : Option Addr) (h : Heap) (Q : Heap → Prop) : Prop :=
 (p1 = none →
 Fin B h (Q)) ∧ (¬ (p1 = none) →
 ∃ A3 : Addr, p1 = some A3 ∧
 ∃ p5 : Option Addr, cellH B h (Addr.add A3 1) = some (.pointer p5) ∧
 C_wal_Log_Force B p5 h (fun h6 =>
 Fin B h6 (Q)))
def S_stylus_Of (B : RO) (s1 : ByteArray) (h : Heap) (Q : Option Addr → Heap → Prop) : Prop :=
 ∀ k3 : Nat, h k3 = none → B k3 = none → ∀ h4 : Heap, h4 = Heap.set h k3 (.vec 144 (plains [(.string s1), (.bool false)]) 2) →
 Fin B h4 (Q (some ⟨k3, 0, none⟩))
def S_stylus_Reader_Nat (B : RO) (p1 : Option Addr) (i2 : Int) (h : Heap) (Q : Int → Heap → Prop) : Prop :=
 C_stylus_Reader_word B p1 h (fun i5 h4 =>
 ((i2 : Int) < (0) →
 C_stylus_Reader_Spoil B p1 h4 (fun h6 =>
 Fin B h6 (Q (0)))) ∧ (¬ ((i2 : Int) < (0)) →
 ((i5 : Int) > (IntKind.wrap .u64 (i2)) →
 C_stylus_Reader_Spoil B p1 h4 (fun h7 =>
 Fin B h7 (Q (0)))) ∧ (¬ ((i5 : Int) > (IntKind.wrap .u64 (i2))) →
 Fin B h4 (Q (IntKind.wrap .i64 (i5))))))
def S_stylus_Reader_Left (B : RO) (p1 : Option Addr) (h : Heap) (Q : Int → Heap → Prop) : Prop :=
 (p1 = none →
 Fin B h (Q (0))) ∧ (¬ (p1 = none) →
 ∃ A4 : Addr, p1 = some A4 ∧
 ∃ s6 : ByteArray, cellH B h A4 = some (.string s6) ∧
 Fin B h (Q ((ByteArray.size s6 : Nat))))
def S_stylus_Reader_Text (B : RO) (p1 : Option Addr) (i2 : Int) (h : Heap) (Q : ByteArray → Heap → Prop) : Prop :=
 C_stylus_Reader_Nat B p1 (i2) h (fun i5 h4 =>
 C_stylus_Reader_Raw B p1 (i5) h4 (fun s7 h6 =>
 Fin B h6 (Q s7)))
def S_stylus_Reader_Bad (B : RO) (p1 : Option Addr) (h : Heap) (Q : Bool → Heap → Prop) : Prop :=
 (p1 = none →
 Fin B h (Q (true))) ∧ (¬ (p1 = none) →
 ∃ A4 : Addr, p1 = some A4 ∧
 ∃ b6 : Bool, cellH B h (Addr.add A4 1) = some (.bool b6) ∧
 Fin B h (Q (b6)))
def S_stylus_Stylus_Nat_J1 (B : RO) (p1 : Option Addr) (a2 : Option Addr) (n3 : Nat) (c4 : Nat) (i5 : Int) (m7 : Nat) (J10 : Int → Nat → Heap → Prop) (i15 : Int) (h16 : Heap) (Q : Heap → Prop) : Prop :=
 ∃ A17 : Addr, p1 = some A17 ∧
 LdSl B h16 A17 fun a19 n20 c21 h22 =>
 ∀ k23 : Nat, h22 k23 = none → B k23 = none → ∀ h24 : Heap, h24 = Heap.set h22 k23 (.vec 5 (plains [(.int .u8 (IntKind.wrap .u8 (i15)))]) 1) →
 semH PG B (Builtin.append_ #[104, 104] 104 #[(.slice a19 n20 c21), (.slice (some ⟨k23, 0, none⟩) 1 1)]) h24 (fun v h25 => ∃ a26 : Option Addr, ∃ n27 : Nat, ∃ c28 : Nat, v = (.slice a26 n27 c28) ∧
 ∃ A29 : Addr, p1 = some A29 ∧
 ∃ h31 : Heap, storeH h25 A29 (.slice a26 n27 c28) = some h31 ∧
 Fin B h31 (fun h' => ∃ m', m' < m7 ∧ J10 (IntKind.wrap .i64 ((i5) + (1))) m' h'))
def S_stylus_Stylus_Nat (B : RO) (p1 : Option Addr) (a2 : Option Addr) (n3 : Nat) (c4 : Nat) (h : Heap) (Q : Heap → Prop) : Prop :=
 ∃ (J10 : Int → Nat → Heap → Prop) (m8 : Nat), Fin B h (J10 (0) m8) ∧
 ∀ (i5 : Int) (m7 : Nat) (h6 : Heap), J10 i5 m7 h6 →
 ((i5 : Int) < ((n3 : Nat)) →
 ∃ A11 : Addr, a2 = some A11 ∧ 0 ≤ (i5 : Int) ∧ (i5 : Int) < (n3 : Nat) ∧
 ∃ i13 : Int, cellH B h6 (Addr.add A11 (Int.toNat (i5) * 1)) = some (.int .i64 (i13)) ∧
 ((i13 : Int) < (0) →
 Fin B h6 (fun h' => ∃ m', m' < m7 ∧ J10 (IntKind.wrap .i64 ((i5) + (1))) m' h')) ∧ (¬ ((i13 : Int) < (0)) →
 ∃ (J37 : Int → Nat → Heap → Prop) (m35 : Nat), Fin B h6 (J37 (i13) m35) ∧
 ∀ (i32 : Int) (m34 : Nat) (h33 : Heap), J37 i32 m34 h33 →
 ((i32 : Int) ≥ (128) →
 ∃ A38 : Addr, p1 = some A38 ∧
 LdSl B h33 A38 fun a40 n41 c42 h43 =>
 ∀ k44 : Nat, h43 k44 = none → B k44 = none → ∀ h45 : Heap, h45 = Heap.set h43 k44 (.vec 5 (plains [(.int .u8 (IntKind.wrap .u8 ((BitVec.ofInt (IntKind.bits .u8) (IntKind.wrap .u8 (i32)) ||| BitVec.ofInt (IntKind.bits .u8) (128)).toNat : Int)))]) 1) →
 semH PG B (Builtin.append_ #[104, 104] 104 #[(.slice a40 n41 c42), (.slice (some ⟨k44, 0, none⟩) 1 1)]) h45 (fun v h46 => ∃ a47 : Option Addr, ∃ n48 : Nat, ∃ c49 : Nat, v = (.slice a47 n48 c49) ∧
 ∃ A50 : Addr, p1 = some A50 ∧
 ∃ h52 : Heap, storeH h46 A50 (.slice a47 n48 c49) = some h52 ∧
 ¬ ((7 : Int) < 0) ∧
 Fin B h52 (fun h' => ∃ m', m' < m34 ∧ J37 (Int.fdiv (i32) (2 ^ (min (Int.toNat (7)) (IntKind.bits .i64)))) m' h'))) ∧ (¬ ((i32 : Int) ≥ (128)) →
 Fin B h33 (fun h' => S_stylus_Stylus_Nat_J1 B p1 a2 n3 c4 i5 m7 J10 (i32) h' Q)))) ∧ (¬ ((i5 : Int) < ((n3 : Nat))) →
 Fin B h6 (Q))
def S_stylus_Stylus_Text (B : RO) (p1 : Option Addr) (a2 : Option Addr) (n3 : Nat) (c4 : Nat) (h : Heap) (Q : Heap → Prop) : Prop :=
 ∃ (J10 : Int → Nat → Heap → Prop) (m8 : Nat), Fin B h (J10 (0) m8) ∧
 ∀ (i5 : Int) (m7 : Nat) (h6 : Heap), J10 i5 m7 h6 →
 ((i5 : Int) < ((n3 : Nat)) →
 ∃ A11 : Addr, a2 = some A11 ∧ 0 ≤ (i5 : Int) ∧ (i5 : Int) < (n3 : Nat) ∧
 ∃ s13 : ByteArray, cellH B h6 (Addr.add A11 (Int.toNat (i5) * 1)) = some (.string s13) ∧
 ∀ k14 : Nat, h6 k14 = none → B k14 = none → ∀ h15 : Heap, h15 = Heap.set h6 k14 (.vec 3 (plains [(.int .i64 ((ByteArray.size s13 : Nat)))]) 1) →
 C_stylus_Stylus_Nat B p1 (some ⟨k14, 0, none⟩) 1 1 h15 (fun h16 =>
 C_stylus_Stylus_Raw B p1 s13 h16 (fun h17 =>
 Fin B h17 (fun h' => ∃ m', m' < m7 ∧ J10 (IntKind.wrap .i64 ((i5) + (1))) m' h')))) ∧ (¬ ((i5 : Int) < ((n3 : Nat))) →
 Fin B h6 (Q))
def S_stylus_Stylus_Bytes (B : RO) (p1 : Option Addr) (h : Heap) (Q : ByteArray → Heap → Prop) : Prop :=
 ∃ A3 : Addr, p1 = some A3 ∧
 LdSl B h A3 fun a5 n6 c7 h8 =>
 semH PG B (convert 104 9 (.slice a5 n6 c7)) h8 (fun v h10 => ∃ s9 : ByteArray, v = (.string s9) ∧
 Fin B h10 (Q s9))
def S_tome_Tome_Set_J1 (B : RO) (h14 : Heap) (Q : Bool → Heap → Prop) : Prop :=
 Fin B h14 (Q (false))
def S_tome_Tome_Set_J2 (B : RO) (k7 : Nat) (b17 : Bool) (s18 : ByteArray) (h24 : Heap) (Q : Bool → Heap → Prop) : Prop :=
 Fin B h24 (Q (false))
def S_tome_Tome_Set_J3 (B : RO) (i2 : Int) (i5 : Int) (k7 : Nat) (b17 : Bool) (s18 : ByteArray) (p36 : Option Addr) (b37 : Bool) (s38 : ByteArray) (h39 : Heap) (Q : Bool → Heap → Prop) : Prop :=
 C_cell_Row_file_File_Set B p36 (i2) (b37) s38 (i5) h39 (fun b42 h41 =>
 CellsAt B h41 ⟨k7, 0, none⟩ 0 [(.bool b17), (.string s18)] ∧
 Fin B h41 (Q (b42)))
def S_tome_Tome_Set (B : RO) (p1 : Option Addr) (i2 : Int) (b3 : Bool) (s4 : ByteArray) (i5 : Int) (h : Heap) (Q : Bool → Heap → Prop) : Prop :=
 ∀ k7 : Nat, h k7 = none → B k7 = none → ∀ h8 : Heap, h8 = Heap.set h k7 (.vec 90 (plains [(.bool b3), (.string s4)]) 2) →
 (p1 = none →
 (S_tome_Tome_Set_J1 B h8 Q) ∧
 (S_tome_Tome_Set_J1 B h8 Q)) ∧ (¬ (p1 = none) →
 ∃ b17 : Bool, ∃ s18 : ByteArray, CellsAt B h8 ⟨k7, 0, none⟩ 0 [(.bool b17), (.string s18)] ∧
 C_file_Good B (b17) s18 h8 (fun b21 h20 =>
 (b21 = true →
 CellsAt B h20 ⟨k7, 0, none⟩ 0 [(.bool b17), (.string s18)] ∧
 ∃ A27 : Addr, p1 = some A27 ∧
 (∃ p44 : Option Addr, cellH B h20 A27 = some (.pointer p44) ∧
 ∃ b45 : Bool, ∃ s46 : ByteArray, CellsAt B h20 ⟨k7, 0, none⟩ 0 [(.bool b45), (.string s46)] ∧
 S_tome_Tome_Set_J3 B i2 i5 k7 b17 s18 p44 (b45) s46 h20 Q) ∧
 (∃ b47 : Bool, ∃ s48 : ByteArray, CellsAt B h20 ⟨k7, 0, none⟩ 0 [(.bool b47), (.string s48)] ∧
 ∃ p49 : Option Addr, cellH B h20 A27 = some (.pointer p49) ∧
 S_tome_Tome_Set_J3 B i2 i5 k7 b17 s18 p49 (b47) s48 h20 Q)) ∧ (b21 = false →
 CellsAt B h20 ⟨k7, 0, none⟩ 0 [(.bool b17), (.string s18)] ∧
 (S_tome_Tome_Set_J2 B k7 b17 s18 h20 Q) ∧
 (S_tome_Tome_Set_J2 B k7 b17 s18 h20 Q))))
def S_disk_Disk_land (B : RO) (p1 : Option Addr) (i2 : Int) (b3 : Bool) (s4 : ByteArray) (h : Heap) (Q : Heap → Prop) : Prop :=
 ∀ k5 : Nat, h k5 = none → B k5 = none → ∀ h6 : Heap, h6 = Heap.set h k5 (.vec 112 (plains [(.int .i64 (i2)), (.bool b3), (.string s4)]) 3) →
 ∃ b7 : Bool, cellH B h6 ⟨k5, 1, none⟩ = some (.bool b7) ∧ (b7 = true →
 ∃ i16 : Int, cellH B h6 ⟨k5, 0, none⟩ = some (.int .i64 (i16)) ∧
 ∃ A17 : Addr, p1 = some A17 ∧
 0 ≤ (i16 : Int) ∧ (i16 : Int) < (2 : Nat) ∧
 ∃ h19 : Heap, storeH h6 (Addr.add (Addr.add A17 (Int.toNat (i16) * 2)) 1) (.string (ByteArray.mk #[])) = some h19 ∧
 Fin B h19 (Q)) ∧ (b7 = false →
 ∃ i8 : Int, cellH B h6 ⟨k5, 0, none⟩ = some (.int .i64 (i8)) ∧
 ∃ A9 : Addr, p1 = some A9 ∧
 0 ≤ (i8 : Int) ∧ (i8 : Int) < (2 : Nat) ∧
 ∃ s11 : ByteArray, cellH B h6 (Addr.add (Addr.add A9 (Int.toNat (i8) * 2)) 1) = some (.string s11) ∧
 ∃ s12 : ByteArray, cellH B h6 ⟨k5, 2, none⟩ = some (.string s12) ∧
 ByteArray.size s11 + ByteArray.size s12 ≤ 4611686018427387904 ∧
 ∃ A13 : Addr, p1 = some A13 ∧
 0 ≤ (i8 : Int) ∧ (i8 : Int) < (2 : Nat) ∧
 ∃ h15 : Heap, storeH h6 (Addr.add (Addr.add A13 (Int.toNat (i8) * 2)) 1) (.string (s11 ++ s12)) = some h15 ∧
 Fin B h15 (Q))
def S_tome_Tome_Get (B : RO) (p1 : Option Addr) (i2 : Int) (h : Heap) (Q : Bool → ByteArray → Int → Heap → Prop) : Prop :=
 ∀ k6 : Nat, h k6 = none → B k6 = none → ∀ h7 : Heap, h7 = Heap.set h k6 (.vec 90 (plains [(.bool false), (.string ByteArray.empty)]) 2) →
 (p1 = none →
 ∃ h9 : Heap, StoresAt ⟨k6, 0, none⟩ h7 0 [(.bool false), (.string ByteArray.empty)] h9 ∧
 ∃ b10 : Bool, ∃ s11 : ByteArray, CellsAt B h9 ⟨k6, 0, none⟩ 0 [(.bool b10), (.string s11)] ∧ Fin B h9 (Q (b10) s11 (0))) ∧ (¬ (p1 = none) →
 ∃ A12 : Addr, p1 = some A12 ∧
 ∃ p14 : Option Addr, cellH B h7 A12 = some (.pointer p14) ∧
 C_cell_Row_file_File_Get B p14 (i2) h7 (fun b16 s17 i18 h15 =>
 ∃ h19 : Heap, StoresAt ⟨k6, 0, none⟩ h15 0 [(.bool b16), (.string s17)] h19 ∧
 ∃ b20 : Bool, ∃ s21 : ByteArray, CellsAt B h19 ⟨k6, 0, none⟩ 0 [(.bool b20), (.string s21)] ∧ Fin B h19 (Q (b20) s21 (i18))))
def S_disk_good (B : RO) (i1 : Int) (h : Heap) (Q : Bool → Heap → Prop) : Prop :=
 ((i1 : Int) = 0 →
 Fin B h (Q (true))) ∧ (¬ ((i1 : Int) = 0) →
 Fin B h (Q (((i1 : Int) == (1)))))
def S_wal_Open_J1 (B : RO) (p1 : Option Addr) (i2 : Int) (h6 : Heap) (Q : Option Addr → Int → Heap → Prop) : Prop :=
 C_disk_Disk_Read B p1 (i2) h6 (fun s8 h7 =>
 C_wafer_Whole B s8 h7 (fun i10 h9 =>
 ∀ k11 : Nat, h9 k11 = none → B k11 = none → ∀ h12 : Heap, h12 = Heap.set h9 k11 (.vec 154 (plains [(.pointer p1), (.int .i64 (i2)), (.int .i64 (i10)), (.bool (decide ((i10 : Int) < ((ByteArray.size s8 : Nat)))))]) 4) →
 Fin B h12 (Q (some ⟨k11, 0, none⟩) (0))))
def S_wal_Open (B : RO) (p1 : Option Addr) (i2 : Int) (h : Heap) (Q : Option Addr → Int → Heap → Prop) : Prop :=
 (p1 = none →
 Fin B h (Q none (2))) ∧ (¬ (p1 = none) →
 ((i2 : Int) = 0 →
 Fin B h (fun h' => S_wal_Open_J1 B p1 i2 h' Q)) ∧ (¬ ((i2 : Int) = 0) →
 ((i2 : Int) = 1 →
 Fin B h (fun h' => S_wal_Open_J1 B p1 i2 h' Q)) ∧ (¬ ((i2 : Int) = 1) →
 Fin B h (Q none (1)))))
def S_vault_look_J1 (B : RO) (k11 : Nat) (s21 : ByteArray) (q24 : Nat) (J25 : Nat → Heap → Prop) (h44 : Heap) (Q : Int → ByteArray → Option Addr → Nat → Nat → Heap → Prop) : Prop :=
 ∃ a46 : Option Addr, ∃ n47 : Nat, ∃ c48 : Nat, cellH B h44 ⟨k11, 1, none⟩ = some (.slice a46 n47 c48) ∧
 0 ≤ (1 : Int) ∧ (1 : Int) ≤ ((ByteArray.size s21 : Nat) : Int) ∧ ((ByteArray.size s21 : Nat) : Int) ≤ (ByteArray.size s21 : Nat) ∧
 ∀ k55 : Nat, h44 k55 = none → B k55 = none → ∀ h56 : Heap, h56 = Heap.set h44 k55 (.vec 9 (plains [(.string (ByteArray.extract s21 (Int.toNat (1)) (Int.toNat ((ByteArray.size s21 : Nat)))))]) 1) →
 cellH B h56 ⟨k11, 1, none⟩ = some (.slice a46 n47 c48) ∧
 semH PG B (Builtin.append_ #[69, 69] 69 #[(.slice a46 n47 c48), (.slice (some ⟨k55, 0, none⟩) 1 1)]) h56 (fun v h58 => ∃ a59 : Option Addr, ∃ n60 : Nat, ∃ c61 : Nat, v = (.slice a59 n60 c61) ∧
 cellH B h58 ⟨k11, 1, none⟩ = some (.slice a46 n47 c48) ∧
 ∃ h63 : Heap, storeH h58 ⟨k11, 1, none⟩ (.slice a59 n60 c61) = some h63 ∧
 Fin B h63 (J25 (q24 + 1)))
def S_vault_look (B : RO) (p1 : Option Addr) (h : Heap) (Q : Int → ByteArray → Option Addr → Nat → Nat → Heap → Prop) : Prop :=
 ∀ k7 : Nat, h k7 = none → B k7 = none → ∀ h8 : Heap, h8 = Heap.set h k7 (.vec 3 (plains [(.int .i64 (0))]) 1) →
 ∀ k9 : Nat, h8 k9 = none → B k9 = none → ∀ h10 : Heap, h10 = Heap.set h8 k9 (.vec 71 (plains [(.string ByteArray.empty), (.slice none 0 0)]) 2) →
 ∀ k11 : Nat, h10 k11 = none → B k11 = none → ∀ h12 : Heap, h12 = Heap.set h10 k11 (.vec 71 (plains [(.string ByteArray.empty), (.slice none 0 0)]) 2) →
 ∀ k13 : Nat, h12 k13 = none → B k13 = none → ∀ h14 : Heap, h14 = Heap.set h12 k13 (.vec 3 (plains [(.int .i64 (0))]) 1) →
 ∀ k15 : Nat, h14 k15 = none → B k15 = none → ∀ h16 : Heap, h16 = Heap.set h14 k15 (.vec 3 (plains [(.int .i64 (0))]) 1) →
 ∃ h17 : Heap, storeH h16 ⟨k13, 0, none⟩ (.int .i64 (0)) = some h17 ∧
 ∃ h18 : Heap, storeH h17 ⟨k15, 0, none⟩ (.int .i64 (0)) = some h18 ∧
 C_wal_Log_All B p1 h18 (fun v20 h19 =>
 ∃ (xs26 : List (ByteArray)) (G22 : Heap → Prop) (J25 : Nat → Heap → Prop), Iter PG B v20 (xs26.map (fun x : ByteArray => [(.string x)])) G22 ∧ Ins G22 ∧ (∀ i h, J25 i h → G22 h) ∧ Fin B h19 (J25 0) ∧
 (∀ (q24 : Nat) (h23 : Heap) (s21 : ByteArray), xs26[q24]? = some (s21) → J25 q24 h23 →
 ∃ i27 : Int, cellH B h23 ⟨k15, 0, none⟩ = some (.int .i64 (i27)) ∧
 ∃ h28 : Heap, storeH h23 ⟨k15, 0, none⟩ (.int .i64 (IntKind.wrap .i64 ((i27) + (1)))) = some h28 ∧
 ∃ i29 : Int, cellH B h28 ⟨k15, 0, none⟩ = some (.int .i64 (i29)) ∧
 ((i29 : Int) = 1 →
 C_vault_first B s21 h28 (fun i31 s32 b33 h30 =>
 (b33 = true →
 ∃ h41 : Heap, storeH h30 ⟨k13, 0, none⟩ (.int .i64 (i31)) = some h41 ∧
 ∃ h42 : Heap, storeH h41 ⟨k11, 0, none⟩ (.string s32) = some h42 ∧
 Fin B h42 (J25 (q24 + 1))) ∧ (b33 = false →
 ∃ h34 : Heap, storeH h30 ⟨k7, 0, none⟩ (.int .i64 (0)) = some h34 ∧
 ∃ h35 : Heap, StoresAt ⟨k9, 0, none⟩ h34 0 [(.string ByteArray.empty), (.slice none 0 0)] h35 ∧
 ∃ i36 : Int, cellH B h35 ⟨k7, 0, none⟩ = some (.int .i64 (i36)) ∧ ∃ s37 : ByteArray, ∃ a38 : Option Addr, ∃ n39 : Nat, ∃ c40 : Nat, CellsAt B h35 ⟨k9, 0, none⟩ 0 [(.string s37), (.slice a38 n39 c40)] ∧ Fin B h35 (Q (i36) s37 a38 n39 c40)))) ∧ (¬ ((i29 : Int) = 1) →
 (s21 = (ByteArray.mk #[]) →
 ∃ i65 : Int, cellH B h28 ⟨k13, 0, none⟩ = some (.int .i64 (i65)) ∧
 ∃ s67 : ByteArray, ∃ a68 : Option Addr, ∃ n69 : Nat, ∃ c70 : Nat, CellsAt B h28 ⟨k11, 0, none⟩ 0 [(.string s67), (.slice a68 n69 c70)] ∧
 ∃ h72 : Heap, storeH h28 ⟨k7, 0, none⟩ (.int .i64 (i65)) = some h72 ∧
 cellH B h72 ⟨k13, 0, none⟩ = some (.int .i64 (i65)) ∧ CellsAt B h72 ⟨k11, 0, none⟩ 0 [(.string s67), (.slice a68 n69 c70)] ∧
 ∃ h75 : Heap, StoresAt ⟨k9, 0, none⟩ h72 0 [(.string s67), (.slice a68 n69 c70)] h75 ∧
 ∃ i76 : Int, cellH B h75 ⟨k7, 0, none⟩ = some (.int .i64 (i76)) ∧ ∃ s77 : ByteArray, ∃ a78 : Option Addr, ∃ n79 : Nat, ∃ c80 : Nat, CellsAt B h75 ⟨k9, 0, none⟩ 0 [(.string s77), (.slice a78 n79 c80)] ∧ Fin B h75 (Q (i76) s77 a78 n79 c80)) ∧ (¬ (s21 = (ByteArray.mk #[])) →
 0 ≤ (0 : Int) ∧ (0 : Int) < (ByteArray.size s21 : Nat) ∧
 ((byteAt s21 (Int.toNat (0)) : Int) = 1 →
 Fin B h28 (fun h' => S_vault_look_J1 B k11 s21 q24 J25 h' Q)) ∧ (¬ ((byteAt s21 (Int.toNat (0)) : Int) = 1) →
 ∃ i81 : Int, cellH B h28 ⟨k13, 0, none⟩ = some (.int .i64 (i81)) ∧
 ∃ s83 : ByteArray, ∃ a84 : Option Addr, ∃ n85 : Nat, ∃ c86 : Nat, CellsAt B h28 ⟨k11, 0, none⟩ 0 [(.string s83), (.slice a84 n85 c86)] ∧
 ∃ h88 : Heap, storeH h28 ⟨k7, 0, none⟩ (.int .i64 (i81)) = some h88 ∧
 cellH B h88 ⟨k13, 0, none⟩ = some (.int .i64 (i81)) ∧ CellsAt B h88 ⟨k11, 0, none⟩ 0 [(.string s83), (.slice a84 n85 c86)] ∧
 ∃ h91 : Heap, StoresAt ⟨k9, 0, none⟩ h88 0 [(.string s83), (.slice a84 n85 c86)] h91 ∧
 ∃ i92 : Int, cellH B h91 ⟨k7, 0, none⟩ = some (.int .i64 (i92)) ∧ ∃ s93 : ByteArray, ∃ a94 : Option Addr, ∃ n95 : Nat, ∃ c96 : Nat, CellsAt B h91 ⟨k9, 0, none⟩ 0 [(.string s93), (.slice a94 n95 c96)] ∧ Fin B h91 (Q (i92) s93 a94 n95 c96))))) ∧
 (∀ (h23 : Heap), J25 xs26.length h23 →
 ∃ i97 : Int, cellH B h23 ⟨k13, 0, none⟩ = some (.int .i64 (i97)) ∧
 ∃ s99 : ByteArray, ∃ a100 : Option Addr, ∃ n101 : Nat, ∃ c102 : Nat, CellsAt B h23 ⟨k11, 0, none⟩ 0 [(.string s99), (.slice a100 n101 c102)] ∧
 ∃ h104 : Heap, storeH h23 ⟨k7, 0, none⟩ (.int .i64 (i97)) = some h104 ∧
 cellH B h104 ⟨k13, 0, none⟩ = some (.int .i64 (i97)) ∧ CellsAt B h104 ⟨k11, 0, none⟩ 0 [(.string s99), (.slice a100 n101 c102)] ∧
 ∃ h107 : Heap, StoresAt ⟨k9, 0, none⟩ h104 0 [(.string s99), (.slice a100 n101 c102)] h107 ∧
 ∃ i108 : Int, cellH B h107 ⟨k7, 0, none⟩ = some (.int .i64 (i108)) ∧ ∃ s109 : ByteArray, ∃ a110 : Option Addr, ∃ n111 : Nat, ∃ c112 : Nat, CellsAt B h107 ⟨k9, 0, none⟩ 0 [(.string s109), (.slice a110 n111 c112)] ∧ Fin B h107 (Q (i108) s109 a110 n111 c112)))
def S_tome_New (B : RO) (h : Heap) (Q : Option Addr → Heap → Prop) : Prop :=
 C_cell_New_file_File B (6) (false) ByteArray.empty h (fun p3 h2 =>
 ∀ k4 : Nat, h2 k4 = none → B k4 = none → ∀ h5 : Heap, h5 = Heap.set h2 k4 (.vec 151 (plains [(.pointer p3)]) 1) →
 Fin B h5 (Q (some ⟨k4, 0, none⟩)))
def S_tome_Read_J1 (B : RO) (p5 : Option Addr) (p7 : Option Addr) (m10 : Nat) (J13 : Int → Nat → Heap → Prop) (i17 : Int) (s19 : ByteArray) (h21 : Heap) (Q : Option Addr → Bool → Heap → Prop) : Prop :=
 C_tome_Tome_Set B p5 (i17) (true) s19 (0) h21 (fun b23 h22 =>
 Fin B h22 (fun h' => ∃ m', m' < m10 ∧ J13 (i17) m' h'))
def S_tome_Read (B : RO) (s1 : ByteArray) (h : Heap) (Q : Option Addr → Bool → Heap → Prop) : Prop :=
 C_tome_New B h (fun p5 h4 =>
 C_stylus_Of B s1 h4 (fun p7 h6 =>
 ∃ (J13 : Int → Nat → Heap → Prop) (m11 : Nat), Fin B h6 (J13 ((-1)) m11) ∧
 ∀ (i8 : Int) (m10 : Nat) (h9 : Heap), J13 i8 m10 h9 →
 C_stylus_Reader_Left B p7 h9 (fun i15 h14 =>
 ((i15 : Int) > (0) →
 C_stylus_Reader_Nat B p7 (5) h14 (fun i17 h16 =>
 C_stylus_Reader_Text B p7 (32) h16 (fun s19 h18 =>
 C_stylus_Reader_Bad B p7 h18 (fun b25 h24 =>
 (b25 = true →
 Fin B h24 (Q none (false))) ∧ (b25 = false →
 ((i17 : Int) ≤ (i8) →
 Fin B h24 (Q none (false))) ∧ (¬ ((i17 : Int) ≤ (i8)) →
 Fin B h24 (fun h' => S_tome_Read_J1 B p5 p7 m10 J13 i17 s19 h' Q))))))) ∧ (¬ ((i15 : Int) > (0)) →
 Fin B h14 (Q p5 (true))))))
def S_stylus_Reader_Raw_J1 (B : RO) (p1 : Option Addr) (i2 : Int) (h5 : Heap) (Q : ByteArray → Heap → Prop) : Prop :=
 ∃ A6 : Addr, p1 = some A6 ∧
 ∃ s8 : ByteArray, cellH B h5 A6 = some (.string s8) ∧
 0 ≤ (0 : Int) ∧ (0 : Int) ≤ (i2 : Int) ∧ (i2 : Int) ≤ (ByteArray.size s8 : Nat) ∧
 ∃ A9 : Addr, p1 = some A9 ∧
 ∃ s11 : ByteArray, cellH B h5 A9 = some (.string s11) ∧
 0 ≤ (i2 : Int) ∧ (i2 : Int) ≤ ((ByteArray.size s11 : Nat) : Int) ∧ ((ByteArray.size s11 : Nat) : Int) ≤ (ByteArray.size s11 : Nat) ∧
 ∃ A12 : Addr, p1 = some A12 ∧
 ∃ h14 : Heap, storeH h5 A12 (.string (ByteArray.extract s11 (Int.toNat (i2)) (Int.toNat ((ByteArray.size s11 : Nat))))) = some h14 ∧
 Fin B h14 (Q (ByteArray.extract s8 (Int.toNat (0)) (Int.toNat (i2))))
def S_stylus_Reader_Raw (B : RO) (p1 : Option Addr) (i2 : Int) (h : Heap) (Q : ByteArray → Heap → Prop) : Prop :=
 (p1 = none →
 C_stylus_Reader_Spoil B p1 h (fun h16 =>
 Fin B h16 (Q (ByteArray.mk #[])))) ∧ (¬ (p1 = none) →
 ∃ A17 : Addr, p1 = some A17 ∧
 ∃ b19 : Bool, cellH B h (Addr.add A17 1) = some (.bool b19) ∧ (b19 = true →
 C_stylus_Reader_Spoil B p1 h (fun h25 =>
 Fin B h25 (Q (ByteArray.mk #[])))) ∧ (b19 = false →
 ((i2 : Int) < (0) →
 C_stylus_Reader_Spoil B p1 h (fun h20 =>
 Fin B h20 (Q (ByteArray.mk #[])))) ∧ (¬ ((i2 : Int) < (0)) →
 ∃ A21 : Addr, p1 = some A21 ∧
 ∃ s23 : ByteArray, cellH B h A21 = some (.string s23) ∧
 ((i2 : Int) > ((ByteArray.size s23 : Nat)) →
 C_stylus_Reader_Spoil B p1 h (fun h24 =>
 Fin B h24 (Q (ByteArray.mk #[])))) ∧ (¬ ((i2 : Int) > ((ByteArray.size s23 : Nat))) →
 Fin B h (fun h' => S_stylus_Reader_Raw_J1 B p1 i2 h' Q)))))
def S_stylus_Stylus_Raw (B : RO) (p1 : Option Addr) (s2 : ByteArray) (h : Heap) (Q : Heap → Prop) : Prop :=
 ∃ A3 : Addr, p1 = some A3 ∧
 LdSl B h A3 fun a5 n6 c7 h8 =>
 semH PG B (Builtin.append_ #[104, 9] 104 #[(.slice a5 n6 c7), (.string s2)]) h8 (fun v h9 => ∃ a10 : Option Addr, ∃ n11 : Nat, ∃ c12 : Nat, v = (.slice a10 n11 c12) ∧
 ∃ A13 : Addr, p1 = some A13 ∧
 ∃ h15 : Heap, storeH h9 A13 (.slice a10 n11 c12) = some h15 ∧
 Fin B h15 (Q))
def S_wal_Log_Area (B : RO) (p1 : Option Addr) (h : Heap) (Q : Int → Heap → Prop) : Prop :=
 (p1 = none →
 Fin B h (Q (0))) ∧ (¬ (p1 = none) →
 ∃ A4 : Addr, p1 = some A4 ∧
 ∃ i6 : Int, cellH B h (Addr.add A4 1) = some (.int .i64 (i6)) ∧
 Fin B h (Q (i6)))
def S_wal_Log_Clear (B : RO) (p1 : Option Addr) (h : Heap) (Q : Heap → Prop) : Prop :=
 (p1 = none →
 Fin B h (Q)) ∧ (¬ (p1 = none) →
 ∃ A3 : Addr, p1 = some A3 ∧
 ∃ p5 : Option Addr, cellH B h A3 = some (.pointer p5) ∧
 ∃ A6 : Addr, p1 = some A6 ∧
 ∃ i8 : Int, cellH B h (Addr.add A6 1) = some (.int .i64 (i8)) ∧
 C_disk_Disk_Reset B p5 (i8) h (fun i10 h9 =>
 ∃ A11 : Addr, p1 = some A11 ∧
 ∃ h13 : Heap, storeH h9 (Addr.add A11 2) (.int .i64 (0)) = some h13 ∧
 ∃ A14 : Addr, p1 = some A14 ∧
 ∃ h16 : Heap, storeH h13 (Addr.add A14 3) (.bool false) = some h16 ∧
 Fin B h16 (Q)))
def S_wal_Log_Force (B : RO) (p1 : Option Addr) (h : Heap) (Q : Heap → Prop) : Prop :=
 (p1 = none →
 Fin B h (Q)) ∧ (¬ (p1 = none) →
 ∃ A3 : Addr, p1 = some A3 ∧
 ∃ p5 : Option Addr, cellH B h A3 = some (.pointer p5) ∧
 C_disk_Disk_Sync B p5 h (fun h6 =>
 Fin B h6 (Q)))
def S_wal_Log_Append_J1 (B : RO) (p1 : Option Addr) (s2 : ByteArray) (h5 : Heap) (Q : Int → Heap → Prop) : Prop :=
 C_wafer_Close B s2 h5 (fun s7 h6 =>
 ∃ A9 : Addr, p1 = some A9 ∧
 ∃ p13 : Option Addr, cellH B h6 A9 = some (.pointer p13) ∧
 ∃ A16 : Addr, p1 = some A16 ∧
 ∃ i20 : Int, cellH B h6 (Addr.add A16 1) = some (.int .i64 (i20)) ∧
 C_disk_Disk_Append B p13 (i20) s7 h6 (fun i24 h23 =>
 cellH B h23 A9 = some (.pointer p13) ∧ cellH B h23 (Addr.add A16 1) = some (.int .i64 (i20)) ∧
 ((i24 : Int) = 0 →
 ∃ A27 : Addr, p1 = some A27 ∧
 ∃ i29 : Int, cellH B h23 (Addr.add A27 2) = some (.int .i64 (i29)) ∧
 ∃ A30 : Addr, p1 = some A30 ∧
 ∃ h32 : Heap, storeH h23 (Addr.add A30 2) (.int .i64 (IntKind.wrap .i64 ((i29) + ((ByteArray.size s7 : Nat))))) = some h32 ∧
 Fin B h32 (Q (0))) ∧ (¬ ((i24 : Int) = 0) →
 Fin B h23 (Q (i24)))))
def S_wal_Log_Append (B : RO) (p1 : Option Addr) (s2 : ByteArray) (h : Heap) (Q : Int → Heap → Prop) : Prop :=
 (p1 = none →
 Fin B h (Q (2))) ∧ (¬ (p1 = none) →
 (((ByteArray.size s2 : Nat) : Int) > (1024) →
 Fin B h (Q (3))) ∧ (¬ (((ByteArray.size s2 : Nat) : Int) > (1024)) →
 ∃ A34 : Addr, p1 = some A34 ∧
 ∃ b36 : Bool, cellH B h (Addr.add A34 3) = some (.bool b36) ∧ (b36 = true →
 Fin B h (Q (9))) ∧ (b36 = false →
 Fin B h (fun h' => S_wal_Log_Append_J1 B p1 s2 h' Q))))
def S_tome_Tome_Bytes (B : RO) (p1 : Option Addr) (h : Heap) (Q : ByteArray → Heap → Prop) : Prop :=
 ∀ k3 : Nat, h k3 = none → B k3 = none → ∀ h4 : Heap, h4 = Heap.set h k3 (.vec 106 (plains [(.slice none 0 0)]) 1) →
 ∀ k5 : Nat, h4 k5 = none → B k5 = none → ∀ h6 : Heap, h6 = Heap.set h4 k5 (.vec 103 (plains [(.pointer none)]) 1) →
 ∃ h7 : Heap, storeH h6 ⟨k5, 0, none⟩ (.pointer (some ⟨k3, 0, none⟩)) = some h7 ∧
 C_tome_Tome_All B p1 h7 (fun v9 h8 =>
 ∃ (xs17 : List (Int × Bool × ByteArray)) (G13 : Heap → Prop) (J16 : Nat → Heap → Prop), Iter PG B v9 (xs17.map (fun x : Int × Bool × ByteArray => [(.int .i64 (x.1)), (.agg #[(.bool x.2.1), (.string x.2.2)])])) G13 ∧ Ins G13 ∧ (∀ i h, J16 i h → G13 h) ∧ Fin B h8 (J16 0) ∧
 (∀ (q15 : Nat) (h14 : Heap) (i10 : Int) (b11 : Bool) (s12 : ByteArray), xs17[q15]? = some (i10, b11, s12) → J16 q15 h14 →
 ∀ k18 : Nat, h14 k18 = none → B k18 = none → ∀ h19 : Heap, h19 = Heap.set h14 k18 (.vec 90 (plains [(.bool false), (.string ByteArray.empty)]) 2) →
 ∃ h20 : Heap, StoresAt ⟨k18, 0, none⟩ h19 0 [(.bool b11), (.string s12)] h20 ∧
 ∃ p21 : Option Addr, cellH B h20 ⟨k5, 0, none⟩ = some (.pointer p21) ∧
 ∀ k22 : Nat, h20 k22 = none → B k22 = none → ∀ h23 : Heap, h23 = Heap.set h20 k22 (.vec 3 (plains [(.int .i64 (i10))]) 1) →
 C_stylus_Stylus_Nat B p21 (some ⟨k22, 0, none⟩) 1 1 h23 (fun h24 =>
 ∃ p25 : Option Addr, cellH B h24 ⟨k5, 0, none⟩ = some (.pointer p25) ∧
 ∃ s26 : ByteArray, cellH B h24 ⟨k18, 1, none⟩ = some (.string s26) ∧
 ∀ k27 : Nat, h24 k27 = none → B k27 = none → ∀ h28 : Heap, h28 = Heap.set h24 k27 (.vec 9 (plains [(.string s26)]) 1) →
 C_stylus_Stylus_Text B p25 (some ⟨k27, 0, none⟩) 1 1 h28 (fun h29 =>
 Fin B h29 (J16 (q15 + 1))))) ∧
 (∀ (h14 : Heap), J16 xs17.length h14 →
 ∃ p30 : Option Addr, cellH B h14 ⟨k5, 0, none⟩ = some (.pointer p30) ∧
 C_stylus_Stylus_Bytes B p30 h14 (fun s32 h31 =>
 Fin B h31 (Q s32))))
def S_cell_New_int (B : RO) (i1 : Int) (i2 : Int) (h : Heap) (Q : Option Addr → Heap → Prop) : Prop :=
 ∀ k4 : Nat, h k4 = none → B k4 = none → ∀ h5 : Heap, h5 = Heap.set h k4 (.vec 166 (plains [(.slice none 0 0)]) 1) →
 ∃ (J11 : Int → Nat → Heap → Prop) (m9 : Nat), Fin B h5 (J11 (0) m9) ∧
 ∀ (i6 : Int) (m8 : Nat) (h7 : Heap), J11 i6 m8 h7 →
 ((i6 : Int) < (i1) →
 LdSl B h7 ⟨k4, 0, none⟩ fun a12 n13 c14 h15 =>
 ∀ k16 : Nat, h15 k16 = none → B k16 = none → ∀ h17 : Heap, h17 = Heap.set h15 k16 (.vec 168 (plains [(.int .i64 (i2)), (.int .i64 (0))]) 2) →
 semH PG B (Builtin.append_ #[164, 164] 164 #[(.slice a12 n13 c14), (.slice (some ⟨k16, 0, none⟩) 1 1)]) h17 (fun v h18 => ∃ a19 : Option Addr, ∃ n20 : Nat, ∃ c21 : Nat, v = (.slice a19 n20 c21) ∧
 ∃ h22 : Heap, storeH h18 ⟨k4, 0, none⟩ (.slice a19 n20 c21) = some h22 ∧
 Fin B h22 (fun h' => ∃ m', m' < m8 ∧ J11 (IntKind.wrap .i64 ((i6) + (1))) m' h'))) ∧ (¬ ((i6 : Int) < (i1)) →
 Fin B h7 (Q (some ⟨k4, 0, none⟩)))
def S_feed_New (B : RO) (h : Heap) (Q : Option Addr → Heap → Prop) : Prop :=
 C_cell_New_int B (3) (0) h (fun p3 h2 =>
 ∀ k4 : Nat, h2 k4 = none → B k4 = none → ∀ h5 : Heap, h5 = Heap.set h2 k4 (.vec 171 (plains [(.string ByteArray.empty), (.string ByteArray.empty), (.string ByteArray.empty), (.pointer p3)]) 4) →
 Fin B h5 (Q (some ⟨k4, 0, none⟩)))
def S_draft_Draft_file_File_find (B : RO) (p1 : Option Addr) (i2 : Int) (h : Heap) (Q : Int → Bool → Heap → Prop) : Prop :=
 ∃ A5 : Addr, p1 = some A5 ∧
 LdSl B h A5 fun a7 n8 c9 h10 =>
 C_slices_BinarySearchFunc_s_draft_entry_file_File_draft_entry_file_File_int B a7 n8 c9 (i2) (Value.func (.func 80) #[] #[]) h10 (fun i12 b13 h11 =>
 Fin B h11 (Q (i12) (b13)))
def S_slices_Insert_s_draft_entry_file_File_draft_entry_file_File (B : RO) (a1 : Option Addr) (n2 : Nat) (c3 : Nat) (i4 : Int) (a5 : Option Addr) (n6 : Nat) (c7 : Nat) (h : Heap) (Q : Option Addr → Nat → Nat → Heap → Prop) : Prop :=
 0 ≤ (i4 : Int) ∧ (i4 : Int) ≤ ((n2 : Nat) : Int) ∧ ((n2 : Nat) : Int) ≤ (c3 : Nat) ∧
 (((n6 : Nat) : Int) = 0 →
 Fin B h (Q a1 n2 c3)) ∧ (¬ (((n6 : Nat) : Int) = 0) →
 ((i4 : Int) = (n2 : Nat) →
 semH PG B (Builtin.append_ #[87, 87] 87 #[(.slice a1 n2 c3), (.slice a5 n6 c7)]) h (fun v h11 => ∃ a12 : Option Addr, ∃ n13 : Nat, ∃ c14 : Nat, v = (.slice a12 n13 c14) ∧
 Fin B h11 (Q a12 n13 c14))) ∧ (¬ ((i4 : Int) = (n2 : Nat)) →
 ((IntKind.wrap .i64 (((n2 : Nat)) + ((n6 : Nat))) : Int) > ((c3 : Nat)) →
 0 ≤ (0 : Int) ∧ (0 : Int) ≤ (i4 : Int) ∧ (i4 : Int) ≤ (c3 : Nat) ∧
 semH PG B (Builtin.append_ #[87, 3] 87 #[(.slice (if c3 = Int.toNat (0) then a1 else Option.map (·.add (Int.toNat (0) * 3)) a1) (Int.toNat (i4) - Int.toNat (0)) (c3 - Int.toNat (0))), (.int .i64 (IntKind.wrap .i64 ((IntKind.wrap .i64 (((n2 : Nat)) + ((n6 : Nat)))) - (i4))))]) h (fun v h15 => ∃ a16 : Option Addr, ∃ n17 : Nat, ∃ c18 : Nat, v = (.slice a16 n17 c18) ∧
 0 ≤ (i4 : Int) ∧ (i4 : Int) ≤ ((n17 : Nat) : Int) ∧ ((n17 : Nat) : Int) ≤ (c18 : Nat) ∧
 semH PG B (Builtin.copy_ #[87, 87] 3 #[(.slice (if c18 = Int.toNat (i4) then a16 else Option.map (·.add (Int.toNat (i4) * 3)) a16) (Int.toNat ((n17 : Nat)) - Int.toNat (i4)) (c18 - Int.toNat (i4))), (.slice a5 n6 c7)]) h15 (fun v h19 => ∃ i20 : Int, v = (.int .i64 (i20)) ∧
 0 ≤ (IntKind.wrap .i64 ((i4) + ((n6 : Nat))) : Int) ∧ (IntKind.wrap .i64 ((i4) + ((n6 : Nat))) : Int) ≤ ((n17 : Nat) : Int) ∧ ((n17 : Nat) : Int) ≤ (c18 : Nat) ∧
 0 ≤ (i4 : Int) ∧ (i4 : Int) ≤ ((n2 : Nat) : Int) ∧ ((n2 : Nat) : Int) ≤ (c3 : Nat) ∧
 semH PG B (Builtin.copy_ #[87, 87] 3 #[(.slice (if c18 = Int.toNat (IntKind.wrap .i64 ((i4) + ((n6 : Nat)))) then a16 else Option.map (·.add (Int.toNat (IntKind.wrap .i64 ((i4) + ((n6 : Nat)))) * 3)) a16) (Int.toNat ((n17 : Nat)) - Int.toNat (IntKind.wrap .i64 ((i4) + ((n6 : Nat))))) (c18 - Int.toNat (IntKind.wrap .i64 ((i4) + ((n6 : Nat)))))), (.slice (if c3 = Int.toNat (i4) then a1 else Option.map (·.add (Int.toNat (i4) * 3)) a1) (Int.toNat ((n2 : Nat)) - Int.toNat (i4)) (c3 - Int.toNat (i4)))]) h19 (fun v h21 => ∃ i22 : Int, v = (.int .i64 (i22)) ∧
 Fin B h21 (Q a16 n17 c18))))) ∧ (¬ ((IntKind.wrap .i64 (((n2 : Nat)) + ((n6 : Nat))) : Int) > ((c3 : Nat))) →
 0 ≤ (0 : Int) ∧ (0 : Int) ≤ (IntKind.wrap .i64 (((n2 : Nat)) + ((n6 : Nat))) : Int) ∧ (IntKind.wrap .i64 (((n2 : Nat)) + ((n6 : Nat))) : Int) ≤ (c3 : Nat) ∧
 0 ≤ (IntKind.wrap .i64 ((i4) + ((n6 : Nat))) : Int) ∧ (IntKind.wrap .i64 ((i4) + ((n6 : Nat))) : Int) ≤ (((Int.toNat (IntKind.wrap .i64 (((n2 : Nat)) + ((n6 : Nat)))) - Int.toNat (0)) : Nat) : Int) ∧ (((Int.toNat (IntKind.wrap .i64 (((n2 : Nat)) + ((n6 : Nat)))) - Int.toNat (0)) : Nat) : Int) ≤ ((c3 - Int.toNat (0)) : Nat) ∧
 semH PG B (Extern.SlicesOverlaps.overlaps #[87, 87] #[4] #[(.slice a5 n6 c7), (.slice (if (c3 - Int.toNat (0)) = Int.toNat (IntKind.wrap .i64 ((i4) + ((n6 : Nat)))) then (if c3 = Int.toNat (0) then a1 else Option.map (·.add (Int.toNat (0) * 3)) a1) else Option.map (·.add (Int.toNat (IntKind.wrap .i64 ((i4) + ((n6 : Nat)))) * 3)) (if c3 = Int.toNat (0) then a1 else Option.map (·.add (Int.toNat (0) * 3)) a1)) (Int.toNat (((Int.toNat (IntKind.wrap .i64 (((n2 : Nat)) + ((n6 : Nat)))) - Int.toNat (0)) : Nat)) - Int.toNat (IntKind.wrap .i64 ((i4) + ((n6 : Nat))))) ((c3 - Int.toNat (0)) - Int.toNat (IntKind.wrap .i64 ((i4) + ((n6 : Nat))))))]) h (fun v h23 => ∃ b24 : Bool, v = (.bool b24) ∧
 (b24 = true →
 0 ≤ ((n2 : Nat) : Int) ∧ ((n2 : Nat) : Int) ≤ (((Int.toNat (IntKind.wrap .i64 (((n2 : Nat)) + ((n6 : Nat)))) - Int.toNat (0)) : Nat) : Int) ∧ (((Int.toNat (IntKind.wrap .i64 (((n2 : Nat)) + ((n6 : Nat)))) - Int.toNat (0)) : Nat) : Int) ≤ ((c3 - Int.toNat (0)) : Nat) ∧
 semH PG B (Builtin.copy_ #[87, 87] 3 #[(.slice (if (c3 - Int.toNat (0)) = Int.toNat ((n2 : Nat)) then (if c3 = Int.toNat (0) then a1 else Option.map (·.add (Int.toNat (0) * 3)) a1) else Option.map (·.add (Int.toNat ((n2 : Nat)) * 3)) (if c3 = Int.toNat (0) then a1 else Option.map (·.add (Int.toNat (0) * 3)) a1)) (Int.toNat (((Int.toNat (IntKind.wrap .i64 (((n2 : Nat)) + ((n6 : Nat)))) - Int.toNat (0)) : Nat)) - Int.toNat ((n2 : Nat))) ((c3 - Int.toNat (0)) - Int.toNat ((n2 : Nat)))), (.slice a5 n6 c7)]) h23 (fun v h29 => ∃ i30 : Int, v = (.int .i64 (i30)) ∧
 0 ≤ (i4 : Int) ∧ (i4 : Int) ≤ (((Int.toNat (IntKind.wrap .i64 (((n2 : Nat)) + ((n6 : Nat)))) - Int.toNat (0)) : Nat) : Int) ∧ (((Int.toNat (IntKind.wrap .i64 (((n2 : Nat)) + ((n6 : Nat)))) - Int.toNat (0)) : Nat) : Int) ≤ ((c3 - Int.toNat (0)) : Nat) ∧
 C_slices_rotateRight_draft_entry_file_File B (if (c3 - Int.toNat (0)) = Int.toNat (i4) then (if c3 = Int.toNat (0) then a1 else Option.map (·.add (Int.toNat (0) * 3)) a1) else Option.map (·.add (Int.toNat (i4) * 3)) (if c3 = Int.toNat (0) then a1 else Option.map (·.add (Int.toNat (0) * 3)) a1)) (Int.toNat (((Int.toNat (IntKind.wrap .i64 (((n2 : Nat)) + ((n6 : Nat)))) - Int.toNat (0)) : Nat)) - Int.toNat (i4)) ((c3 - Int.toNat (0)) - Int.toNat (i4)) ((n6 : Nat)) h29 (fun h31 =>
 Fin B h31 (Q (if c3 = Int.toNat (0) then a1 else Option.map (·.add (Int.toNat (0) * 3)) a1) (Int.toNat (IntKind.wrap .i64 (((n2 : Nat)) + ((n6 : Nat)))) - Int.toNat (0)) (c3 - Int.toNat (0)))))) ∧ (b24 = false →
 0 ≤ (IntKind.wrap .i64 ((i4) + ((n6 : Nat))) : Int) ∧ (IntKind.wrap .i64 ((i4) + ((n6 : Nat))) : Int) ≤ (((Int.toNat (IntKind.wrap .i64 (((n2 : Nat)) + ((n6 : Nat)))) - Int.toNat (0)) : Nat) : Int) ∧ (((Int.toNat (IntKind.wrap .i64 (((n2 : Nat)) + ((n6 : Nat)))) - Int.toNat (0)) : Nat) : Int) ≤ ((c3 - Int.toNat (0)) : Nat) ∧
 0 ≤ (i4 : Int) ∧ (i4 : Int) ≤ (((Int.toNat (IntKind.wrap .i64 (((n2 : Nat)) + ((n6 : Nat)))) - Int.toNat (0)) : Nat) : Int) ∧ (((Int.toNat (IntKind.wrap .i64 (((n2 : Nat)) + ((n6 : Nat)))) - Int.toNat (0)) : Nat) : Int) ≤ ((c3 - Int.toNat (0)) : Nat) ∧
 semH PG B (Builtin.copy_ #[87, 87] 3 #[(.slice (if (c3 - Int.toNat (0)) = Int.toNat (IntKind.wrap .i64 ((i4) + ((n6 : Nat)))) then (if c3 = Int.toNat (0) then a1 else Option.map (·.add (Int.toNat (0) * 3)) a1) else Option.map (·.add (Int.toNat (IntKind.wrap .i64 ((i4) + ((n6 : Nat)))) * 3)) (if c3 = Int.toNat (0) then a1 else Option.map (·.add (Int.toNat (0) * 3)) a1)) (Int.toNat (((Int.toNat (IntKind.wrap .i64 (((n2 : Nat)) + ((n6 : Nat)))) - Int.toNat (0)) : Nat)) - Int.toNat (IntKind.wrap .i64 ((i4) + ((n6 : Nat))))) ((c3 - Int.toNat (0)) - Int.toNat (IntKind.wrap .i64 ((i4) + ((n6 : Nat)))))), (.slice (if (c3 - Int.toNat (0)) = Int.toNat (i4) then (if c3 = Int.toNat (0) then a1 else Option.map (·.add (Int.toNat (0) * 3)) a1) else Option.map (·.add (Int.toNat (i4) * 3)) (if c3 = Int.toNat (0) then a1 else Option.map (·.add (Int.toNat (0) * 3)) a1)) (Int.toNat (((Int.toNat (IntKind.wrap .i64 (((n2 : Nat)) + ((n6 : Nat)))) - Int.toNat (0)) : Nat)) - Int.toNat (i4)) ((c3 - Int.toNat (0)) - Int.toNat (i4)))]) h23 (fun v h25 => ∃ i26 : Int, v = (.int .i64 (i26)) ∧
 0 ≤ (i4 : Int) ∧ (i4 : Int) ≤ (((Int.toNat (IntKind.wrap .i64 (((n2 : Nat)) + ((n6 : Nat)))) - Int.toNat (0)) : Nat) : Int) ∧ (((Int.toNat (IntKind.wrap .i64 (((n2 : Nat)) + ((n6 : Nat)))) - Int.toNat (0)) : Nat) : Int) ≤ ((c3 - Int.toNat (0)) : Nat) ∧
 semH PG B (Builtin.copy_ #[87, 87] 3 #[(.slice (if (c3 - Int.toNat (0)) = Int.toNat (i4) then (if c3 = Int.toNat (0) then a1 else Option.map (·.add (Int.toNat (0) * 3)) a1) else Option.map (·.add (Int.toNat (i4) * 3)) (if c3 = Int.toNat (0) then a1 else Option.map (·.add (Int.toNat (0) * 3)) a1)) (Int.toNat (((Int.toNat (IntKind.wrap .i64 (((n2 : Nat)) + ((n6 : Nat)))) - Int.toNat (0)) : Nat)) - Int.toNat (i4)) ((c3 - Int.toNat (0)) - Int.toNat (i4))), (.slice a5 n6 c7)]) h25 (fun v h27 => ∃ i28 : Int, v = (.int .i64 (i28)) ∧
 Fin B h27 (Q (if c3 = Int.toNat (0) then a1 else Option.map (·.add (Int.toNat (0) * 3)) a1) (Int.toNat (IntKind.wrap .i64 (((n2 : Nat)) + ((n6 : Nat)))) - Int.toNat (0)) (c3 - Int.toNat (0))))))))))
def S_draft_Draft_file_File_All_1 (B : RO) (v1 : Value) (A2 : Addr) (h : Heap) (Q : Heap → Prop) : Prop :=
 ∃ p3 : Option Addr, cellH B h A2 = some (.pointer p3) ∧
 (p3 = none →
 Fin B h (Q)) ∧ (¬ (p3 = none) →
 ∃ p5 : Option Addr, cellH B h A2 = some (.pointer p5) ∧
 ∃ A6 : Addr, p5 = some A6 ∧
 LdSl B h A6 fun a8 n9 c10 h11 =>
 ∃ (J17 : Int → Nat → Heap → Prop) (m15 : Nat), Fin B h11 (J17 (0) m15) ∧
 ∀ (i12 : Int) (m14 : Nat) (h13 : Heap), J17 i12 m14 h13 →
 ((i12 : Int) < ((n9 : Nat)) →
 ∃ A18 : Addr, a8 = some A18 ∧ 0 ≤ (i12 : Int) ∧ (i12 : Int) < (n9 : Nat) ∧
 ∃ i20 : Int, ∃ b21 : Bool, ∃ s22 : ByteArray, CellsAt B h13 (Addr.add A18 (Int.toNat (i12) * 3)) 0 [(.int .i64 (i20)), (.bool b21), (.string s22)] ∧
 ∀ k23 : Nat, h13 k23 = none → B k23 = none → ∀ h24 : Heap, h24 = Heap.set h13 k23 (.vec 141 (plains [(.int .i64 (0)), (.bool false), (.string ByteArray.empty)]) 3) →
 ∃ h25 : Heap, StoresAt ⟨k23, 0, none⟩ h24 0 [(.int .i64 (i20)), (.bool b21), (.string s22)] h25 ∧
 ∃ i26 : Int, cellH B h25 ⟨k23, 0, none⟩ = some (.int .i64 (i26)) ∧
 ∃ b27 : Bool, ∃ s28 : ByteArray, CellsAt B h25 ⟨k23, 1, none⟩ 0 [(.bool b27), (.string s28)] ∧
 CallV PG B v1 [(.int .i64 (i26)), (.agg #[(.bool b27), (.string s28)])] h25 (fun v h29 => ∃ b30 : Bool, v = (.bool b30) ∧
 (b30 = true →
 Fin B h29 (fun h' => ∃ m', m' < m14 ∧ J17 (IntKind.wrap .i64 ((i12) + (1))) m' h')) ∧ (b30 = false →
 Fin B h29 (Q)))) ∧ (¬ ((i12 : Int) < ((n9 : Nat))) →
 Fin B h13 (Q)))
def S_wal_Log_Size (B : RO) (p1 : Option Addr) (h : Heap) (Q : Int → Heap → Prop) : Prop :=
 (p1 = none →
 Fin B h (Q (0))) ∧ (¬ (p1 = none) →
 ∃ A4 : Addr, p1 = some A4 ∧
 ∃ i6 : Int, cellH B h (Addr.add A4 2) = some (.int .i64 (i6)) ∧
 Fin B h (Q (i6)))
def S_stylus_Reader_word_J1 (B : RO) (p1 : Option Addr) (i3 : Int) (i4 : Int) (m6 : Nat) (J9 : Int → Int → Nat → Heap → Prop) (s11 : ByteArray) (h13 : Heap) (Q : Int → Heap → Prop) : Prop :=
 0 ≤ (0 : Int) ∧ (0 : Int) < (ByteArray.size s11 : Nat) ∧
 ¬ ((i4 : Int) < 0) ∧
 0 ≤ (0 : Int) ∧ (0 : Int) < (ByteArray.size s11 : Nat) ∧
 ((byteAt s11 (Int.toNat (0)) : Int) < (128) →
 Fin B h13 (Q (IntKind.wrap .u64 ((BitVec.ofInt (IntKind.bits .u64) (i3) ||| BitVec.ofInt (IntKind.bits .u64) (IntKind.wrap .u64 ((IntKind.wrap .u64 (IntKind.wrap .u8 ((BitVec.ofInt (IntKind.bits .u8) (byteAt s11 (Int.toNat (0))) &&& BitVec.ofInt (IntKind.bits .u8) (127)).toNat : Int))) * 2 ^ (min (Int.toNat (i4)) (IntKind.bits .u64))))).toNat : Int)))) ∧ (¬ ((byteAt s11 (Int.toNat (0)) : Int) < (128)) →
 Fin B h13 (fun h' => ∃ m', m' < m6 ∧ J9 (IntKind.wrap .u64 ((BitVec.ofInt (IntKind.bits .u64) (i3) ||| BitVec.ofInt (IntKind.bits .u64) (IntKind.wrap .u64 ((IntKind.wrap .u64 (IntKind.wrap .u8 ((BitVec.ofInt (IntKind.bits .u8) (byteAt s11 (Int.toNat (0))) &&& BitVec.ofInt (IntKind.bits .u8) (127)).toNat : Int))) * 2 ^ (min (Int.toNat (i4)) (IntKind.bits .u64))))).toNat : Int)) (IntKind.wrap .i64 ((i4) + (7))) m' h'))
def S_stylus_Reader_word (B : RO) (p1 : Option Addr) (h : Heap) (Q : Int → Heap → Prop) : Prop :=
 ∃ (J9 : Int → Int → Nat → Heap → Prop) (m7 : Nat), Fin B h (J9 (0) (0) m7) ∧
 ∀ (i3 : Int) (i4 : Int) (m6 : Nat) (h5 : Heap), J9 i3 i4 m6 h5 →
 ((i4 : Int) < (64) →
 C_stylus_Reader_Raw B p1 (1) h5 (fun s11 h10 =>
 (s11 = (ByteArray.mk #[]) →
 C_stylus_Reader_Spoil B p1 h10 (fun h15 =>
 Fin B h15 (Q (0)))) ∧ (¬ (s11 = (ByteArray.mk #[])) →
 ((i4 : Int) = 63 →
 0 ≤ (0 : Int) ∧ (0 : Int) < (ByteArray.size s11 : Nat) ∧
 ((byteAt s11 (Int.toNat (0)) : Int) > (1) →
 C_stylus_Reader_Spoil B p1 h10 (fun h16 =>
 Fin B h16 (Q (0)))) ∧ (¬ ((byteAt s11 (Int.toNat (0)) : Int) > (1)) →
 ((i4 : Int) > (0) →
 0 ≤ (0 : Int) ∧ (0 : Int) < (ByteArray.size s11 : Nat) ∧
 ((byteAt s11 (Int.toNat (0)) : Int) = 0 →
 C_stylus_Reader_Spoil B p1 h10 (fun h17 =>
 Fin B h17 (Q (0)))) ∧ (¬ ((byteAt s11 (Int.toNat (0)) : Int) = 0) →
 Fin B h10 (fun h' => S_stylus_Reader_word_J1 B p1 i3 i4 m6 J9 s11 h' Q))) ∧ (¬ ((i4 : Int) > (0)) →
 Fin B h10 (fun h' => S_stylus_Reader_word_J1 B p1 i3 i4 m6 J9 s11 h' Q)))) ∧ (¬ ((i4 : Int) = 63) →
 ((i4 : Int) > (0) →
 0 ≤ (0 : Int) ∧ (0 : Int) < (ByteArray.size s11 : Nat) ∧
 ((byteAt s11 (Int.toNat (0)) : Int) = 0 →
 C_stylus_Reader_Spoil B p1 h10 (fun h18 =>
 Fin B h18 (Q (0)))) ∧ (¬ ((byteAt s11 (Int.toNat (0)) : Int) = 0) →
 Fin B h10 (fun h' => S_stylus_Reader_word_J1 B p1 i3 i4 m6 J9 s11 h' Q))) ∧ (¬ ((i4 : Int) > (0)) →
 Fin B h10 (fun h' => S_stylus_Reader_word_J1 B p1 i3 i4 m6 J9 s11 h' Q)))))) ∧ (¬ ((i4 : Int) < (64)) →
 C_stylus_Reader_Spoil B p1 h5 (fun h19 =>
 Fin B h19 (Q (0))))
def S_stylus_Reader_Spoil (B : RO) (p1 : Option Addr) (h : Heap) (Q : Heap → Prop) : Prop :=
 (p1 = none →
 Fin B h (Q)) ∧ (¬ (p1 = none) →
 ∃ A3 : Addr, p1 = some A3 ∧
 ∃ h5 : Heap, storeH h A3 (.string (ByteArray.mk #[])) = some h5 ∧
 ∃ A6 : Addr, p1 = some A6 ∧
 ∃ h8 : Heap, storeH h5 (Addr.add A6 1) (.bool true) = some h8 ∧
 Fin B h8 (Q))
def S_cell_Row_file_File_Set (B : RO) (p1 : Option Addr) (i2 : Int) (b3 : Bool) (s4 : ByteArray) (i5 : Int) (h : Heap) (Q : Bool → Heap → Prop) : Prop :=
 ∀ k7 : Nat, h k7 = none → B k7 = none → ∀ h8 : Heap, h8 = Heap.set h k7 (.vec 90 (plains [(.bool b3), (.string s4)]) 2) →
 C_cell_Row_file_File_is B p1 (i2) h8 (fun b10 h9 =>
 (b10 = true →
 ∃ A11 : Addr, p1 = some A11 ∧
 ∃ a13 : Option Addr, ∃ n14 : Nat, ∃ c15 : Nat, cellH B h9 A11 = some (.slice a13 n14 c15) ∧
 ∃ b16 : Bool, ∃ s17 : ByteArray, CellsAt B h9 ⟨k7, 0, none⟩ 0 [(.bool b16), (.string s17)] ∧
 ∃ A18 : Addr, a13 = some A18 ∧ 0 ≤ (i2 : Int) ∧ (i2 : Int) < (n14 : Nat) ∧
 ∃ h20 : Heap, StoresAt (Addr.add A18 (Int.toNat (i2) * 3)) h9 0 [(.bool b16), (.string s17), (.int .i64 (i5))] h20 ∧
 Fin B h20 (Q (true))) ∧ (b10 = false →
 Fin B h9 (Q (false))))
def S_cell_Row_file_File_Get (B : RO) (p1 : Option Addr) (i2 : Int) (h : Heap) (Q : Bool → ByteArray → Int → Heap → Prop) : Prop :=
 ∀ k6 : Nat, h k6 = none → B k6 = none → ∀ h7 : Heap, h7 = Heap.set h k6 (.vec 90 (plains [(.bool false), (.string ByteArray.empty)]) 2) →
 C_cell_Row_file_File_is B p1 (i2) h7 (fun b9 h8 =>
 (b9 = true →
 ∃ A18 : Addr, p1 = some A18 ∧
 ∃ a22 : Option Addr, ∃ n23 : Nat, ∃ c24 : Nat, cellH B h8 A18 = some (.slice a22 n23 c24) ∧
 ∃ A27 : Addr, a22 = some A27 ∧ 0 ≤ (i2 : Int) ∧ (i2 : Int) < (n23 : Nat) ∧
 ∃ b33 : Bool, ∃ s34 : ByteArray, CellsAt B h8 (Addr.add A27 (Int.toNat (i2) * 3)) 0 [(.bool b33), (.string s34)] ∧
 ∃ A37 : Addr, p1 = some A37 ∧
 ∃ a41 : Option Addr, ∃ n42 : Nat, ∃ c43 : Nat, cellH B h8 A37 = some (.slice a41 n42 c43) ∧
 ∃ A46 : Addr, a41 = some A46 ∧ 0 ≤ (i2 : Int) ∧ (i2 : Int) < (n42 : Nat) ∧
 ∃ i52 : Int, cellH B h8 (Addr.add (Addr.add A46 (Int.toNat (i2) * 3)) 2) = some (.int .i64 (i52)) ∧
 ∃ h54 : Heap, StoresAt ⟨k6, 0, none⟩ h8 0 [(.bool b33), (.string s34)] h54 ∧
 cellH B h54 A18 = some (.slice a22 n23 c24) ∧ CellsAt B h54 (Addr.add A27 (Int.toNat (i2) * 3)) 0 [(.bool b33), (.string s34)] ∧ cellH B h54 A37 = some (.slice a41 n42 c43) ∧ cellH B h54 (Addr.add (Addr.add A46 (Int.toNat (i2) * 3)) 2) = some (.int .i64 (i52)) ∧
 ∃ b59 : Bool, ∃ s60 : ByteArray, CellsAt B h54 ⟨k6, 0, none⟩ 0 [(.bool b59), (.string s60)] ∧ Fin B h54 (Q (b59) s60 (i52))) ∧ (b9 = false →
 ∀ k10 : Nat, h8 k10 = none → B k10 = none → ∀ h11 : Heap, h11 = Heap.set h8 k10 (.vec 90 (plains [(.bool false), (.string ByteArray.empty)]) 2) →
 ∃ b12 : Bool, ∃ s13 : ByteArray, CellsAt B h11 ⟨k10, 0, none⟩ 0 [(.bool b12), (.string s13)] ∧
 ∃ h14 : Heap, StoresAt ⟨k6, 0, none⟩ h11 0 [(.bool b12), (.string s13)] h14 ∧
 ∃ b15 : Bool, ∃ s16 : ByteArray, CellsAt B h14 ⟨k6, 0, none⟩ 0 [(.bool b15), (.string s16)] ∧ Fin B h14 (Q (b15) s16 (0))))
def S_wafer_Whole (B : RO) (s1 : ByteArray) (h : Heap) (Q : Int → Heap → Prop) : Prop :=
 ∀ k3 : Nat, h k3 = none → B k3 = none → ∀ h4 : Heap, h4 = Heap.set h k3 (.vec 3 (plains [(.int .i64 (0))]) 1) →
 ∃ h5 : Heap, storeH h4 ⟨k3, 0, none⟩ (.int .i64 (0)) = some h5 ∧
 C_wafer_All B s1 h5 (fun v7 h6 =>
 ∃ (xs13 : List (ByteArray)) (G9 : Heap → Prop) (J12 : Nat → Heap → Prop), Iter PG B v7 (xs13.map (fun x : ByteArray => [(.string x)])) G9 ∧ Ins G9 ∧ (∀ i h, J12 i h → G9 h) ∧ Fin B h6 (J12 0) ∧
 (∀ (q11 : Nat) (h10 : Heap) (s8 : ByteArray), xs13[q11]? = some (s8) → J12 q11 h10 →
 ∃ i14 : Int, cellH B h10 ⟨k3, 0, none⟩ = some (.int .i64 (i14)) ∧
 ∃ h15 : Heap, storeH h10 ⟨k3, 0, none⟩ (.int .i64 (IntKind.wrap .i64 ((i14) + (IntKind.wrap .i64 ((IntKind.wrap .i64 ((2) + ((ByteArray.size s8 : Nat)))) + (4)))))) = some h15 ∧
 Fin B h15 (J12 (q11 + 1))) ∧
 (∀ (h10 : Heap), J12 xs13.length h10 →
 ∃ i16 : Int, cellH B h10 ⟨k3, 0, none⟩ = some (.int .i64 (i16)) ∧
 Fin B h10 (Q (i16))))
def S_wal_Log_All (B : RO) (p1 : Option Addr) (h : Heap) (Q : Value → Heap → Prop) : Prop :=
 ∀ k3 : Nat, h k3 = none → B k3 = none → ∀ h4 : Heap, h4 = Heap.set h k3 (.vec 118 [.plain (.pointer p1)] 1) →
 Fin B h4 (Q (Value.func (.func 85) #[] #[(.pointer (some ⟨k3, 0, none⟩))]))
def S_vault_first (B : RO) (s1 : ByteArray) (h : Heap) (Q : Int → ByteArray → Bool → Heap → Prop) : Prop :=
 C_stylus_Of B s1 h (fun p6 h5 =>
 C_stylus_Reader_Nat B p6 (1) h5 (fun i8 h7 =>
 C_stylus_Reader_Nat B p6 (1099511627776) h7 (fun i10 h9 =>
 C_stylus_Reader_Left B p6 h9 (fun i12 h11 =>
 C_stylus_Reader_Raw B p6 (i12) h11 (fun s14 h13 =>
 C_stylus_Reader_Bad B p6 h13 (fun b16 h15 =>
 (b16 = true →
 Fin B h15 (Q (i10) s14 (false))) ∧ (b16 = false →
 ((i8 : Int) = 0 →
 Fin B h15 (Q (i10) s14 ((decide ((i10 : Int) > (0)))))) ∧ (¬ ((i8 : Int) = 0) →
 Fin B h15 (Q (i10) s14 (false))))))))))
def S_cell_New_file_File (B : RO) (i1 : Int) (b2 : Bool) (s3 : ByteArray) (h : Heap) (Q : Option Addr → Heap → Prop) : Prop :=
 ∀ k5 : Nat, h k5 = none → B k5 = none → ∀ h6 : Heap, h6 = Heap.set h k5 (.vec 90 (plains [(.bool b2), (.string s3)]) 2) →
 ∀ k7 : Nat, h6 k7 = none → B k7 = none → ∀ h8 : Heap, h8 = Heap.set h6 k7 (.vec 180 (plains [(.slice none 0 0)]) 1) →
 ∃ (J14 : Int → Nat → Heap → Prop) (m12 : Nat), Fin B h8 (J14 (0) m12) ∧
 ∀ (i9 : Int) (m11 : Nat) (h10 : Heap), J14 i9 m11 h10 →
 ((i9 : Int) < (i1) →
 ∃ a19 : Option Addr, ∃ n20 : Nat, ∃ c21 : Nat, cellH B h10 ⟨k7, 0, none⟩ = some (.slice a19 n20 c21) ∧
 ∃ b23 : Bool, ∃ s24 : ByteArray, CellsAt B h10 ⟨k5, 0, none⟩ 0 [(.bool b23), (.string s24)] ∧
 ∀ k27 : Nat, h10 k27 = none → B k27 = none → ∀ h28 : Heap, h28 = Heap.set h10 k27 (.vec 177 (plains [(.bool b23), (.string s24), (.int .i64 (0))]) 3) →
 cellH B h28 ⟨k7, 0, none⟩ = some (.slice a19 n20 c21) ∧ CellsAt B h28 ⟨k5, 0, none⟩ 0 [(.bool b23), (.string s24)] ∧
 semH PG B (Builtin.append_ #[178, 178] 178 #[(.slice a19 n20 c21), (.slice (some ⟨k27, 0, none⟩) 1 1)]) h28 (fun v h31 => ∃ a32 : Option Addr, ∃ n33 : Nat, ∃ c34 : Nat, v = (.slice a32 n33 c34) ∧
 cellH B h31 ⟨k7, 0, none⟩ = some (.slice a19 n20 c21) ∧ CellsAt B h31 ⟨k5, 0, none⟩ 0 [(.bool b23), (.string s24)] ∧
 ∃ h37 : Heap, storeH h31 ⟨k7, 0, none⟩ (.slice a32 n33 c34) = some h37 ∧
 Fin B h37 (fun h' => ∃ m', m' < m11 ∧ J14 (IntKind.wrap .i64 ((i9) + (1))) m' h'))) ∧ (¬ ((i9 : Int) < (i1)) →
 Fin B h10 (Q (some ⟨k7, 0, none⟩)))
def S_disk_Disk_Reset_J1 (B : RO) (p1 : Option Addr) (i2 : Int) (h5 : Heap) (Q : Int → Heap → Prop) : Prop :=
 ∃ A6 : Addr, p1 = some A6 ∧
 0 ≤ (i2 : Int) ∧ (i2 : Int) < (2 : Nat) ∧
 ∃ h8 : Heap, storeH h5 (Addr.add A6 (Int.toNat (i2) * 2)) (.string (ByteArray.mk #[])) = some h8 ∧
 ∃ A9 : Addr, p1 = some A9 ∧
 LdSl B h8 (Addr.add A9 4) fun a11 n12 c13 h14 =>
 ∀ k15 : Nat, h14 k15 = none → B k15 = none → ∀ h16 : Heap, h16 = Heap.set h14 k15 (.vec 112 (plains [(.int .i64 (i2)), (.bool true), (.string ByteArray.empty)]) 3) →
 semH PG B (Builtin.append_ #[65, 65] 65 #[(.slice a11 n12 c13), (.slice (some ⟨k15, 0, none⟩) 1 1)]) h16 (fun v h17 => ∃ a18 : Option Addr, ∃ n19 : Nat, ∃ c20 : Nat, v = (.slice a18 n19 c20) ∧
 ∃ A21 : Addr, p1 = some A21 ∧
 ∃ h23 : Heap, storeH h17 (Addr.add A21 4) (.slice a18 n19 c20) = some h23 ∧
 Fin B h23 (Q (0)))
def S_disk_Disk_Reset (B : RO) (p1 : Option Addr) (i2 : Int) (h : Heap) (Q : Int → Heap → Prop) : Prop :=
 (p1 = none →
 Fin B h (Q (2))) ∧ (¬ (p1 = none) →
 C_disk_good B (i2) h (fun b26 h25 =>
 (b26 = true →
 Fin B h25 (fun h' => S_disk_Disk_Reset_J1 B p1 i2 h' Q)) ∧ (b26 = false →
 Fin B h25 (Q (1)))))
def S_disk_Disk_Sync (B : RO) (p1 : Option Addr) (h : Heap) (Q : Heap → Prop) : Prop :=
 (p1 = none →
 Fin B h (Q)) ∧ (¬ (p1 = none) →
 ∃ A3 : Addr, p1 = some A3 ∧
 LdSl B h (Addr.add A3 4) fun a5 n6 c7 h8 =>
 ∃ (J14 : Int → Nat → Heap → Prop) (m12 : Nat), Fin B h8 (J14 (0) m12) ∧
 ∀ (i9 : Int) (m11 : Nat) (h10 : Heap), J14 i9 m11 h10 →
 ((i9 : Int) < ((n6 : Nat)) →
 ∃ A15 : Addr, a5 = some A15 ∧ 0 ≤ (i9 : Int) ∧ (i9 : Int) < (n6 : Nat) ∧
 ∃ i17 : Int, ∃ b18 : Bool, ∃ s19 : ByteArray, CellsAt B h10 (Addr.add A15 (Int.toNat (i9) * 3)) 0 [(.int .i64 (i17)), (.bool b18), (.string s19)] ∧
 ∀ k20 : Nat, h10 k20 = none → B k20 = none → ∀ h21 : Heap, h21 = Heap.set h10 k20 (.vec 112 (plains [(.int .i64 (0)), (.bool false), (.string ByteArray.empty)]) 3) →
 ∃ h22 : Heap, StoresAt ⟨k20, 0, none⟩ h21 0 [(.int .i64 (i17)), (.bool b18), (.string s19)] h22 ∧
 ∃ i23 : Int, ∃ b24 : Bool, ∃ s25 : ByteArray, CellsAt B h22 ⟨k20, 0, none⟩ 0 [(.int .i64 (i23)), (.bool b24), (.string s25)] ∧
 C_disk_Disk_land B p1 (i23) (b24) s25 h22 (fun h26 =>
 Fin B h26 (fun h' => ∃ m', m' < m11 ∧ J14 (IntKind.wrap .i64 ((i9) + (1))) m' h'))) ∧ (¬ ((i9 : Int) < ((n6 : Nat))) →
 ∃ A27 : Addr, p1 = some A27 ∧
 ∃ h29 : Heap, storeH h10 (Addr.add A27 4) (.slice none 0 0) = some h29 ∧
 Fin B h29 (Q)))
def S_wafer_Close (B : RO) (s1 : ByteArray) (h : Heap) (Q : ByteArray → Heap → Prop) : Prop :=
 (((ByteArray.size s1 : Nat) : Int) > (1024) →
 Fin B h (Q (ByteArray.mk #[]))) ∧ (¬ (((ByteArray.size s1 : Nat) : Int) > (1024)) →
 ¬ ((8 : Int) < 0) ∧
 ∀ k3 : Nat, h k3 = none → B k3 = none → ∀ h4 : Heap, h4 = Heap.set h k3 (.vec 5 (plains [(.int .u8 (IntKind.wrap .u8 (Int.fdiv ((ByteArray.size s1 : Nat)) (2 ^ (min (Int.toNat (8)) (IntKind.bits .i64)))))), (.int .u8 (IntKind.wrap .u8 ((ByteArray.size s1 : Nat))))]) 2) →
 semH PG B (convert 104 9 (.slice (some ⟨k3, 0, none⟩) 2 2)) h4 (fun v h6 => ∃ s5 : ByteArray, v = (.string s5) ∧
 ByteArray.size s5 + ByteArray.size s1 ≤ 4611686018427387904 ∧
 C_wafer_Sum B (s5 ++ s1) h6 (fun i8 h7 =>
 C_wafer_foots B (i8) h7 (fun s10 h9 =>
 ByteArray.size (s5 ++ s1) + ByteArray.size s10 ≤ 4611686018427387904 ∧
 Fin B h9 (Q ((s5 ++ s1) ++ s10))))))
def S_disk_Disk_Append_J1 (B : RO) (p1 : Option Addr) (i2 : Int) (s3 : ByteArray) (h6 : Heap) (Q : Int → Heap → Prop) : Prop :=
 ∃ A7 : Addr, p1 = some A7 ∧
 0 ≤ (i2 : Int) ∧ (i2 : Int) < (2 : Nat) ∧
 ∃ s9 : ByteArray, cellH B h6 (Addr.add A7 (Int.toNat (i2) * 2)) = some (.string s9) ∧
 ByteArray.size s9 + ByteArray.size s3 ≤ 4611686018427387904 ∧
 ∃ A10 : Addr, p1 = some A10 ∧
 0 ≤ (i2 : Int) ∧ (i2 : Int) < (2 : Nat) ∧
 ∃ h12 : Heap, storeH h6 (Addr.add A10 (Int.toNat (i2) * 2)) (.string (s9 ++ s3)) = some h12 ∧
 ∃ A13 : Addr, p1 = some A13 ∧
 LdSl B h12 (Addr.add A13 4) fun a15 n16 c17 h18 =>
 ∀ k19 : Nat, h18 k19 = none → B k19 = none → ∀ h20 : Heap, h20 = Heap.set h18 k19 (.vec 112 (plains [(.int .i64 (i2)), (.bool false), (.string s3)]) 3) →
 semH PG B (Builtin.append_ #[65, 65] 65 #[(.slice a15 n16 c17), (.slice (some ⟨k19, 0, none⟩) 1 1)]) h20 (fun v h21 => ∃ a22 : Option Addr, ∃ n23 : Nat, ∃ c24 : Nat, v = (.slice a22 n23 c24) ∧
 ∃ A25 : Addr, p1 = some A25 ∧
 ∃ h27 : Heap, storeH h21 (Addr.add A25 4) (.slice a22 n23 c24) = some h27 ∧
 Fin B h27 (Q (0)))
def S_disk_Disk_Append (B : RO) (p1 : Option Addr) (i2 : Int) (s3 : ByteArray) (h : Heap) (Q : Int → Heap → Prop) : Prop :=
 (p1 = none →
 Fin B h (Q (2))) ∧ (¬ (p1 = none) →
 C_disk_good B (i2) h (fun b30 h29 =>
 (b30 = true →
 ∃ A31 : Addr, p1 = some A31 ∧
 0 ≤ (i2 : Int) ∧ (i2 : Int) < (2 : Nat) ∧
 ∃ s33 : ByteArray, cellH B h29 (Addr.add A31 (Int.toNat (i2) * 2)) = some (.string s33) ∧
 (((ByteArray.size s3 : Nat) : Int) > (IntKind.wrap .i64 ((16384) - ((ByteArray.size s33 : Nat)))) →
 Fin B h29 (Q (6))) ∧ (¬ (((ByteArray.size s3 : Nat) : Int) > (IntKind.wrap .i64 ((16384) - ((ByteArray.size s33 : Nat))))) →
 Fin B h29 (fun h' => S_disk_Disk_Append_J1 B p1 i2 s3 h' Q))) ∧ (b30 = false →
 Fin B h29 (Q (1)))))
def S_tome_Tome_All (B : RO) (p1 : Option Addr) (h : Heap) (Q : Value → Heap → Prop) : Prop :=
 ∀ k3 : Nat, h k3 = none → B k3 = none → ∀ h4 : Heap, h4 = Heap.set h k3 (.vec 44 [.plain (.pointer p1)] 1) →
 Fin B h4 (Q (Value.func (.func 88) #[] #[(.pointer (some ⟨k3, 0, none⟩))]))
def S_slices_BinarySearchFunc_s_draft_entry_file_File_draft_entry_file_File_int_J1 (B : RO) (a1 : Option Addr) (n2 : Nat) (c3 : Nat) (i4 : Int) (v5 : Value) (i9 : Int) (h10 : Heap) (Q : Int → Bool → Heap → Prop) : Prop :=
 ((i9 : Int) < ((n2 : Nat)) →
 ∃ A11 : Addr, a1 = some A11 ∧ 0 ≤ (i9 : Int) ∧ (i9 : Int) < (n2 : Nat) ∧
 ∃ i13 : Int, ∃ b14 : Bool, ∃ s15 : ByteArray, CellsAt B h10 (Addr.add A11 (Int.toNat (i9) * 3)) 0 [(.int .i64 (i13)), (.bool b14), (.string s15)] ∧
 CallV PG B v5 [(.agg #[(.int .i64 (i13)), (.bool b14), (.string s15)]), (.int .i64 (i4))] h10 (fun v h16 => ∃ i17 : Int, v = (.int .i64 (i17)) ∧
 Fin B h16 (Q (i9) (((i17 : Int) == (0)))))) ∧ (¬ ((i9 : Int) < ((n2 : Nat))) →
 Fin B h10 (Q (i9) (false)))
def S_slices_BinarySearchFunc_s_draft_entry_file_File_draft_entry_file_File_int (B : RO) (a1 : Option Addr) (n2 : Nat) (c3 : Nat) (i4 : Int) (v5 : Value) (h : Heap) (Q : Int → Bool → Heap → Prop) : Prop :=
 ∃ (J24 : Int → Int → Nat → Heap → Prop) (m22 : Nat), Fin B h (J24 (0) ((n2 : Nat)) m22) ∧
 ∀ (i18 : Int) (i19 : Int) (m21 : Nat) (h20 : Heap), J24 i18 i19 m21 h20 →
 ((i18 : Int) < (i19) →
 ¬ ((1 : Int) < 0) ∧
 ∃ A25 : Addr, a1 = some A25 ∧ 0 ≤ (IntKind.wrap .i64 (Int.fdiv (IntKind.wrap .u64 (IntKind.wrap .i64 ((i18) + (i19)))) (2 ^ (min (Int.toNat (1)) (IntKind.bits .u64)))) : Int) ∧ (IntKind.wrap .i64 (Int.fdiv (IntKind.wrap .u64 (IntKind.wrap .i64 ((i18) + (i19)))) (2 ^ (min (Int.toNat (1)) (IntKind.bits .u64)))) : Int) < (n2 : Nat) ∧
 ∃ i27 : Int, ∃ b28 : Bool, ∃ s29 : ByteArray, CellsAt B h20 (Addr.add A25 (Int.toNat (IntKind.wrap .i64 (Int.fdiv (IntKind.wrap .u64 (IntKind.wrap .i64 ((i18) + (i19)))) (2 ^ (min (Int.toNat (1)) (IntKind.bits .u64))))) * 3)) 0 [(.int .i64 (i27)), (.bool b28), (.string s29)] ∧
 CallV PG B v5 [(.agg #[(.int .i64 (i27)), (.bool b28), (.string s29)]), (.int .i64 (i4))] h20 (fun v h30 => ∃ i31 : Int, v = (.int .i64 (i31)) ∧
 ((i31 : Int) < (0) →
 Fin B h30 (fun h' => ∃ m', m' < m21 ∧ J24 (IntKind.wrap .i64 ((IntKind.wrap .i64 (Int.fdiv (IntKind.wrap .u64 (IntKind.wrap .i64 ((i18) + (i19)))) (2 ^ (min (Int.toNat (1)) (IntKind.bits .u64))))) + (1))) (i19) m' h')) ∧ (¬ ((i31 : Int) < (0)) →
 Fin B h30 (fun h' => ∃ m', m' < m21 ∧ J24 (i18) (IntKind.wrap .i64 (Int.fdiv (IntKind.wrap .u64 (IntKind.wrap .i64 ((i18) + (i19)))) (2 ^ (min (Int.toNat (1)) (IntKind.bits .u64))))) m' h')))) ∧ (¬ ((i18 : Int) < (i19)) →
 Fin B h20 (fun h' => S_slices_BinarySearchFunc_s_draft_entry_file_File_draft_entry_file_File_int_J1 B a1 n2 c3 i4 v5 (i18) h' Q))
def S_draft_by_file_File (B : RO) (i1 : Int) (b2 : Bool) (s3 : ByteArray) (i4 : Int) (h : Heap) (Q : Int → Heap → Prop) : Prop :=
 ∀ k6 : Nat, h k6 = none → B k6 = none → ∀ h7 : Heap, h7 = Heap.set h k6 (.vec 141 (plains [(.int .i64 (i1)), (.bool b2), (.string s3)]) 3) →
 ∃ i8 : Int, cellH B h7 ⟨k6, 0, none⟩ = some (.int .i64 (i8)) ∧
 ((i8 : Int) < (i4) →
 Fin B h7 (Q ((-1)))) ∧ (¬ ((i8 : Int) < (i4)) →
 ∃ i9 : Int, cellH B h7 ⟨k6, 0, none⟩ = some (.int .i64 (i9)) ∧
 ((i9 : Int) > (i4) →
 Fin B h7 (Q (1))) ∧ (¬ ((i9 : Int) > (i4)) →
 Fin B h7 (Q (0))))
def S_cell_Row_file_File_is (B : RO) (p1 : Option Addr) (i2 : Int) (h : Heap) (Q : Bool → Heap → Prop) : Prop :=
 (p1 = none →
 Fin B h (Q (false))) ∧ (¬ (p1 = none) →
 ((i2 : Int) ≥ (0) →
 ∃ A5 : Addr, p1 = some A5 ∧
 LdSl B h A5 fun a7 n8 c9 h10 =>
 Fin B h10 (Q ((decide ((i2 : Int) < ((n8 : Nat))))))) ∧ (¬ ((i2 : Int) ≥ (0)) →
 Fin B h (Q (false))))
def S_wafer_All (B : RO) (s1 : ByteArray) (h : Heap) (Q : Value → Heap → Prop) : Prop :=
 ∀ k3 : Nat, h k3 = none → B k3 = none → ∀ h4 : Heap, h4 = Heap.set h k3 (.vec 9 [.plain (.string s1)] 1) →
 Fin B h4 (Q (Value.func (.func 91) #[] #[(.pointer (some ⟨k3, 0, none⟩))]))
def S_wal_Log_All_1 (B : RO) (v1 : Value) (A2 : Addr) (h : Heap) (Q : Heap → Prop) : Prop :=
 isOne v1 = true ∧
 ∀ k3 : Nat, h k3 = none → B k3 = none → ∀ h4 : Heap, h4 = Heap.set h k3 (.vec 182 [.plain v1] 1) →
 ∃ p5 : Option Addr, cellH B h4 A2 = some (.pointer p5) ∧
 (p5 = none →
 Fin B h4 (Q)) ∧ (¬ (p5 = none) →
 ∃ p7 : Option Addr, cellH B h4 A2 = some (.pointer p7) ∧
 ∃ A8 : Addr, p7 = some A8 ∧
 ∃ p10 : Option Addr, cellH B h4 A8 = some (.pointer p10) ∧
 ∃ p11 : Option Addr, cellH B h4 A2 = some (.pointer p11) ∧
 ∃ A12 : Addr, p11 = some A12 ∧
 ∃ i14 : Int, cellH B h4 (Addr.add A12 1) = some (.int .i64 (i14)) ∧
 C_disk_Disk_Read B p10 (i14) h4 (fun s16 h15 =>
 C_wafer_All B s16 h15 (fun v18 h17 =>
 ∃ (xs24 : List (ByteArray)) (G20 : Heap → Prop) (J23 : Nat → Heap → Prop), Iter PG B v18 (xs24.map (fun x : ByteArray => [(.string x)])) G20 ∧ Ins G20 ∧ (∀ i h, J23 i h → G20 h) ∧ Fin B h17 (J23 0) ∧
 (∀ (q22 : Nat) (h21 : Heap) (s19 : ByteArray), xs24[q22]? = some (s19) → J23 q22 h21 →
 ∃ v25 : Value, cellH B h21 ⟨k3, 0, none⟩ = some v25 ∧
 CallV PG B v25 [(.string s19)] h21 (fun v h26 => ∃ b27 : Bool, v = (.bool b27) ∧
 (b27 = true →
 Fin B h26 (J23 (q22 + 1))) ∧ (b27 = false →
 Fin B h26 (Q)))) ∧
 (∀ (h21 : Heap), J23 xs24.length h21 →
 Fin B h21 (Q)))))
def S_wafer_foots (B : RO) (i1 : Int) (h : Heap) (Q : ByteArray → Heap → Prop) : Prop :=
 ¬ ((8 : Int) < 0) ∧
 ¬ ((16 : Int) < 0) ∧
 ¬ ((24 : Int) < 0) ∧
 ∀ k3 : Nat, h k3 = none → B k3 = none → ∀ h4 : Heap, h4 = Heap.set h k3 (.vec 5 (plains [(.int .u8 (IntKind.wrap .u8 (i1))), (.int .u8 (IntKind.wrap .u8 (Int.fdiv (i1) (2 ^ (min (Int.toNat (8)) (IntKind.bits .u32)))))), (.int .u8 (IntKind.wrap .u8 (Int.fdiv (i1) (2 ^ (min (Int.toNat (16)) (IntKind.bits .u32)))))), (.int .u8 (IntKind.wrap .u8 (Int.fdiv (i1) (2 ^ (min (Int.toNat (24)) (IntKind.bits .u32))))))]) 4) →
 semH PG B (convert 104 9 (.slice (some ⟨k3, 0, none⟩) 4 4)) h4 (fun v h6 => ∃ s5 : ByteArray, v = (.string s5) ∧
 Fin B h6 (Q s5))
def S_wafer_Sum (B : RO) (s1 : ByteArray) (h : Heap) (Q : Int → Heap → Prop) : Prop :=
 ∃ (J9 : Int → Int → Nat → Heap → Prop) (m7 : Nat), Fin B h (J9 (4294967295) (0) m7) ∧
 ∀ (i3 : Int) (i4 : Int) (m6 : Nat) (h5 : Heap), J9 i3 i4 m6 h5 →
 ((i4 : Int) < ((ByteArray.size s1 : Nat)) →
 0 ≤ (i4 : Int) ∧ (i4 : Int) < (ByteArray.size s1 : Nat) ∧
 ∃ (J16 : Int → Int → Nat → Heap → Prop) (m14 : Nat), Fin B h5 (J16 (IntKind.wrap .u32 ((BitVec.ofInt (IntKind.bits .u32) (i3) ^^^ BitVec.ofInt (IntKind.bits .u32) (IntKind.wrap .u32 (byteAt s1 (Int.toNat (i4))))).toNat : Int)) (0) m14) ∧
 ∀ (i10 : Int) (i11 : Int) (m13 : Nat) (h12 : Heap), J16 i10 i11 m13 h12 →
 ((i11 : Int) < (8) →
 ¬ ((1 : Int) < 0) ∧
 Fin B h12 (fun h' => ∃ m', m' < m13 ∧ J16 (IntKind.wrap .u32 ((BitVec.ofInt (IntKind.bits .u32) (Int.fdiv (i10) (2 ^ (min (Int.toNat (1)) (IntKind.bits .u32)))) ^^^ BitVec.ofInt (IntKind.bits .u32) (IntKind.wrap .u32 ((BitVec.ofInt (IntKind.bits .u32) (2197175160) &&& BitVec.ofInt (IntKind.bits .u32) (IntKind.wrap .u32 (0 - (IntKind.wrap .u32 ((BitVec.ofInt (IntKind.bits .u32) (i10) &&& BitVec.ofInt (IntKind.bits .u32) (1)).toNat : Int))))).toNat : Int))).toNat : Int)) (IntKind.wrap .i64 ((i11) + (1))) m' h')) ∧ (¬ ((i11 : Int) < (8)) →
 Fin B h12 (fun h' => ∃ m', m' < m6 ∧ J9 (i10) (IntKind.wrap .i64 ((i4) + (1))) m' h'))) ∧ (¬ ((i4 : Int) < ((ByteArray.size s1 : Nat))) →
 Fin B h5 (Q (IntKind.wrap .u32 (((BitVec.ofInt (IntKind.bits .u32) (if IntKind.signed .u32 then (-1 : Int) else IntKind.max .u32) ^^^ BitVec.ofInt (IntKind.bits .u32) (i3)).toNat : Int)))))
def S_tome_Tome_All_1 (B : RO) (v1 : Value) (A2 : Addr) (h : Heap) (Q : Heap → Prop) : Prop :=
 isOne v1 = true ∧
 ∀ k3 : Nat, h k3 = none → B k3 = none → ∀ h4 : Heap, h4 = Heap.set h k3 (.vec 94 [.plain v1] 1) →
 ∃ p5 : Option Addr, cellH B h4 A2 = some (.pointer p5) ∧
 (p5 = none →
 Fin B h4 (Q)) ∧ (¬ (p5 = none) →
 ∃ p7 : Option Addr, cellH B h4 A2 = some (.pointer p7) ∧
 ∃ A8 : Addr, p7 = some A8 ∧
 ∃ p10 : Option Addr, cellH B h4 A8 = some (.pointer p10) ∧
 C_cell_Row_file_File_All B p10 h4 (fun v12 h11 =>
 ∃ (xs20 : List (Int × Bool × ByteArray)) (G16 : Heap → Prop) (J19 : Nat → Heap → Prop), Iter PG B v12 (xs20.map (fun x : Int × Bool × ByteArray => [(.int .i64 (x.1)), (.agg #[(.bool x.2.1), (.string x.2.2)])])) G16 ∧ Ins G16 ∧ (∀ i h, J19 i h → G16 h) ∧ Fin B h11 (J19 0) ∧
 (∀ (q18 : Nat) (h17 : Heap) (i13 : Int) (b14 : Bool) (s15 : ByteArray), xs20[q18]? = some (i13, b14, s15) → J19 q18 h17 →
 ∀ k21 : Nat, h17 k21 = none → B k21 = none → ∀ h22 : Heap, h22 = Heap.set h17 k21 (.vec 90 (plains [(.bool false), (.string ByteArray.empty)]) 2) →
 ∃ h23 : Heap, StoresAt ⟨k21, 0, none⟩ h22 0 [(.bool b14), (.string s15)] h23 ∧
 ∃ b24 : Bool, cellH B h23 ⟨k21, 0, none⟩ = some (.bool b24) ∧ (b24 = true →
 ∃ v25 : Value, cellH B h23 ⟨k3, 0, none⟩ = some v25 ∧
 ∃ b26 : Bool, ∃ s27 : ByteArray, CellsAt B h23 ⟨k21, 0, none⟩ 0 [(.bool b26), (.string s27)] ∧
 CallV PG B v25 [(.int .i64 (i13)), (.agg #[(.bool b26), (.string s27)])] h23 (fun v h28 => ∃ b29 : Bool, v = (.bool b29) ∧
 (b29 = true →
 Fin B h28 (J19 (q18 + 1))) ∧ (b29 = false →
 Fin B h28 (Q)))) ∧ (b24 = false →
 Fin B h23 (J19 (q18 + 1)))) ∧
 (∀ (h17 : Heap), J19 xs20.length h17 →
 Fin B h17 (Q))))
def S_cell_Row_file_File_All (B : RO) (p1 : Option Addr) (h : Heap) (Q : Value → Heap → Prop) : Prop :=
 ∀ k3 : Nat, h k3 = none → B k3 = none → ∀ h4 : Heap, h4 = Heap.set h k3 (.vec 149 [.plain (.pointer p1)] 1) →
 Fin B h4 (Q (Value.func (.func 93) #[] #[(.pointer (some ⟨k3, 0, none⟩))]))
def S_wafer_All_1 (B : RO) (v1 : Value) (A2 : Addr) (h : Heap) (Q : Heap → Prop) : Prop :=
 ∃ s3 : ByteArray, cellH B h A2 = some (.string s3) ∧
 ∃ (J9 : ByteArray → Nat → Heap → Prop) (m7 : Nat), Fin B h (J9 s3 m7) ∧
 ∀ (s4 : ByteArray) (m6 : Nat) (h5 : Heap), J9 s4 m6 h5 →
 C_wafer_Open B s4 h5 (fun s11 i12 h10 =>
 ((i12 : Int) = 0 →
 Fin B h10 (Q)) ∧ (¬ ((i12 : Int) = 0) →
 CallV PG B v1 [(.string s11)] h10 (fun v h13 => ∃ b14 : Bool, v = (.bool b14) ∧
 (b14 = true →
 0 ≤ (i12 : Int) ∧ (i12 : Int) ≤ ((ByteArray.size s4 : Nat) : Int) ∧ ((ByteArray.size s4 : Nat) : Int) ≤ (ByteArray.size s4 : Nat) ∧
 Fin B h13 (fun h' => ∃ m', m' < m6 ∧ J9 (ByteArray.extract s4 (Int.toNat (i12)) (Int.toNat ((ByteArray.size s4 : Nat)))) m' h')) ∧ (b14 = false →
 Fin B h13 (Q)))))
def S_wafer_Open_J1 (B : RO) (s1 : ByteArray) (h5 : Heap) (Q : ByteArray → Int → Heap → Prop) : Prop :=
 0 ≤ (0 : Int) ∧ (0 : Int) ≤ (IntKind.wrap .i64 ((2) + (IntKind.wrap .i64 ((BitVec.ofInt (IntKind.bits .i64) (IntKind.wrap .i64 ((IntKind.wrap .i64 (byteAt s1 (Int.toNat (0)))) * 2 ^ (min (Int.toNat (8)) (IntKind.bits .i64)))) ||| BitVec.ofInt (IntKind.bits .i64) (IntKind.wrap .i64 (byteAt s1 (Int.toNat (1))))).toNat : Int))) : Int) ∧ (IntKind.wrap .i64 ((2) + (IntKind.wrap .i64 ((BitVec.ofInt (IntKind.bits .i64) (IntKind.wrap .i64 ((IntKind.wrap .i64 (byteAt s1 (Int.toNat (0)))) * 2 ^ (min (Int.toNat (8)) (IntKind.bits .i64)))) ||| BitVec.ofInt (IntKind.bits .i64) (IntKind.wrap .i64 (byteAt s1 (Int.toNat (1))))).toNat : Int))) : Int) ≤ (ByteArray.size s1 : Nat) ∧
 0 ≤ (IntKind.wrap .i64 ((2) + (IntKind.wrap .i64 ((BitVec.ofInt (IntKind.bits .i64) (IntKind.wrap .i64 ((IntKind.wrap .i64 (byteAt s1 (Int.toNat (0)))) * 2 ^ (min (Int.toNat (8)) (IntKind.bits .i64)))) ||| BitVec.ofInt (IntKind.bits .i64) (IntKind.wrap .i64 (byteAt s1 (Int.toNat (1))))).toNat : Int))) : Int) ∧ (IntKind.wrap .i64 ((2) + (IntKind.wrap .i64 ((BitVec.ofInt (IntKind.bits .i64) (IntKind.wrap .i64 ((IntKind.wrap .i64 (byteAt s1 (Int.toNat (0)))) * 2 ^ (min (Int.toNat (8)) (IntKind.bits .i64)))) ||| BitVec.ofInt (IntKind.bits .i64) (IntKind.wrap .i64 (byteAt s1 (Int.toNat (1))))).toNat : Int))) : Int) ≤ (IntKind.wrap .i64 ((IntKind.wrap .i64 ((2) + (IntKind.wrap .i64 ((BitVec.ofInt (IntKind.bits .i64) (IntKind.wrap .i64 ((IntKind.wrap .i64 (byteAt s1 (Int.toNat (0)))) * 2 ^ (min (Int.toNat (8)) (IntKind.bits .i64)))) ||| BitVec.ofInt (IntKind.bits .i64) (IntKind.wrap .i64 (byteAt s1 (Int.toNat (1))))).toNat : Int)))) + (4)) : Int) ∧ (IntKind.wrap .i64 ((IntKind.wrap .i64 ((2) + (IntKind.wrap .i64 ((BitVec.ofInt (IntKind.bits .i64) (IntKind.wrap .i64 ((IntKind.wrap .i64 (byteAt s1 (Int.toNat (0)))) * 2 ^ (min (Int.toNat (8)) (IntKind.bits .i64)))) ||| BitVec.ofInt (IntKind.bits .i64) (IntKind.wrap .i64 (byteAt s1 (Int.toNat (1))))).toNat : Int)))) + (4)) : Int) ≤ (ByteArray.size s1 : Nat) ∧
 C_wafer_Sum B (ByteArray.extract s1 (Int.toNat (0)) (Int.toNat (IntKind.wrap .i64 ((2) + (IntKind.wrap .i64 ((BitVec.ofInt (IntKind.bits .i64) (IntKind.wrap .i64 ((IntKind.wrap .i64 (byteAt s1 (Int.toNat (0)))) * 2 ^ (min (Int.toNat (8)) (IntKind.bits .i64)))) ||| BitVec.ofInt (IntKind.bits .i64) (IntKind.wrap .i64 (byteAt s1 (Int.toNat (1))))).toNat : Int)))))) h5 (fun i22 h21 =>
 C_wafer_foots B (i22) h21 (fun s24 h23 =>
 (s24 = (ByteArray.extract s1 (Int.toNat (IntKind.wrap .i64 ((2) + (IntKind.wrap .i64 ((BitVec.ofInt (IntKind.bits .i64) (IntKind.wrap .i64 ((IntKind.wrap .i64 (byteAt s1 (Int.toNat (0)))) * 2 ^ (min (Int.toNat (8)) (IntKind.bits .i64)))) ||| BitVec.ofInt (IntKind.bits .i64) (IntKind.wrap .i64 (byteAt s1 (Int.toNat (1))))).toNat : Int))))) (Int.toNat (IntKind.wrap .i64 ((IntKind.wrap .i64 ((2) + (IntKind.wrap .i64 ((BitVec.ofInt (IntKind.bits .i64) (IntKind.wrap .i64 ((IntKind.wrap .i64 (byteAt s1 (Int.toNat (0)))) * 2 ^ (min (Int.toNat (8)) (IntKind.bits .i64)))) ||| BitVec.ofInt (IntKind.bits .i64) (IntKind.wrap .i64 (byteAt s1 (Int.toNat (1))))).toNat : Int)))) + (4))))) →
 0 ≤ (2 : Int) ∧ (2 : Int) ≤ (IntKind.wrap .i64 ((2) + (IntKind.wrap .i64 ((BitVec.ofInt (IntKind.bits .i64) (IntKind.wrap .i64 ((IntKind.wrap .i64 (byteAt s1 (Int.toNat (0)))) * 2 ^ (min (Int.toNat (8)) (IntKind.bits .i64)))) ||| BitVec.ofInt (IntKind.bits .i64) (IntKind.wrap .i64 (byteAt s1 (Int.toNat (1))))).toNat : Int))) : Int) ∧ (IntKind.wrap .i64 ((2) + (IntKind.wrap .i64 ((BitVec.ofInt (IntKind.bits .i64) (IntKind.wrap .i64 ((IntKind.wrap .i64 (byteAt s1 (Int.toNat (0)))) * 2 ^ (min (Int.toNat (8)) (IntKind.bits .i64)))) ||| BitVec.ofInt (IntKind.bits .i64) (IntKind.wrap .i64 (byteAt s1 (Int.toNat (1))))).toNat : Int))) : Int) ≤ (ByteArray.size s1 : Nat) ∧
 Fin B h23 (Q (ByteArray.extract s1 (Int.toNat (2)) (Int.toNat (IntKind.wrap .i64 ((2) + (IntKind.wrap .i64 ((BitVec.ofInt (IntKind.bits .i64) (IntKind.wrap .i64 ((IntKind.wrap .i64 (byteAt s1 (Int.toNat (0)))) * 2 ^ (min (Int.toNat (8)) (IntKind.bits .i64)))) ||| BitVec.ofInt (IntKind.bits .i64) (IntKind.wrap .i64 (byteAt s1 (Int.toNat (1))))).toNat : Int)))))) (IntKind.wrap .i64 ((IntKind.wrap .i64 ((2) + (IntKind.wrap .i64 ((BitVec.ofInt (IntKind.bits .i64) (IntKind.wrap .i64 ((IntKind.wrap .i64 (byteAt s1 (Int.toNat (0)))) * 2 ^ (min (Int.toNat (8)) (IntKind.bits .i64)))) ||| BitVec.ofInt (IntKind.bits .i64) (IntKind.wrap .i64 (byteAt s1 (Int.toNat (1))))).toNat : Int)))) + (4))))) ∧ (¬ (s24 = (ByteArray.extract s1 (Int.toNat (IntKind.wrap .i64 ((2) + (IntKind.wrap .i64 ((BitVec.ofInt (IntKind.bits .i64) (IntKind.wrap .i64 ((IntKind.wrap .i64 (byteAt s1 (Int.toNat (0)))) * 2 ^ (min (Int.toNat (8)) (IntKind.bits .i64)))) ||| BitVec.ofInt (IntKind.bits .i64) (IntKind.wrap .i64 (byteAt s1 (Int.toNat (1))))).toNat : Int))))) (Int.toNat (IntKind.wrap .i64 ((IntKind.wrap .i64 ((2) + (IntKind.wrap .i64 ((BitVec.ofInt (IntKind.bits .i64) (IntKind.wrap .i64 ((IntKind.wrap .i64 (byteAt s1 (Int.toNat (0)))) * 2 ^ (min (Int.toNat (8)) (IntKind.bits .i64)))) ||| BitVec.ofInt (IntKind.bits .i64) (IntKind.wrap .i64 (byteAt s1 (Int.toNat (1))))).toNat : Int)))) + (4)))))) →
 Fin B h23 (Q (ByteArray.mk #[]) (0)))))
def S_wafer_Open (B : RO) (s1 : ByteArray) (h : Heap) (Q : ByteArray → Int → Heap → Prop) : Prop :=
 (((ByteArray.size s1 : Nat) : Int) < (2) →
 Fin B h (Q (ByteArray.mk #[]) (0))) ∧ (¬ (((ByteArray.size s1 : Nat) : Int) < (2)) →
 0 ≤ (0 : Int) ∧ (0 : Int) < (ByteArray.size s1 : Nat) ∧
 ¬ ((8 : Int) < 0) ∧
 0 ≤ (1 : Int) ∧ (1 : Int) < (ByteArray.size s1 : Nat) ∧
 ((IntKind.wrap .i64 ((BitVec.ofInt (IntKind.bits .i64) (IntKind.wrap .i64 ((IntKind.wrap .i64 (byteAt s1 (Int.toNat (0)))) * 2 ^ (min (Int.toNat (8)) (IntKind.bits .i64)))) ||| BitVec.ofInt (IntKind.bits .i64) (IntKind.wrap .i64 (byteAt s1 (Int.toNat (1))))).toNat : Int) : Int) > (1024) →
 Fin B h (Q (ByteArray.mk #[]) (0))) ∧ (¬ ((IntKind.wrap .i64 ((BitVec.ofInt (IntKind.bits .i64) (IntKind.wrap .i64 ((IntKind.wrap .i64 (byteAt s1 (Int.toNat (0)))) * 2 ^ (min (Int.toNat (8)) (IntKind.bits .i64)))) ||| BitVec.ofInt (IntKind.bits .i64) (IntKind.wrap .i64 (byteAt s1 (Int.toNat (1))))).toNat : Int) : Int) > (1024)) →
 (((ByteArray.size s1 : Nat) : Int) < (IntKind.wrap .i64 ((IntKind.wrap .i64 ((2) + (IntKind.wrap .i64 ((BitVec.ofInt (IntKind.bits .i64) (IntKind.wrap .i64 ((IntKind.wrap .i64 (byteAt s1 (Int.toNat (0)))) * 2 ^ (min (Int.toNat (8)) (IntKind.bits .i64)))) ||| BitVec.ofInt (IntKind.bits .i64) (IntKind.wrap .i64 (byteAt s1 (Int.toNat (1))))).toNat : Int)))) + (4))) →
 Fin B h (Q (ByteArray.mk #[]) (0))) ∧ (¬ (((ByteArray.size s1 : Nat) : Int) < (IntKind.wrap .i64 ((IntKind.wrap .i64 ((2) + (IntKind.wrap .i64 ((BitVec.ofInt (IntKind.bits .i64) (IntKind.wrap .i64 ((IntKind.wrap .i64 (byteAt s1 (Int.toNat (0)))) * 2 ^ (min (Int.toNat (8)) (IntKind.bits .i64)))) ||| BitVec.ofInt (IntKind.bits .i64) (IntKind.wrap .i64 (byteAt s1 (Int.toNat (1))))).toNat : Int)))) + (4)))) →
 Fin B h (fun h' => S_wafer_Open_J1 B s1 h' Q))))
def S_cell_Row_file_File_All_1 (B : RO) (v1 : Value) (A2 : Addr) (h : Heap) (Q : Heap → Prop) : Prop :=
 ∃ p3 : Option Addr, cellH B h A2 = some (.pointer p3) ∧
 (p3 = none →
 Fin B h (Q)) ∧ (¬ (p3 = none) →
 ∃ p5 : Option Addr, cellH B h A2 = some (.pointer p5) ∧
 ∃ A6 : Addr, p5 = some A6 ∧
 LdSl B h A6 fun a8 n9 c10 h11 =>
 ∃ (J17 : Int → Nat → Heap → Prop) (m15 : Nat), Fin B h11 (J17 (0) m15) ∧
 ∀ (i12 : Int) (m14 : Nat) (h13 : Heap), J17 i12 m14 h13 →
 ((i12 : Int) < ((n9 : Nat)) →
 ∃ A18 : Addr, a8 = some A18 ∧ 0 ≤ (i12 : Int) ∧ (i12 : Int) < (n9 : Nat) ∧
 ∃ b20 : Bool, ∃ s21 : ByteArray, ∃ i22 : Int, CellsAt B h13 (Addr.add A18 (Int.toNat (i12) * 3)) 0 [(.bool b20), (.string s21), (.int .i64 (i22))] ∧
 ∀ k23 : Nat, h13 k23 = none → B k23 = none → ∀ h24 : Heap, h24 = Heap.set h13 k23 (.vec 177 (plains [(.bool false), (.string ByteArray.empty), (.int .i64 (0))]) 3) →
 ∃ h25 : Heap, StoresAt ⟨k23, 0, none⟩ h24 0 [(.bool b20), (.string s21), (.int .i64 (i22))] h25 ∧
 ∃ b26 : Bool, ∃ s27 : ByteArray, CellsAt B h25 ⟨k23, 0, none⟩ 0 [(.bool b26), (.string s27)] ∧
 CallV PG B v1 [(.int .i64 (i12)), (.agg #[(.bool b26), (.string s27)])] h25 (fun v h28 => ∃ b29 : Bool, v = (.bool b29) ∧
 (b29 = true →
 Fin B h28 (fun h' => ∃ m', m' < m14 ∧ J17 (IntKind.wrap .i64 ((i12) + (1))) m' h')) ∧ (b29 = false →
 Fin B h28 (Q)))) ∧ (¬ ((i12 : Int) < ((n9 : Nat))) →
 Fin B h13 (Q)))
end Go.Proofs.YtlehephbflgblaaGreat.H
