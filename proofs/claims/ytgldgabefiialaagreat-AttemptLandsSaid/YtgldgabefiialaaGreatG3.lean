/- What the law's proof stands on, part 3. No condition. -/
import Derived.Test.YtgldgabefiialaaGreatProg
import Derived.KernelRfl
import Derived.Test.YtgldgabefiialaaGreatG2
namespace Go.Proofs.YtgldgabefiialaaGreat.H
open Go
set_option linter.unusedVariables false
set_option maxRecDepth 100000
set_option maxHeartbeats 4000000
noncomputable abbrev PG : Program := Go.Proofs.Tryz.prog
abbrev TY.int : TypeId := 3
abbrev TY.bool : TypeId := 4
abbrev TY.uint8 : TypeId := 5
abbrev TY.string : TypeId := 9
abbrev TY.api_Regs : TypeId := 26
abbrev TY.p_attempt_View : TypeId := 29
abbrev TY.s_countermandref20_Deed : TypeId := 31
abbrev TY.s_countermandref20_Things : TypeId := 32
abbrev TY.countermandlaw20_run : TypeId := 34
abbrev TY.countermandref20_Deed : TypeId := 38
abbrev TY.p_tome_Tome : TypeId := 40
abbrev TY.attempt_View : TypeId := 43
abbrev TY.s_countermandlaw20_Step : TypeId := 45
abbrev TY.countermandlaw20_Step : TypeId := 48
abbrev TY.countermandref09_File : TypeId := 51
abbrev TY.countermandref20_Things : TypeId := 55
abbrev TY.a_3_string : TypeId := 56
abbrev TY.reads_Now : TypeId := 65
abbrev TY.p_draft_Draft_int : TypeId := 91
abbrev TY.mark_State : TypeId := 95
abbrev TY.acts_Open : TypeId := 100
abbrev TY.attempt_Attempt : TypeId := 107
abbrev TY.reads_Kind : TypeId := 110
abbrev TY.file_File : TypeId := 119
abbrev TY.feed_Feed : TypeId := 128
abbrev TY.countermandref14_Sheet : TypeId := 132
abbrev TY.s_reads_Entry : TypeId := 135
abbrev TY.reads_Set : TypeId := 137
abbrev TY.acts_Acts : TypeId := 144
abbrev TY.mark_Stack : TypeId := 147
abbrev TY.mark_Mark : TypeId := 152
abbrev TY.p_draft_Draft_file_File : TypeId := 157
abbrev TY.acts_Out : TypeId := 160
abbrev TY.draft_entry_int : TypeId := 163
abbrev TY.s_draft_entry_int : TypeId := 164
abbrev TY.draft_Draft_int : TypeId := 166
abbrev TY.cell_slot_int : TypeId := 169
abbrev TY.s_cell_slot_int : TypeId := 170
abbrev TY.cell_Row_int : TypeId := 172
abbrev TY.reads_Entry : TypeId := 174
abbrev TY.cursor_Cursor : TypeId := 181
abbrev TY.tome_Tome : TypeId := 184
abbrev TY.sheet_Sheet : TypeId := 204
abbrev TY.s_draft_entry_file_File : TypeId := 205
abbrev TY.draft_Draft_file_File : TypeId := 207
abbrev TY.draft_entry_file_File : TypeId := 213
abbrev TY.cell_slot_file_File : TypeId := 216
abbrev TY.s_cell_slot_file_File : TypeId := 217
abbrev TY.cell_Row_file_File : TypeId := 219
abbrev TY.s_uint8 : TypeId := 226
theorem TF.agg_110 : aggB PG 110 = some false := by kernel_rfl
theorem TF.agg_119 : aggB PG 119 = some true := by kernel_rfl
theorem TF.agg_135 : aggB PG 135 = some false := by kernel_rfl
theorem TF.agg_157 : aggB PG 157 = some false := by kernel_rfl
theorem TF.agg_163 : aggB PG 163 = some true := by kernel_rfl
theorem TF.agg_164 : aggB PG 164 = some false := by kernel_rfl
theorem TF.agg_170 : aggB PG 170 = some false := by kernel_rfl
theorem TF.agg_174 : aggB PG 174 = some true := by kernel_rfl
theorem TF.agg_182 : aggB PG 182 = some false := by kernel_rfl
theorem TF.agg_205 : aggB PG 205 = some false := by kernel_rfl
theorem TF.agg_213 : aggB PG 213 = some true := by kernel_rfl
theorem TF.agg_217 : aggB PG 217 = some false := by kernel_rfl
theorem TF.agg_26 : aggB PG 26 = some true := by kernel_rfl
theorem TF.agg_29 : aggB PG 29 = some false := by kernel_rfl
theorem TF.agg_3 : aggB PG 3 = some false := by kernel_rfl
theorem TF.agg_30 : aggB PG 30 = some false := by kernel_rfl
theorem TF.agg_31 : aggB PG 31 = some false := by kernel_rfl
theorem TF.agg_32 : aggB PG 32 = some false := by kernel_rfl
theorem TF.agg_38 : aggB PG 38 = some true := by kernel_rfl
theorem TF.agg_39 : aggB PG 39 = some false := by kernel_rfl
theorem TF.agg_4 : aggB PG 4 = some false := by kernel_rfl
theorem TF.agg_40 : aggB PG 40 = some false := by kernel_rfl
theorem TF.agg_41 : aggB PG 41 = some false := by kernel_rfl
theorem TF.agg_48 : aggB PG 48 = some true := by kernel_rfl
theorem TF.agg_49 : aggB PG 49 = some true := by kernel_rfl
theorem TF.agg_5 : aggB PG 5 = some false := by kernel_rfl
theorem TF.agg_51 : aggB PG 51 = some true := by kernel_rfl
theorem TF.agg_52 : aggB PG 52 = some true := by kernel_rfl
theorem TF.agg_55 : aggB PG 55 = some true := by kernel_rfl
theorem TF.agg_56 : aggB PG 56 = some true := by kernel_rfl
theorem TF.agg_65 : aggB PG 65 = some true := by kernel_rfl
theorem TF.agg_69 : aggB PG 69 = some false := by kernel_rfl
theorem TF.agg_9 : aggB PG 9 = some false := by kernel_rfl
theorem TF.agg_91 : aggB PG 91 = some false := by kernel_rfl
theorem TF.agg_92 : aggB PG 92 = some false := by kernel_rfl
theorem TF.agg_93 : aggB PG 93 = some false := by kernel_rfl
theorem TF.agg_95 : aggB PG 95 = some true := by kernel_rfl
theorem TF.arr_130 : arrB PG 130 = some (6, 4, 1, false) := by kernel_rfl
theorem TF.arr_26 : arrB PG 26 = some (4, 3, 1, false) := by kernel_rfl
theorem TF.arr_49 : arrB PG 49 = some (8, 3, 1, false) := by kernel_rfl
theorem TF.arr_52 : arrB PG 52 = some (6, 51, 2, true) := by kernel_rfl
theorem TF.arr_53 : arrB PG 53 = some (3, 3, 1, false) := by kernel_rfl
theorem TF.arr_56 : arrB PG 56 = some (3, 9, 1, false) := by kernel_rfl
theorem TF.arr_63 : arrB PG 63 = some (3, 49, 8, true) := by kernel_rfl
theorem TF.eqg_119 : eqGB PG 119 = false := by kernel_rfl
theorem TF.eqg_51 : eqGB PG 51 = false := by kernel_rfl
theorem TF.eqg_55 : eqGB PG 55 = false := by kernel_rfl
theorem TF.flat_119 : flat6B PG 119 = some [.bool, .str] := by kernel_rfl
theorem TF.flat_51 : flat6B PG 51 = some [.bool, .str] := by kernel_rfl
theorem TF.flat_55 : flat6B PG 55 = some [.int .i64, .int .i64, .int .i64, .int .i64, .int .i64, .int .i64, .int .i64, .int .i64, .bool, .str, .bool, .str, .bool, .str, .bool, .str, .bool, .str, .bool, .str, .int .i64, .int .i64, .int .i64] := by kernel_rfl
theorem TF.goes_10 : Goes PG 10 := ⟨Tryz.f10, Tryz.func10, by kernel_rfl, by kernel_rfl⟩
theorem TF.goes_100 : Goes PG 100 := ⟨Tryz.f100, Tryz.func100, by kernel_rfl, by kernel_rfl⟩
theorem TF.goes_101 : Goes PG 101 := ⟨Tryz.f101, Tryz.func101, by kernel_rfl, by kernel_rfl⟩
theorem TF.goes_102 : Goes PG 102 := ⟨Tryz.f102, Tryz.func102, by kernel_rfl, by kernel_rfl⟩
theorem TF.goes_103 : Goes PG 103 := ⟨Tryz.f103, Tryz.func103, by kernel_rfl, by kernel_rfl⟩
theorem TF.goes_104 : Goes PG 104 := ⟨Tryz.f104, Tryz.func104, by kernel_rfl, by kernel_rfl⟩
theorem TF.goes_105 : Goes PG 105 := ⟨Tryz.f105, Tryz.func105, by kernel_rfl, by kernel_rfl⟩
theorem TF.goes_106 : Goes PG 106 := ⟨Tryz.f106, Tryz.func106, by kernel_rfl, by kernel_rfl⟩
theorem TF.goes_11 : Goes PG 11 := ⟨Tryz.f11, Tryz.func11, by kernel_rfl, by kernel_rfl⟩
theorem TF.goes_114 : Goes PG 114 := ⟨Tryz.f114, Tryz.func114, by kernel_rfl, by kernel_rfl⟩
theorem TF.goes_115 : Goes PG 115 := ⟨Tryz.f115, Tryz.func115, by kernel_rfl, by kernel_rfl⟩
theorem TF.goes_116 : Goes PG 116 := ⟨Tryz.f116, Tryz.func116, by kernel_rfl, by kernel_rfl⟩
theorem TF.goes_117 : Goes PG 117 := ⟨Tryz.f117, Tryz.func117, by kernel_rfl, by kernel_rfl⟩
theorem TF.goes_118 : Goes PG 118 := ⟨Tryz.f118, Tryz.func118, by kernel_rfl, by kernel_rfl⟩
theorem TF.goes_119 : Goes PG 119 := ⟨Tryz.f119, Tryz.func119, by kernel_rfl, by kernel_rfl⟩
theorem TF.goes_12 : Goes PG 12 := ⟨Tryz.f12, Tryz.func12, by kernel_rfl, by kernel_rfl⟩
theorem TF.goes_120 : Goes PG 120 := ⟨Tryz.f120, Tryz.func120, by kernel_rfl, by kernel_rfl⟩
theorem TF.goes_121 : Goes PG 121 := ⟨Tryz.f121, Tryz.func121, by kernel_rfl, by kernel_rfl⟩
theorem TF.goes_122 : Goes PG 122 := ⟨Tryz.f122, Tryz.func122, by kernel_rfl, by kernel_rfl⟩
theorem TF.goes_123 : Goes PG 123 := ⟨Tryz.f123, Tryz.func123, by kernel_rfl, by kernel_rfl⟩
theorem TF.goes_124 : Goes PG 124 := ⟨Tryz.f124, Tryz.func124, by kernel_rfl, by kernel_rfl⟩
theorem TF.goes_125 : Goes PG 125 := ⟨Tryz.f125, Tryz.func125, by kernel_rfl, by kernel_rfl⟩
theorem TF.goes_127 : Goes PG 127 := ⟨Tryz.f127, Tryz.func127, by kernel_rfl, by kernel_rfl⟩
theorem TF.goes_13 : Goes PG 13 := ⟨Tryz.f13, Tryz.func13, by kernel_rfl, by kernel_rfl⟩
theorem TF.goes_132 : Goes PG 132 := ⟨Tryz.f132, Tryz.func132, by kernel_rfl, by kernel_rfl⟩
theorem TF.goes_133 : Goes PG 133 := ⟨Tryz.f133, Tryz.func133, by kernel_rfl, by kernel_rfl⟩
theorem TF.goes_134 : Goes PG 134 := ⟨Tryz.f134, Tryz.func134, by kernel_rfl, by kernel_rfl⟩
theorem TF.goes_135 : Goes PG 135 := ⟨Tryz.f135, Tryz.func135, by kernel_rfl, by kernel_rfl⟩
theorem TF.goes_136 : Goes PG 136 := ⟨Tryz.f136, Tryz.func136, by kernel_rfl, by kernel_rfl⟩
theorem TF.goes_14 : Goes PG 14 := ⟨Tryz.f14, Tryz.func14, by kernel_rfl, by kernel_rfl⟩
theorem TF.goes_141 : Goes PG 141 := ⟨Tryz.f141, Tryz.func141, by kernel_rfl, by kernel_rfl⟩
theorem TF.goes_142 : Goes PG 142 := ⟨Tryz.f142, Tryz.func142, by kernel_rfl, by kernel_rfl⟩
theorem TF.goes_15 : Goes PG 15 := ⟨Tryz.f15, Tryz.func15, by kernel_rfl, by kernel_rfl⟩
theorem TF.goes_151 : Goes PG 151 := ⟨Tryz.f151, Tryz.func151, by kernel_rfl, by kernel_rfl⟩
theorem TF.goes_152 : Goes PG 152 := ⟨Tryz.f152, Tryz.func152, by kernel_rfl, by kernel_rfl⟩
theorem TF.goes_154 : Goes PG 154 := ⟨Tryz.f154, Tryz.func154, by kernel_rfl, by kernel_rfl⟩
theorem TF.goes_16 : Goes PG 16 := ⟨Tryz.f16, Tryz.func16, by kernel_rfl, by kernel_rfl⟩
theorem TF.goes_17 : Goes PG 17 := ⟨Tryz.f17, Tryz.func17, by kernel_rfl, by kernel_rfl⟩
theorem TF.goes_18 : Goes PG 18 := ⟨Tryz.f18, Tryz.func18, by kernel_rfl, by kernel_rfl⟩
theorem TF.goes_19 : Goes PG 19 := ⟨Tryz.f19, Tryz.func19, by kernel_rfl, by kernel_rfl⟩
theorem TF.goes_20 : Goes PG 20 := ⟨Tryz.f20, Tryz.func20, by kernel_rfl, by kernel_rfl⟩
theorem TF.goes_21 : Goes PG 21 := ⟨Tryz.f21, Tryz.func21, by kernel_rfl, by kernel_rfl⟩
theorem TF.goes_24 : Goes PG 24 := ⟨Tryz.f24, Tryz.func24, by kernel_rfl, by kernel_rfl⟩
theorem TF.goes_25 : Goes PG 25 := ⟨Tryz.f25, Tryz.func25, by kernel_rfl, by kernel_rfl⟩
theorem TF.goes_39 : Goes PG 39 := ⟨Tryz.f39, Tryz.func39, by kernel_rfl, by kernel_rfl⟩
theorem TF.goes_4 : Goes PG 4 := ⟨Tryz.f4, Tryz.func4, by kernel_rfl, by kernel_rfl⟩
theorem TF.goes_40 : Goes PG 40 := ⟨Tryz.f40, Tryz.func40, by kernel_rfl, by kernel_rfl⟩
theorem TF.goes_41 : Goes PG 41 := ⟨Tryz.f41, Tryz.func41, by kernel_rfl, by kernel_rfl⟩
theorem TF.goes_42 : Goes PG 42 := ⟨Tryz.f42, Tryz.func42, by kernel_rfl, by kernel_rfl⟩
theorem TF.goes_43 : Goes PG 43 := ⟨Tryz.f43, Tryz.func43, by kernel_rfl, by kernel_rfl⟩
theorem TF.goes_44 : Goes PG 44 := ⟨Tryz.f44, Tryz.func44, by kernel_rfl, by kernel_rfl⟩
theorem TF.goes_45 : Goes PG 45 := ⟨Tryz.f45, Tryz.func45, by kernel_rfl, by kernel_rfl⟩
theorem TF.goes_46 : Goes PG 46 := ⟨Tryz.f46, Tryz.func46, by kernel_rfl, by kernel_rfl⟩
theorem TF.goes_47 : Goes PG 47 := ⟨Tryz.f47, Tryz.func47, by kernel_rfl, by kernel_rfl⟩
theorem TF.goes_48 : Goes PG 48 := ⟨Tryz.f48, Tryz.func48, by kernel_rfl, by kernel_rfl⟩
theorem TF.goes_49 : Goes PG 49 := ⟨Tryz.f49, Tryz.func49, by kernel_rfl, by kernel_rfl⟩
theorem TF.goes_50 : Goes PG 50 := ⟨Tryz.f50, Tryz.func50, by kernel_rfl, by kernel_rfl⟩
theorem TF.goes_51 : Goes PG 51 := ⟨Tryz.f51, Tryz.func51, by kernel_rfl, by kernel_rfl⟩
theorem TF.goes_52 : Goes PG 52 := ⟨Tryz.f52, Tryz.func52, by kernel_rfl, by kernel_rfl⟩
theorem TF.goes_53 : Goes PG 53 := ⟨Tryz.f53, Tryz.func53, by kernel_rfl, by kernel_rfl⟩
theorem TF.goes_54 : Goes PG 54 := ⟨Tryz.f54, Tryz.func54, by kernel_rfl, by kernel_rfl⟩
theorem TF.goes_55 : Goes PG 55 := ⟨Tryz.f55, Tryz.func55, by kernel_rfl, by kernel_rfl⟩
theorem TF.goes_56 : Goes PG 56 := ⟨Tryz.f56, Tryz.func56, by kernel_rfl, by kernel_rfl⟩
theorem TF.goes_57 : Goes PG 57 := ⟨Tryz.f57, Tryz.func57, by kernel_rfl, by kernel_rfl⟩
theorem TF.goes_58 : Goes PG 58 := ⟨Tryz.f58, Tryz.func58, by kernel_rfl, by kernel_rfl⟩
theorem TF.goes_59 : Goes PG 59 := ⟨Tryz.f59, Tryz.func59, by kernel_rfl, by kernel_rfl⟩
theorem TF.goes_60 : Goes PG 60 := ⟨Tryz.f60, Tryz.func60, by kernel_rfl, by kernel_rfl⟩
theorem TF.goes_61 : Goes PG 61 := ⟨Tryz.f61, Tryz.func61, by kernel_rfl, by kernel_rfl⟩
theorem TF.goes_62 : Goes PG 62 := ⟨Tryz.f62, Tryz.func62, by kernel_rfl, by kernel_rfl⟩
theorem TF.goes_63 : Goes PG 63 := ⟨Tryz.f63, Tryz.func63, by kernel_rfl, by kernel_rfl⟩
theorem TF.goes_64 : Goes PG 64 := ⟨Tryz.f64, Tryz.func64, by kernel_rfl, by kernel_rfl⟩
theorem TF.goes_65 : Goes PG 65 := ⟨Tryz.f65, Tryz.func65, by kernel_rfl, by kernel_rfl⟩
theorem TF.goes_66 : Goes PG 66 := ⟨Tryz.f66, Tryz.func66, by kernel_rfl, by kernel_rfl⟩
theorem TF.goes_67 : Goes PG 67 := ⟨Tryz.f67, Tryz.func67, by kernel_rfl, by kernel_rfl⟩
theorem TF.goes_68 : Goes PG 68 := ⟨Tryz.f68, Tryz.func68, by kernel_rfl, by kernel_rfl⟩
theorem TF.goes_69 : Goes PG 69 := ⟨Tryz.f69, Tryz.func69, by kernel_rfl, by kernel_rfl⟩
theorem TF.goes_70 : Goes PG 70 := ⟨Tryz.f70, Tryz.func70, by kernel_rfl, by kernel_rfl⟩
theorem TF.goes_71 : Goes PG 71 := ⟨Tryz.f71, Tryz.func71, by kernel_rfl, by kernel_rfl⟩
theorem TF.goes_78 : Goes PG 78 := ⟨Tryz.f78, Tryz.func78, by kernel_rfl, by kernel_rfl⟩
theorem TF.goes_81 : Goes PG 81 := ⟨Tryz.f81, Tryz.func81, by kernel_rfl, by kernel_rfl⟩
theorem TF.goes_82 : Goes PG 82 := ⟨Tryz.f82, Tryz.func82, by kernel_rfl, by kernel_rfl⟩
theorem TF.goes_83 : Goes PG 83 := ⟨Tryz.f83, Tryz.func83, by kernel_rfl, by kernel_rfl⟩
theorem TF.goes_84 : Goes PG 84 := ⟨Tryz.f84, Tryz.func84, by kernel_rfl, by kernel_rfl⟩
theorem TF.goes_85 : Goes PG 85 := ⟨Tryz.f85, Tryz.func85, by kernel_rfl, by kernel_rfl⟩
theorem TF.goes_86 : Goes PG 86 := ⟨Tryz.f86, Tryz.func86, by kernel_rfl, by kernel_rfl⟩
theorem TF.goes_87 : Goes PG 87 := ⟨Tryz.f87, Tryz.func87, by kernel_rfl, by kernel_rfl⟩
theorem TF.goes_88 : Goes PG 88 := ⟨Tryz.f88, Tryz.func88, by kernel_rfl, by kernel_rfl⟩
theorem TF.goes_89 : Goes PG 89 := ⟨Tryz.f89, Tryz.func89, by kernel_rfl, by kernel_rfl⟩
theorem TF.goes_9 : Goes PG 9 := ⟨Tryz.f9, Tryz.func9, by kernel_rfl, by kernel_rfl⟩
theorem TF.goes_90 : Goes PG 90 := ⟨Tryz.f90, Tryz.func90, by kernel_rfl, by kernel_rfl⟩
theorem TF.goes_91 : Goes PG 91 := ⟨Tryz.f91, Tryz.func91, by kernel_rfl, by kernel_rfl⟩
theorem TF.goes_92 : Goes PG 92 := ⟨Tryz.f92, Tryz.func92, by kernel_rfl, by kernel_rfl⟩
theorem TF.goes_93 : Goes PG 93 := ⟨Tryz.f93, Tryz.func93, by kernel_rfl, by kernel_rfl⟩
theorem TF.goes_94 : Goes PG 94 := ⟨Tryz.f94, Tryz.func94, by kernel_rfl, by kernel_rfl⟩
theorem TF.goes_95 : Goes PG 95 := ⟨Tryz.f95, Tryz.func95, by kernel_rfl, by kernel_rfl⟩
theorem TF.goes_96 : Goes PG 96 := ⟨Tryz.f96, Tryz.func96, by kernel_rfl, by kernel_rfl⟩
theorem TF.goes_97 : Goes PG 97 := ⟨Tryz.f97, Tryz.func97, by kernel_rfl, by kernel_rfl⟩
theorem TF.goes_98 : Goes PG 98 := ⟨Tryz.f98, Tryz.func98, by kernel_rfl, by kernel_rfl⟩
theorem TF.goes_99 : Goes PG 99 := ⟨Tryz.f99, Tryz.func99, by kernel_rfl, by kernel_rfl⟩
theorem TF.goesx_126 : GoesX PG 126 (Extern.SlicesOverlaps.overlaps #[164, 164] #[4]) := ⟨Tryz.f126, Tryz.func126, by kernel_rfl, by kernel_rfl, by kernel_rfl, by kernel_rfl⟩
theorem TF.goesx_153 : GoesX PG 153 (Extern.SlicesOverlaps.overlaps #[205, 205] #[4]) := ⟨Tryz.f153, Tryz.func153, by kernel_rfl, by kernel_rfl, by kernel_rfl, by kernel_rfl⟩
theorem TF.int_234 : intB PG 234 = some .u64 := by kernel_rfl
theorem TF.int_3 : intB PG 3 = some .i64 := by kernel_rfl
theorem TF.int_5 : intB PG 5 = some .u8 := by kernel_rfl
theorem TF.isStr_9 : isStr PG 9 = true := by kernel_rfl
theorem TF.mixed : PG.follows .mixedOrders = true := by kernel_rfl
theorem TF.places_107 : strPlaces PG 107 = some [(0, 1), (1, 1), (2, 7), (9, 1), (10, 1)] := by kernel_rfl
theorem TF.places_119 : strPlaces PG 119 = some [(0, 1), (1, 1)] := by kernel_rfl
theorem TF.places_128 : strPlaces PG 128 = some [(0, 3), (3, 1)] := by kernel_rfl
theorem TF.places_132 : strPlaces PG 132 = some [(0, 12), (12, 12), (24, 6)] := by kernel_rfl
theorem TF.places_137 : strPlaces PG 137 = some [(0, 1), (1, 1)] := by kernel_rfl
theorem TF.places_144 : strPlaces PG 144 = some [(0, 1), (1, 1), (2, 1), (3, 1)] := by kernel_rfl
theorem TF.places_147 : strPlaces PG 147 = some [(0, 1)] := by kernel_rfl
theorem TF.places_163 : strPlaces PG 163 = some [(0, 1), (1, 1)] := by kernel_rfl
theorem TF.places_166 : strPlaces PG 166 = some [(0, 1)] := by kernel_rfl
theorem TF.places_169 : strPlaces PG 169 = some [(0, 1), (1, 1)] := by kernel_rfl
theorem TF.places_172 : strPlaces PG 172 = some [(0, 1)] := by kernel_rfl
theorem TF.places_174 : strPlaces PG 174 = some [(0, 1), (1, 1), (2, 1)] := by kernel_rfl
theorem TF.places_181 : strPlaces PG 181 = some [(0, 3)] := by kernel_rfl
theorem TF.places_184 : strPlaces PG 184 = some [(0, 1)] := by kernel_rfl
theorem TF.places_204 : strPlaces PG 204 = some [(0, 1)] := by kernel_rfl
theorem TF.places_207 : strPlaces PG 207 = some [(0, 1)] := by kernel_rfl
theorem TF.places_213 : strPlaces PG 213 = some [(0, 1), (1, 2)] := by kernel_rfl
theorem TF.places_216 : strPlaces PG 216 = some [(0, 2), (2, 1)] := by kernel_rfl
theorem TF.places_219 : strPlaces PG 219 = some [(0, 1)] := by kernel_rfl
theorem TF.places_34 : strPlaces PG 34 = some [(0, 1), (1, 1), (2, 1), (3, 1)] := by kernel_rfl
theorem TF.places_43 : strPlaces PG 43 = some [(0, 1), (1, 1), (2, 1), (3, 1)] := by kernel_rfl
theorem TF.places_51 : strPlaces PG 51 = some [(0, 1), (1, 1)] := by kernel_rfl
theorem TF.places_65 : strPlaces PG 65 = some [(0, 24), (24, 1)] := by kernel_rfl
theorem TF.places_95 : strPlaces PG 95 = some [(0, 1), (1, 1), (2, 1), (3, 4)] := by kernel_rfl
theorem TF.ptr_157 : ptrB PG 157 = true := by kernel_rfl
theorem TF.ptr_182 : ptrB PG 182 = true := by kernel_rfl
theorem TF.ptr_29 : ptrB PG 29 = true := by kernel_rfl
theorem TF.ptr_30 : ptrB PG 30 = true := by kernel_rfl
theorem TF.ptr_39 : ptrB PG 39 = true := by kernel_rfl
theorem TF.ptr_40 : ptrB PG 40 = true := by kernel_rfl
theorem TF.ptr_41 : ptrB PG 41 = true := by kernel_rfl
theorem TF.ptr_69 : ptrB PG 69 = true := by kernel_rfl
theorem TF.ptr_91 : ptrB PG 91 = true := by kernel_rfl
theorem TF.ptr_92 : ptrB PG 92 = true := by kernel_rfl
theorem TF.ptr_93 : ptrB PG 93 = true := by kernel_rfl
theorem TF.sl_135 : slT PG 135 = true := by kernel_rfl
theorem TF.sl_164 : slT PG 164 = true := by kernel_rfl
theorem TF.sl_170 : slT PG 170 = true := by kernel_rfl
theorem TF.sl_205 : slT PG 205 = true := by kernel_rfl
theorem TF.sl_217 : slT PG 217 = true := by kernel_rfl
theorem TF.sl_226 : slT PG 226 = true := by kernel_rfl
theorem TF.sl_31 : slT PG 31 = true := by kernel_rfl
theorem TF.sl_45 : slT PG 45 = true := by kernel_rfl
theorem TF.slc_135 : slcB PG 135 = some (174, 3, 24) := by kernel_rfl
theorem TF.slc_164 : slcB PG 164 = some (163, 2, 16) := by kernel_rfl
theorem TF.slc_170 : slcB PG 170 = some (169, 2, 16) := by kernel_rfl
theorem TF.slc_205 : slcB PG 205 = some (213, 3, 32) := by kernel_rfl
theorem TF.slc_217 : slcB PG 217 = some (216, 3, 32) := by kernel_rfl
theorem TF.slc_226 : slcB PG 226 = some (5, 1, 1) := by kernel_rfl
theorem TF.slc_31 : slcB PG 31 = some (38, 4, 32) := by kernel_rfl
theorem TF.slc_32 : slcB PG 32 = some (55, 23, 232) := by kernel_rfl
theorem TF.slc_45 : slcB PG 45 = some (48, 6, 56) := by kernel_rfl
theorem TF.sz_119 : szB PG 119 = some 2 := by kernel_rfl
theorem TF.sz_135 : szB PG 135 = some 1 := by kernel_rfl
theorem TF.sz_163 : szB PG 163 = some 2 := by kernel_rfl
theorem TF.sz_164 : szB PG 164 = some 1 := by kernel_rfl
theorem TF.sz_169 : szB PG 169 = some 2 := by kernel_rfl
theorem TF.sz_170 : szB PG 170 = some 1 := by kernel_rfl
theorem TF.sz_174 : szB PG 174 = some 3 := by kernel_rfl
theorem TF.sz_205 : szB PG 205 = some 1 := by kernel_rfl
theorem TF.sz_213 : szB PG 213 = some 3 := by kernel_rfl
theorem TF.sz_216 : szB PG 216 = some 3 := by kernel_rfl
theorem TF.sz_217 : szB PG 217 = some 1 := by kernel_rfl
theorem TF.sz_26 : szB PG 26 = some 4 := by kernel_rfl
theorem TF.sz_29 : szB PG 29 = some 1 := by kernel_rfl
theorem TF.sz_3 : szB PG 3 = some 1 := by kernel_rfl
theorem TF.sz_30 : szB PG 30 = some 1 := by kernel_rfl
theorem TF.sz_31 : szB PG 31 = some 1 := by kernel_rfl
theorem TF.sz_32 : szB PG 32 = some 1 := by kernel_rfl
theorem TF.sz_38 : szB PG 38 = some 4 := by kernel_rfl
theorem TF.sz_4 : szB PG 4 = some 1 := by kernel_rfl
theorem TF.sz_48 : szB PG 48 = some 6 := by kernel_rfl
theorem TF.sz_49 : szB PG 49 = some 8 := by kernel_rfl
theorem TF.sz_5 : szB PG 5 = some 1 := by kernel_rfl
theorem TF.sz_51 : szB PG 51 = some 2 := by kernel_rfl
theorem TF.sz_52 : szB PG 52 = some 12 := by kernel_rfl
theorem TF.sz_55 : szB PG 55 = some 23 := by kernel_rfl
theorem TF.sz_56 : szB PG 56 = some 3 := by kernel_rfl
theorem TF.sz_65 : szB PG 65 = some 25 := by kernel_rfl
theorem TF.sz_9 : szB PG 9 = some 1 := by kernel_rfl
theorem TF.sz_95 : szB PG 95 = some 7 := by kernel_rfl
theorem TF.zero_107 : zeroB PG 107 = some [(Value.pointer none), (Value.pointer none), (Value.pointer none), (Value.pointer none), (Value.pointer none), (Value.int .i64 (0)), (Value.int .i64 (0)), (Value.int .i64 (0)), (Value.int .i64 (0)), (Value.pointer none), (Value.pointer none)] := by kernel_rfl
theorem TF.zero_119 : zeroB PG 119 = some [(Value.bool false), (Value.string ByteArray.empty)] := by kernel_rfl
theorem TF.zero_128 : zeroB PG 128 = some [(Value.string ByteArray.empty), (Value.string ByteArray.empty), (Value.string ByteArray.empty), (Value.pointer none)] := by kernel_rfl
theorem TF.zero_132 : zeroB PG 132 = some [(Value.bool false), (Value.string ByteArray.empty), (Value.bool false), (Value.string ByteArray.empty), (Value.bool false), (Value.string ByteArray.empty), (Value.bool false), (Value.string ByteArray.empty), (Value.bool false), (Value.string ByteArray.empty), (Value.bool false), (Value.string ByteArray.empty), (Value.bool false), (Value.string ByteArray.empty), (Value.bool false), (Value.string ByteArray.empty), (Value.bool false), (Value.string ByteArray.empty), (Value.bool false), (Value.string ByteArray.empty), (Value.bool false), (Value.string ByteArray.empty), (Value.bool false), (Value.string ByteArray.empty), (Value.bool false), (Value.bool false), (Value.bool false), (Value.bool false), (Value.bool false), (Value.bool false)] := by kernel_rfl
theorem TF.zero_137 : zeroB PG 137 = some [(Value.slice none 0 0), (Value.int .i64 (0))] := by kernel_rfl
theorem TF.zero_144 : zeroB PG 144 = some [(Value.slice none 0 0), (Value.slice none 0 0), (Value.slice none 0 0), (Value.slice none 0 0)] := by kernel_rfl
theorem TF.zero_147 : zeroB PG 147 = some [(Value.slice none 0 0)] := by kernel_rfl
theorem TF.zero_163 : zeroB PG 163 = some [(Value.int .i64 (0)), (Value.int .i64 (0))] := by kernel_rfl
theorem TF.zero_166 : zeroB PG 166 = some [(Value.slice none 0 0)] := by kernel_rfl
theorem TF.zero_169 : zeroB PG 169 = some [(Value.int .i64 (0)), (Value.int .i64 (0))] := by kernel_rfl
theorem TF.zero_172 : zeroB PG 172 = some [(Value.slice none 0 0)] := by kernel_rfl
theorem TF.zero_174 : zeroB PG 174 = some [(Value.int .i64 (0)), (Value.int .i64 (0)), (Value.int .i64 (0))] := by kernel_rfl
theorem TF.zero_181 : zeroB PG 181 = some [(Value.int .i64 (0)), (Value.int .i64 (0)), (Value.int .i64 (0))] := by kernel_rfl
theorem TF.zero_184 : zeroB PG 184 = some [(Value.pointer none)] := by kernel_rfl
theorem TF.zero_204 : zeroB PG 204 = some [(Value.pointer none)] := by kernel_rfl
theorem TF.zero_207 : zeroB PG 207 = some [(Value.slice none 0 0)] := by kernel_rfl
theorem TF.zero_213 : zeroB PG 213 = some [(Value.int .i64 (0)), (Value.bool false), (Value.string ByteArray.empty)] := by kernel_rfl
theorem TF.zero_216 : zeroB PG 216 = some [(Value.bool false), (Value.string ByteArray.empty), (Value.int .i64 (0))] := by kernel_rfl
theorem TF.zero_219 : zeroB PG 219 = some [(Value.slice none 0 0)] := by kernel_rfl
theorem TF.zero_26 : zeroB PG 26 = some [(Value.int .i64 (0)), (Value.int .i64 (0)), (Value.int .i64 (0)), (Value.int .i64 (0))] := by kernel_rfl
theorem TF.zero_29 : zeroB PG 29 = some [(Value.pointer none)] := by kernel_rfl
theorem TF.zero_3 : zeroB PG 3 = some [(Value.int .i64 (0))] := by kernel_rfl
theorem TF.zero_34 : zeroB PG 34 = some [(Value.pointer none), (Value.pointer none), (Value.slice none 0 0), (Value.slice none 0 0)] := by kernel_rfl
theorem TF.zero_38 : zeroB PG 38 = some [(Value.int .i64 (0)), (Value.int .i64 (0)), (Value.int .i64 (0)), (Value.int .u8 (0))] := by kernel_rfl
theorem TF.zero_43 : zeroB PG 43 = some [(Value.pointer none), (Value.pointer none), (Value.pointer none), (Value.int .i64 (0))] := by kernel_rfl
theorem TF.zero_48 : zeroB PG 48 = some [(Value.int .i64 (0)), (Value.int .i64 (0)), (Value.int .i64 (0)), (Value.int .i64 (0)), (Value.int .u8 (0)), (Value.string ByteArray.empty)] := by kernel_rfl
theorem TF.zero_5 : zeroB PG 5 = some [(Value.int .u8 (0))] := by kernel_rfl
theorem TF.zero_51 : zeroB PG 51 = some [(Value.bool false), (Value.string ByteArray.empty)] := by kernel_rfl
theorem TF.zero_55 : zeroB PG 55 = some [(Value.int .i64 (0)), (Value.int .i64 (0)), (Value.int .i64 (0)), (Value.int .i64 (0)), (Value.int .i64 (0)), (Value.int .i64 (0)), (Value.int .i64 (0)), (Value.int .i64 (0)), (Value.bool false), (Value.string ByteArray.empty), (Value.bool false), (Value.string ByteArray.empty), (Value.bool false), (Value.string ByteArray.empty), (Value.bool false), (Value.string ByteArray.empty), (Value.bool false), (Value.string ByteArray.empty), (Value.bool false), (Value.string ByteArray.empty), (Value.int .i64 (0)), (Value.int .i64 (0)), (Value.int .i64 (0))] := by kernel_rfl
theorem TF.zero_56 : zeroB PG 56 = some [(Value.string ByteArray.empty), (Value.string ByteArray.empty), (Value.string ByteArray.empty)] := by kernel_rfl
theorem TF.zero_65 : zeroB PG 65 = some (List.replicate 25 (Value.int .i64 (0))) := by kernel_rfl
theorem TF.zero_95 : zeroB PG 95 = some [(Value.pointer none), (Value.pointer none), (Value.pointer none), (Value.int .i64 (0)), (Value.int .i64 (0)), (Value.int .i64 (0)), (Value.int .i64 (0))] := by kernel_rfl
def FT0 : FT := [(100, 0, 0), (100, 1, 1), (107, 0, 0), (107, 1, 1), (107, 2, 2), (107, 3, 9), (107, 4, 10), (119, 0, 0), (119, 1, 1), (128, 0, 0), (128, 1, 3), (132, 1, 12), (132, 2, 24), (137, 0, 0), (137, 1, 1), (144, 0, 0), (144, 1, 1), (144, 2, 2), (144, 3, 3), (147, 0, 0), (152, 0, 0), (152, 1, 7), (152, 2, 11), (163, 0, 0), (163, 1, 1), (166, 0, 0), (169, 0, 0), (169, 1, 1), (172, 0, 0), (174, 0, 0), (174, 1, 1), (174, 2, 2), (181, 0, 0), (184, 0, 0), (204, 0, 0), (207, 0, 0), (213, 0, 0), (213, 1, 1), (216, 0, 0), (216, 1, 2), (219, 0, 0), (247, 1, 1), (34, 0, 0), (34, 1, 1), (34, 2, 2), (34, 3, 3), (38, 0, 0), (38, 1, 1), (38, 2, 2), (38, 3, 3), (43, 0, 0), (43, 1, 1), (43, 2, 2), (43, 3, 3), (48, 0, 0), (48, 1, 1), (48, 2, 5), (51, 0, 0), (51, 1, 1), (55, 0, 0), (55, 1, 8), (55, 2, 20), (65, 0, 0), (65, 1, 24), (78, 0, 0), (78, 1, 1), (78, 2, 5), (95, 0, 0), (95, 1, 1), (95, 2, 2), (95, 3, 3)]
theorem FT0_ok : FTok PG FT0 := ftB_ok (by kernel_rfl)
theorem au {B : RO} {N : Nat} {e : Env} {h : Heap} {Φ : Lv → Env → Heap → Prop} (n : Nat) {t t' : List Item} {L L' : LE} (ha : aut FT0 N n t L = some (t', L')) (hr : Run PG B N t' (updL L' e) h Φ) : Run PG B N t (updL L e) h Φ := aut_run FT0_ok n ha hr
theorem auT {B : RO} {N : Nat} {k : List Item} {e : Env} {h : Heap} {Φ : Lv → Env → Heap → Prop} {ops : Array Oper} {C : Heap → Prop} {z : List Nat} (n : Nat) {t t' : Ord} {L L' : LE} (ha : autT FT0 N ops.toList n t L = some (t', L')) (hr : RunT PG B N ops k Φ C z t' (updL L' e) h) : RunT PG B N ops k Φ C z t (updL L e) h := autT_run FT0_ok n ha hr
abbrev FN.countermandlaw20_AttemptLands : FuncId := 4
abbrev FN.draft_Draft_int_All_1 : FuncId := 85
abbrev FN.draft_by_int : FuncId := 115
abbrev FN.draft_Draft_file_File_All_1 : FuncId := 117
abbrev FN.reads_Set_place_1 : FuncId := 133
abbrev FN.strings_Repeat : FuncId := 136
abbrev FN.draft_by_file_File : FuncId := 152
theorem TG.countermandlaw20_AttemptLands : Goes PG FN.countermandlaw20_AttemptLands := TF.goes_4
theorem TG.draft_Draft_int_All_1 : Goes PG FN.draft_Draft_int_All_1 := TF.goes_85
theorem TG.draft_by_int : Goes PG FN.draft_by_int := TF.goes_115
theorem TG.draft_Draft_file_File_All_1 : Goes PG FN.draft_Draft_file_File_All_1 := TF.goes_117
theorem TG.reads_Set_place_1 : Goes PG FN.reads_Set_place_1 := TF.goes_133
theorem TG.strings_Repeat : Goes PG FN.strings_Repeat := TF.goes_136
theorem TG.draft_by_file_File : Goes PG FN.draft_by_file_File := TF.goes_152
def C_countermandlaw20_AttemptLands (B : RO) (a1 : Option Addr) (n2 : Nat) (c3 : Nat) (a4 : Option Addr) (n5 : Nat) (c6 : Nat) (h : Heap) (Q : Bool → Heap → Prop) : Prop :=
  Spec PG B 4 #[(Value.slice a1 n2 c3), (Value.slice a4 n5 c6)] h (fun v h' => ∃ b7 : Bool, v = (Value.bool b7) ∧ Q b7 h')
def C_countermandlaw20_alive (B : RO) (h : Heap) (Q : Bool → Heap → Prop) : Prop :=
  Spec PG B 9 #[] h (fun v h' => ∃ b1 : Bool, v = (Value.bool b1) ∧ Q b1 h')
def C_countermandlaw20_start (B : RO) (a1 : Option Addr) (n2 : Nat) (c3 : Nat) (i4 : Int) (i5 : Int) (i6 : Int) (i7 : Int) (h : Heap) (Q : Option Addr → Heap → Prop) : Prop :=
  Spec PG B 10 #[(Value.slice a1 n2 c3), (Value.agg #[(Value.int .i64 (i4)), (Value.int .i64 (i5)), (Value.int .i64 (i6)), (Value.int .i64 (i7))])] h (fun v h' => ∃ p8 : Option Addr, v = (Value.pointer p8) ∧ Q p8 h')
def C_attempt_Attempt_Load (B : RO) (p1 : Option Addr) (i2 : Int) (h : Heap) (Q : Int → Int → Heap → Prop) : Prop :=
  Spec PG B 11 #[(Value.pointer p1), (Value.int .i64 (i2))] h (fun v h' => ∃ i3 : Int, ∃ i4 : Int, v = Value.tuple #[(Value.int .i64 (i3)), (Value.int .i64 (i4))] ∧ Q i3 i4 h')
def C_countermandlaw20_run_other (B : RO) (p1 : Option Addr) (i2 : Int) (i3 : Int) (i4 : Int) (i5 : Int) (h : Heap) (Q : Heap → Prop) : Prop :=
  Spec PG B 12 #[(Value.pointer p1), (Value.agg #[(Value.int .i64 (i2)), (Value.int .i64 (i3)), (Value.int .i64 (i4)), (Value.int .u8 (i5))])] h (fun v h' => v = Value.tuple #[] ∧ Q  h')
def C_attempt_Attempt_Valid (B : RO) (p1 : Option Addr) (h : Heap) (Q : Bool → Heap → Prop) : Prop :=
  Spec PG B 13 #[(Value.pointer p1)] h (fun v h' => ∃ b2 : Bool, v = (Value.bool b2) ∧ Q b2 h')
def C_attempt_Attempt_Land (B : RO) (p1 : Option Addr) (h : Heap) (Q : Bool → Heap → Prop) : Prop :=
  Spec PG B 14 #[(Value.pointer p1)] h (fun v h' => ∃ b2 : Bool, v = (Value.bool b2) ∧ Q b2 h')
def C_countermandlaw20_great (B : RO) (a1 : Option Addr) (n2 : Nat) (c3 : Nat) (h : Heap) (Q : Bool → Heap → Prop) : Prop :=
  Spec PG B 15 #[(Value.slice a1 n2 c3)] h (fun v h' => ∃ b4 : Bool, v = (Value.bool b4) ∧ Q b4 h')
def C_countermandlaw20_things (B : RO) (p1 : Option Addr) (h : Heap) (Q : List Value → ByteArray → ByteArray → ByteArray → Heap → Prop) : Prop :=
  Spec PG B 16 #[(Value.pointer p1)] h (fun v h' => ∃ l2 : List Value, ∃ s3 : ByteArray, ∃ s4 : ByteArray, ∃ s5 : ByteArray, v = Value.tuple #[(Value.agg (List.toArray l2)), (Value.agg #[(Value.string s3), (Value.string s4), (Value.string s5)])] ∧ Q l2 s3 s4 s5 h')
def C_countermandlaw20_does (B : RO) (p1 : Option Addr) (i2 : Int) (i3 : Int) (i4 : Int) (i5 : Int) (h : Heap) (Q : Int → Int → Heap → Prop) : Prop :=
  Spec PG B 17 #[(Value.pointer p1), (Value.agg #[(Value.int .i64 (i2)), (Value.int .i64 (i3)), (Value.int .i64 (i4)), (Value.int .u8 (i5))])] h (fun v h' => ∃ i6 : Int, ∃ i7 : Int, v = Value.tuple #[(Value.int .i64 (i6)), (Value.int .i64 (i7))] ∧ Q i6 i7 h')
def C_feed_Feed_Arrive (B : RO) (p1 : Option Addr) (i2 : Int) (s3 : ByteArray) (h : Heap) (Q : Int → Heap → Prop) : Prop :=
  Spec PG B 18 #[(Value.pointer p1), (Value.int .i64 (i2)), (Value.string s3)] h (fun v h' => ∃ i4 : Int, v = (Value.int .i64 (i4)) ∧ Q i4 h')
def C_countermandref20_Do (B : RO) (l1 : List Value) (s2 : ByteArray) (s3 : ByteArray) (s4 : ByteArray) (a5 : Option Addr) (n6 : Nat) (c7 : Nat) (h : Heap) (Q : Int → List Value → Heap → Prop) : Prop :=
  Spec PG B 19 #[(Value.agg (List.toArray l1)), (Value.agg #[(Value.string s2), (Value.string s3), (Value.string s4)]), (Value.slice a5 n6 c7)] h (fun v h' => ∃ i8 : Int, ∃ l9 : List Value, v = Value.tuple #[(Value.int .i64 (i8)), (Value.agg (List.toArray l9))] ∧ Q i8 l9 h')
def C_attempt_View_Now (B : RO) (p1 : Option Addr) (h : Heap) (Q : List Value → Heap → Prop) : Prop :=
  Spec PG B 20 #[(Value.pointer p1)] h (fun v h' => ∃ l2 : List Value, v = (Value.agg (List.toArray l2)) ∧ Q l2 h')
def C_attempt_Attempt_Store (B : RO) (p1 : Option Addr) (i2 : Int) (i3 : Int) (h : Heap) (Q : Int → Heap → Prop) : Prop :=
  Spec PG B 21 #[(Value.pointer p1), (Value.int .i64 (i2)), (Value.int .i64 (i3))] h (fun v h' => ∃ i4 : Int, v = (Value.int .i64 (i4)) ∧ Q i4 h')
def C_attempt_NewView (B : RO) (h : Heap) (Q : Option Addr → Heap → Prop) : Prop :=
  Spec PG B 24 #[] h (fun v h' => ∃ p1 : Option Addr, v = (Value.pointer p1) ∧ Q p1 h')
def C_attempt_New (B : RO) (p1 : Option Addr) (i2 : Int) (i3 : Int) (i4 : Int) (i5 : Int) (h : Heap) (Q : Option Addr → Heap → Prop) : Prop :=
  Spec PG B 25 #[(Value.pointer p1), (Value.agg #[(Value.int .i64 (i2)), (Value.int .i64 (i3)), (Value.int .i64 (i4)), (Value.int .i64 (i5))])] h (fun v h' => ∃ p6 : Option Addr, v = (Value.pointer p6) ∧ Q p6 h')
def C_draft_Draft_int_Get (B : RO) (p1 : Option Addr) (i2 : Int) (h : Heap) (Q : Int → Bool → Heap → Prop) : Prop :=
  Spec PG B 39 #[(Value.pointer p1), (Value.int .i64 (i2))] h (fun v h' => ∃ i3 : Int, ∃ b4 : Bool, v = Value.tuple #[(Value.int .i64 (i3)), (Value.bool b4)] ∧ Q i3 b4 h')
def C_attempt_Attempt_note (B : RO) (p1 : Option Addr) (i2 : Int) (i3 : Int) (h : Heap) (Q : Int → Heap → Prop) : Prop :=
  Spec PG B 40 #[(Value.pointer p1), (Value.int .i64 (i2)), (Value.int .i64 (i3))] h (fun v h' => ∃ i4 : Int, v = (Value.int .i64 (i4)) ∧ Q i4 h')
def C_cell_Row_int_Get (B : RO) (p1 : Option Addr) (i2 : Int) (h : Heap) (Q : Int → Int → Heap → Prop) : Prop :=
  Spec PG B 41 #[(Value.pointer p1), (Value.int .i64 (i2))] h (fun v h' => ∃ i3 : Int, ∃ i4 : Int, v = Value.tuple #[(Value.int .i64 (i3)), (Value.int .i64 (i4))] ∧ Q i3 i4 h')
def C_reads_Set_Valid (B : RO) (p1 : Option Addr) (l2 : List Value) (h : Heap) (Q : Bool → Heap → Prop) : Prop :=
  Spec PG B 42 #[(Value.pointer p1), (Value.agg (List.toArray l2))] h (fun v h' => ∃ b3 : Bool, v = (Value.bool b3) ∧ Q b3 h')
def C_draft_Draft_int_All (B : RO) (p1 : Option Addr) (h : Heap) (Q : Value → Heap → Prop) : Prop :=
  Spec PG B 43 #[(Value.pointer p1)] h (fun v h' => ∃ v2 : Value, v = v2 ∧ Q v2 h')
def C_cell_Row_int_Set (B : RO) (p1 : Option Addr) (i2 : Int) (i3 : Int) (i4 : Int) (h : Heap) (Q : Bool → Heap → Prop) : Prop :=
  Spec PG B 44 #[(Value.pointer p1), (Value.int .i64 (i2)), (Value.int .i64 (i3)), (Value.int .i64 (i4))] h (fun v h' => ∃ b5 : Bool, v = (Value.bool b5) ∧ Q b5 h')
def C_sheet_Sheet_Over (B : RO) (p1 : Option Addr) (p2 : Option Addr) (i3 : Int) (h : Heap) (Q : Int → Heap → Prop) : Prop :=
  Spec PG B 45 #[(Value.pointer p1), (Value.pointer p2), (Value.int .i64 (i3))] h (fun v h' => ∃ i4 : Int, v = (Value.int .i64 (i4)) ∧ Q i4 h')
def C_cursor_Cursor_Read (B : RO) (p1 : Option Addr) (i2 : Int) (h : Heap) (Q : Int → Heap → Prop) : Prop :=
  Spec PG B 46 #[(Value.pointer p1), (Value.int .i64 (i2))] h (fun v h' => ∃ i3 : Int, v = (Value.int .i64 (i3)) ∧ Q i3 h')
def C_feed_Feed_Place (B : RO) (p1 : Option Addr) (i2 : Int) (h : Heap) (Q : Int → Int → Heap → Prop) : Prop :=
  Spec PG B 47 #[(Value.pointer p1), (Value.int .i64 (i2))] h (fun v h' => ∃ i3 : Int, ∃ i4 : Int, v = Value.tuple #[(Value.int .i64 (i3)), (Value.int .i64 (i4))] ∧ Q i3 i4 h')
def C_feed_Feed_Take (B : RO) (p1 : Option Addr) (i2 : Int) (i3 : Int) (i4 : Int) (h : Heap) (Q : Bool → Heap → Prop) : Prop :=
  Spec PG B 48 #[(Value.pointer p1), (Value.int .i64 (i2)), (Value.int .i64 (i3)), (Value.int .i64 (i4))] h (fun v h' => ∃ b5 : Bool, v = (Value.bool b5) ∧ Q b5 h')
def C_tome_Tome_Get (B : RO) (p1 : Option Addr) (i2 : Int) (h : Heap) (Q : Bool → ByteArray → Int → Heap → Prop) : Prop :=
  Spec PG B 49 #[(Value.pointer p1), (Value.int .i64 (i2))] h (fun v h' => ∃ b3 : Bool, ∃ s4 : ByteArray, ∃ i5 : Int, v = Value.tuple #[(Value.agg #[(Value.bool b3), (Value.string s4)]), (Value.int .i64 (i5))] ∧ Q b3 s4 i5 h')
def C_feed_Feed_Text (B : RO) (p1 : Option Addr) (i2 : Int) (h : Heap) (Q : ByteArray → Heap → Prop) : Prop :=
  Spec PG B 50 #[(Value.pointer p1), (Value.int .i64 (i2))] h (fun v h' => ∃ s3 : ByteArray, v = (Value.string s3) ∧ Q s3 h')
def C_attempt_Attempt_Read (B : RO) (p1 : Option Addr) (i2 : Int) (i3 : Int) (h : Heap) (Q : Int → Int → Heap → Prop) : Prop :=
  Spec PG B 51 #[(Value.pointer p1), (Value.int .i64 (i2)), (Value.int .i64 (i3))] h (fun v h' => ∃ i4 : Int, ∃ i5 : Int, v = Value.tuple #[(Value.int .i64 (i4)), (Value.int .i64 (i5))] ∧ Q i4 i5 h')
def C_attempt_Attempt_Write (B : RO) (p1 : Option Addr) (i2 : Int) (i3 : Int) (i4 : Int) (h : Heap) (Q : Int → Heap → Prop) : Prop :=
  Spec PG B 52 #[(Value.pointer p1), (Value.int .i64 (i2)), (Value.int .i64 (i3)), (Value.int .u8 (i4))] h (fun v h' => ∃ i5 : Int, v = (Value.int .i64 (i5)) ∧ Q i5 h')
def C_attempt_Attempt_Create (B : RO) (p1 : Option Addr) (i2 : Int) (h : Heap) (Q : Int → Heap → Prop) : Prop :=
  Spec PG B 53 #[(Value.pointer p1), (Value.int .i64 (i2))] h (fun v h' => ∃ i3 : Int, v = (Value.int .i64 (i3)) ∧ Q i3 h')
def C_attempt_Attempt_Remove (B : RO) (p1 : Option Addr) (i2 : Int) (h : Heap) (Q : Int → Heap → Prop) : Prop :=
  Spec PG B 54 #[(Value.pointer p1), (Value.int .i64 (i2))] h (fun v h' => ∃ i3 : Int, v = (Value.int .i64 (i3)) ∧ Q i3 h')
def C_attempt_Attempt_Rename (B : RO) (p1 : Option Addr) (i2 : Int) (i3 : Int) (h : Heap) (Q : Int → Heap → Prop) : Prop :=
  Spec PG B 55 #[(Value.pointer p1), (Value.int .i64 (i2)), (Value.int .i64 (i3))] h (fun v h' => ∃ i4 : Int, v = (Value.int .i64 (i4)) ∧ Q i4 h')
def C_attempt_Attempt_Cut (B : RO) (p1 : Option Addr) (i2 : Int) (i3 : Int) (h : Heap) (Q : Int → Heap → Prop) : Prop :=
  Spec PG B 56 #[(Value.pointer p1), (Value.int .i64 (i2)), (Value.int .i64 (i3))] h (fun v h' => ∃ i4 : Int, v = (Value.int .i64 (i4)) ∧ Q i4 h')
def C_attempt_Attempt_Recv (B : RO) (p1 : Option Addr) (i2 : Int) (h : Heap) (Q : Int → Int → Heap → Prop) : Prop :=
  Spec PG B 57 #[(Value.pointer p1), (Value.int .i64 (i2))] h (fun v h' => ∃ i3 : Int, ∃ i4 : Int, v = Value.tuple #[(Value.int .i64 (i3)), (Value.int .i64 (i4))] ∧ Q i3 i4 h')
def C_feed_Feed_is (B : RO) (p1 : Option Addr) (i2 : Int) (h : Heap) (Q : Bool → Heap → Prop) : Prop :=
  Spec PG B 58 #[(Value.pointer p1), (Value.int .i64 (i2))] h (fun v h' => ∃ b3 : Bool, v = (Value.bool b3) ∧ Q b3 h')
def C_countermandref09_At (B : RO) (b1 : Bool) (s2 : ByteArray) (i3 : Int) (h : Heap) (Q : Int → Heap → Prop) : Prop :=
  Spec PG B 59 #[(Value.agg #[(Value.bool b1), (Value.string s2)]), (Value.int .i64 (i3))] h (fun v h' => ∃ i4 : Int, v = (Value.int .i64 (i4)) ∧ Q i4 h')
def C_countermandref14_Sheet_Write (B : RO) (p1 : Option Addr) (i2 : Int) (i3 : Int) (i4 : Int) (h : Heap) (Q : Bool → Heap → Prop) : Prop :=
  Spec PG B 60 #[(Value.pointer p1), (Value.int .i64 (i2)), (Value.int .i64 (i3)), (Value.int .u8 (i4))] h (fun v h' => ∃ b5 : Bool, v = (Value.bool b5) ∧ Q b5 h')
def C_countermandref14_Sheet_Create (B : RO) (p1 : Option Addr) (i2 : Int) (h : Heap) (Q : Bool → Heap → Prop) : Prop :=
  Spec PG B 61 #[(Value.pointer p1), (Value.int .i64 (i2))] h (fun v h' => ∃ b3 : Bool, v = (Value.bool b3) ∧ Q b3 h')
def C_countermandref14_Sheet_Remove (B : RO) (p1 : Option Addr) (i2 : Int) (h : Heap) (Q : Bool → Heap → Prop) : Prop :=
  Spec PG B 62 #[(Value.pointer p1), (Value.int .i64 (i2))] h (fun v h' => ∃ b3 : Bool, v = (Value.bool b3) ∧ Q b3 h')
def C_countermandref14_Sheet_Rename (B : RO) (p1 : Option Addr) (i2 : Int) (i3 : Int) (h : Heap) (Q : Bool → Heap → Prop) : Prop :=
  Spec PG B 63 #[(Value.pointer p1), (Value.int .i64 (i2)), (Value.int .i64 (i3))] h (fun v h' => ∃ b4 : Bool, v = (Value.bool b4) ∧ Q b4 h')
def C_countermandref14_Sheet_Cut (B : RO) (p1 : Option Addr) (i2 : Int) (i3 : Int) (h : Heap) (Q : Bool → Heap → Prop) : Prop :=
  Spec PG B 64 #[(Value.pointer p1), (Value.int .i64 (i2)), (Value.int .i64 (i3))] h (fun v h' => ∃ b4 : Bool, v = (Value.bool b4) ∧ Q b4 h')
def C_cell_Row_int_Version (B : RO) (p1 : Option Addr) (i2 : Int) (h : Heap) (Q : Int → Heap → Prop) : Prop :=
  Spec PG B 65 #[(Value.pointer p1), (Value.int .i64 (i2))] h (fun v h' => ∃ i3 : Int, v = (Value.int .i64 (i3)) ∧ Q i3 h')
def C_draft_Draft_int_Put (B : RO) (p1 : Option Addr) (i2 : Int) (i3 : Int) (h : Heap) (Q : Bool → Heap → Prop) : Prop :=
  Spec PG B 66 #[(Value.pointer p1), (Value.int .i64 (i2)), (Value.int .i64 (i3))] h (fun v h' => ∃ b4 : Bool, v = (Value.bool b4) ∧ Q b4 h')
def C_cell_New_int (B : RO) (i1 : Int) (i2 : Int) (h : Heap) (Q : Option Addr → Heap → Prop) : Prop :=
  Spec PG B 67 #[(Value.int .i64 (i1)), (Value.int .i64 (i2))] h (fun v h' => ∃ p3 : Option Addr, v = (Value.pointer p3) ∧ Q p3 h')
def C_tome_New (B : RO) (h : Heap) (Q : Option Addr → Heap → Prop) : Prop :=
  Spec PG B 68 #[] h (fun v h' => ∃ p1 : Option Addr, v = (Value.pointer p1) ∧ Q p1 h')
def C_feed_New (B : RO) (h : Heap) (Q : Option Addr → Heap → Prop) : Prop :=
  Spec PG B 69 #[] h (fun v h' => ∃ p1 : Option Addr, v = (Value.pointer p1) ∧ Q p1 h')
def C_reads_New (B : RO) (i1 : Int) (h : Heap) (Q : Option Addr → Heap → Prop) : Prop :=
  Spec PG B 70 #[(Value.int .i64 (i1))] h (fun v h' => ∃ p2 : Option Addr, v = (Value.pointer p2) ∧ Q p2 h')
def C_mark_Fresh (B : RO) (i1 : Int) (i2 : Int) (i3 : Int) (i4 : Int) (h : Heap) (Q : Option Addr → Option Addr → Option Addr → Int → Int → Int → Int → Heap → Prop) : Prop :=
  Spec PG B 71 #[(Value.agg #[(Value.int .i64 (i1)), (Value.int .i64 (i2)), (Value.int .i64 (i3)), (Value.int .i64 (i4))])] h (fun v h' => ∃ p5 : Option Addr, ∃ p6 : Option Addr, ∃ p7 : Option Addr, ∃ i8 : Int, ∃ i9 : Int, ∃ i10 : Int, ∃ i11 : Int, v = (Value.agg #[(Value.pointer p5), (Value.pointer p6), (Value.pointer p7), (Value.int .i64 (i8)), (Value.int .i64 (i9)), (Value.int .i64 (i10)), (Value.int .i64 (i11))]) ∧ Q p5 p6 p7 i8 i9 i10 i11 h')
def C_sheet_Sheet_Draft (B : RO) (p1 : Option Addr) (h : Heap) (Q : Option Addr → Heap → Prop) : Prop :=
  Spec PG B 78 #[(Value.pointer p1)] h (fun v h' => ∃ p2 : Option Addr, v = (Value.pointer p2) ∧ Q p2 h')
def C_draft_Draft_int_find (B : RO) (p1 : Option Addr) (i2 : Int) (h : Heap) (Q : Int → Bool → Heap → Prop) : Prop :=
  Spec PG B 81 #[(Value.pointer p1), (Value.int .i64 (i2))] h (fun v h' => ∃ i3 : Int, ∃ b4 : Bool, v = Value.tuple #[(Value.int .i64 (i3)), (Value.bool b4)] ∧ Q i3 b4 h')
def C_reads_Set_Note (B : RO) (p1 : Option Addr) (l2 : List Value) (i3 : Int) (i4 : Int) (h : Heap) (Q : Bool → Heap → Prop) : Prop :=
  Spec PG B 82 #[(Value.pointer p1), (Value.agg (List.toArray l2)), (Value.int .i64 (i3)), (Value.int .i64 (i4))] h (fun v h' => ∃ b5 : Bool, v = (Value.bool b5) ∧ Q b5 h')
def C_cell_Row_int_is (B : RO) (p1 : Option Addr) (i2 : Int) (h : Heap) (Q : Bool → Heap → Prop) : Prop :=
  Spec PG B 83 #[(Value.pointer p1), (Value.int .i64 (i2))] h (fun v h' => ∃ b3 : Bool, v = (Value.bool b3) ∧ Q b3 h')
def C_reads_Now_Of (B : RO) (l1 : List Value) (i2 : Int) (i3 : Int) (h : Heap) (Q : Int → Heap → Prop) : Prop :=
  Spec PG B 84 #[(Value.agg (List.toArray l1)), (Value.int .i64 (i2)), (Value.int .i64 (i3))] h (fun v h' => ∃ i4 : Int, v = (Value.int .i64 (i4)) ∧ Q i4 h')
def C_draft_Draft_int_All_1 (B : RO) (v1 : Value) (A2 : Addr) (h : Heap) (Q : Heap → Prop) : Prop :=
  Spec PG B 85 #[v1, (Value.pointer (some A2))] h (fun v h' => v = Value.tuple #[] ∧ Q  h')
def C_draft_Draft_file_File_All (B : RO) (p1 : Option Addr) (h : Heap) (Q : Value → Heap → Prop) : Prop :=
  Spec PG B 86 #[(Value.pointer p1)] h (fun v h' => ∃ v2 : Value, v = v2 ∧ Q v2 h')
def C_tome_Tome_Set (B : RO) (p1 : Option Addr) (i2 : Int) (b3 : Bool) (s4 : ByteArray) (i5 : Int) (h : Heap) (Q : Bool → Heap → Prop) : Prop :=
  Spec PG B 87 #[(Value.pointer p1), (Value.int .i64 (i2)), (Value.agg #[(Value.bool b3), (Value.string s4)]), (Value.int .i64 (i5))] h (fun v h' => ∃ b6 : Bool, v = (Value.bool b6) ∧ Q b6 h')
def C_cursor_is (B : RO) (i1 : Int) (h : Heap) (Q : Bool → Heap → Prop) : Prop :=
  Spec PG B 88 #[(Value.int .i64 (i1))] h (fun v h' => ∃ b2 : Bool, v = (Value.bool b2) ∧ Q b2 h')
def C_cell_Row_file_File_Get (B : RO) (p1 : Option Addr) (i2 : Int) (h : Heap) (Q : Bool → ByteArray → Int → Heap → Prop) : Prop :=
  Spec PG B 89 #[(Value.pointer p1), (Value.int .i64 (i2))] h (fun v h' => ∃ b3 : Bool, ∃ s4 : ByteArray, ∃ i5 : Int, v = Value.tuple #[(Value.agg #[(Value.bool b3), (Value.string s4)]), (Value.int .i64 (i5))] ∧ Q b3 s4 i5 h')
def C_attempt_Attempt_touch (B : RO) (p1 : Option Addr) (i2 : Int) (h : Heap) (Q : Bool → ByteArray → Int → Heap → Prop) : Prop :=
  Spec PG B 90 #[(Value.pointer p1), (Value.int .i64 (i2))] h (fun v h' => ∃ b3 : Bool, ∃ s4 : ByteArray, ∃ i5 : Int, v = Value.tuple #[(Value.agg #[(Value.bool b3), (Value.string s4)]), (Value.int .i64 (i5))] ∧ Q b3 s4 i5 h')
def C_file_At (B : RO) (b1 : Bool) (s2 : ByteArray) (i3 : Int) (h : Heap) (Q : Int → Heap → Prop) : Prop :=
  Spec PG B 91 #[(Value.agg #[(Value.bool b1), (Value.string s2)]), (Value.int .i64 (i3))] h (fun v h' => ∃ i4 : Int, v = (Value.int .i64 (i4)) ∧ Q i4 h')
def C_sheet_Sheet_Write (B : RO) (p1 : Option Addr) (p2 : Option Addr) (i3 : Int) (i4 : Int) (i5 : Int) (h : Heap) (Q : Bool → Heap → Prop) : Prop :=
  Spec PG B 92 #[(Value.pointer p1), (Value.pointer p2), (Value.int .i64 (i3)), (Value.int .i64 (i4)), (Value.int .u8 (i5))] h (fun v h' => ∃ b6 : Bool, v = (Value.bool b6) ∧ Q b6 h')
def C_sheet_Sheet_Create (B : RO) (p1 : Option Addr) (p2 : Option Addr) (i3 : Int) (h : Heap) (Q : Bool → Heap → Prop) : Prop :=
  Spec PG B 93 #[(Value.pointer p1), (Value.pointer p2), (Value.int .i64 (i3))] h (fun v h' => ∃ b4 : Bool, v = (Value.bool b4) ∧ Q b4 h')
def C_sheet_Sheet_Remove (B : RO) (p1 : Option Addr) (p2 : Option Addr) (i3 : Int) (h : Heap) (Q : Bool → Heap → Prop) : Prop :=
  Spec PG B 94 #[(Value.pointer p1), (Value.pointer p2), (Value.int .i64 (i3))] h (fun v h' => ∃ b4 : Bool, v = (Value.bool b4) ∧ Q b4 h')
def C_sheet_Sheet_Rename (B : RO) (p1 : Option Addr) (p2 : Option Addr) (i3 : Int) (i4 : Int) (h : Heap) (Q : Bool → Heap → Prop) : Prop :=
  Spec PG B 95 #[(Value.pointer p1), (Value.pointer p2), (Value.int .i64 (i3)), (Value.int .i64 (i4))] h (fun v h' => ∃ b5 : Bool, v = (Value.bool b5) ∧ Q b5 h')
def C_sheet_Sheet_Cut (B : RO) (p1 : Option Addr) (p2 : Option Addr) (i3 : Int) (i4 : Int) (h : Heap) (Q : Bool → Heap → Prop) : Prop :=
  Spec PG B 96 #[(Value.pointer p1), (Value.pointer p2), (Value.int .i64 (i3)), (Value.int .i64 (i4))] h (fun v h' => ∃ b5 : Bool, v = (Value.bool b5) ∧ Q b5 h')
def C_feed_Feed_At (B : RO) (p1 : Option Addr) (i2 : Int) (i3 : Int) (h : Heap) (Q : Int → Heap → Prop) : Prop :=
  Spec PG B 97 #[(Value.pointer p1), (Value.int .i64 (i2)), (Value.int .i64 (i3))] h (fun v h' => ∃ i4 : Int, v = (Value.int .i64 (i4)) ∧ Q i4 h')
def C_cursor_Cursor_At (B : RO) (p1 : Option Addr) (i2 : Int) (i3 : Int) (h : Heap) (Q : Int → Heap → Prop) : Prop :=
  Spec PG B 98 #[(Value.pointer p1), (Value.int .i64 (i2)), (Value.int .i64 (i3))] h (fun v h' => ∃ i4 : Int, v = (Value.int .i64 (i4)) ∧ Q i4 h')
def C_cursor_Cursor_Step (B : RO) (p1 : Option Addr) (i2 : Int) (h : Heap) (Q : Bool → Heap → Prop) : Prop :=
  Spec PG B 99 #[(Value.pointer p1), (Value.int .i64 (i2))] h (fun v h' => ∃ b3 : Bool, v = (Value.bool b3) ∧ Q b3 h')
def C_countermandref14_Is (B : RO) (i1 : Int) (h : Heap) (Q : Bool → Heap → Prop) : Prop :=
  Spec PG B 100 #[(Value.int .i64 (i1))] h (fun v h' => ∃ b2 : Bool, v = (Value.bool b2) ∧ Q b2 h')
def C_countermandref14_Sheet_put (B : RO) (p1 : Option Addr) (i2 : Int) (b3 : Bool) (s4 : ByteArray) (h : Heap) (Q : Heap → Prop) : Prop :=
  Spec PG B 101 #[(Value.pointer p1), (Value.int .i64 (i2)), (Value.agg #[(Value.bool b3), (Value.string s4)])] h (fun v h' => v = Value.tuple #[] ∧ Q  h')
def C_countermandref09_Put (B : RO) (b1 : Bool) (s2 : ByteArray) (i3 : Int) (i4 : Int) (h : Heap) (Q : Bool → ByteArray → Heap → Prop) : Prop :=
  Spec PG B 102 #[(Value.agg #[(Value.bool b1), (Value.string s2)]), (Value.int .i64 (i3)), (Value.int .u8 (i4))] h (fun v h' => ∃ b5 : Bool, ∃ s6 : ByteArray, v = (Value.agg #[(Value.bool b5), (Value.string s6)]) ∧ Q b5 s6 h')
def C_countermandref09_Cut (B : RO) (b1 : Bool) (s2 : ByteArray) (i3 : Int) (h : Heap) (Q : Bool → ByteArray → Heap → Prop) : Prop :=
  Spec PG B 103 #[(Value.agg #[(Value.bool b1), (Value.string s2)]), (Value.int .i64 (i3))] h (fun v h' => ∃ b4 : Bool, ∃ s5 : ByteArray, v = (Value.agg #[(Value.bool b4), (Value.string s5)]) ∧ Q b4 s5 h')
def C_slices_Insert_s_draft_entry_int_draft_entry_int (B : RO) (a1 : Option Addr) (n2 : Nat) (c3 : Nat) (i4 : Int) (a5 : Option Addr) (n6 : Nat) (c7 : Nat) (h : Heap) (Q : Option Addr → Nat → Nat → Heap → Prop) : Prop :=
  Spec PG B 104 #[(Value.slice a1 n2 c3), (Value.int .i64 (i4)), (Value.slice a5 n6 c7)] h (fun v h' => ∃ a8 : Option Addr, ∃ n9 : Nat, ∃ c10 : Nat, v = (Value.slice a8 n9 c10) ∧ Q a8 n9 c10 h')
def C_cell_New_file_File (B : RO) (i1 : Int) (b2 : Bool) (s3 : ByteArray) (h : Heap) (Q : Option Addr → Heap → Prop) : Prop :=
  Spec PG B 105 #[(Value.int .i64 (i1)), (Value.agg #[(Value.bool b2), (Value.string s3)])] h (fun v h' => ∃ p4 : Option Addr, v = (Value.pointer p4) ∧ Q p4 h')
def C_sheet_New (B : RO) (h : Heap) (Q : Option Addr → Heap → Prop) : Prop :=
  Spec PG B 106 #[] h (fun v h' => ∃ p1 : Option Addr, v = (Value.pointer p1) ∧ Q p1 h')
def C_slices_BinarySearchFunc_s_draft_entry_int_draft_entry_int_int (B : RO) (a1 : Option Addr) (n2 : Nat) (c3 : Nat) (i4 : Int) (v5 : Value) (h : Heap) (Q : Int → Bool → Heap → Prop) : Prop :=
  Spec PG B 114 #[(Value.slice a1 n2 c3), (Value.int .i64 (i4)), v5] h (fun v h' => ∃ i6 : Int, ∃ b7 : Bool, v = Value.tuple #[(Value.int .i64 (i6)), (Value.bool b7)] ∧ Q i6 b7 h')
def C_draft_by_int (B : RO) (i1 : Int) (i2 : Int) (i3 : Int) (h : Heap) (Q : Int → Heap → Prop) : Prop :=
  Spec PG B 115 #[(Value.agg #[(Value.int .i64 (i1)), (Value.int .i64 (i2))]), (Value.int .i64 (i3))] h (fun v h' => ∃ i4 : Int, v = (Value.int .i64 (i4)) ∧ Q i4 h')
def C_reads_Set_place (B : RO) (p1 : Option Addr) (i2 : Int) (i3 : Int) (h : Heap) (Q : Int → Heap → Prop) : Prop :=
  Spec PG B 116 #[(Value.pointer p1), (Value.int .i64 (i2)), (Value.int .i64 (i3))] h (fun v h' => ∃ i4 : Int, v = (Value.int .i64 (i4)) ∧ Q i4 h')
def C_draft_Draft_file_File_All_1 (B : RO) (v1 : Value) (A2 : Addr) (h : Heap) (Q : Heap → Prop) : Prop :=
  Spec PG B 117 #[v1, (Value.pointer (some A2))] h (fun v h' => v = Value.tuple #[] ∧ Q  h')
def C_file_Good (B : RO) (b1 : Bool) (s2 : ByteArray) (h : Heap) (Q : Bool → Heap → Prop) : Prop :=
  Spec PG B 118 #[(Value.agg #[(Value.bool b1), (Value.string s2)])] h (fun v h' => ∃ b3 : Bool, v = (Value.bool b3) ∧ Q b3 h')
def C_cell_Row_file_File_Set (B : RO) (p1 : Option Addr) (i2 : Int) (b3 : Bool) (s4 : ByteArray) (i5 : Int) (h : Heap) (Q : Bool → Heap → Prop) : Prop :=
  Spec PG B 119 #[(Value.pointer p1), (Value.int .i64 (i2)), (Value.agg #[(Value.bool b3), (Value.string s4)]), (Value.int .i64 (i5))] h (fun v h' => ∃ b6 : Bool, v = (Value.bool b6) ∧ Q b6 h')
def C_cell_Row_file_File_is (B : RO) (p1 : Option Addr) (i2 : Int) (h : Heap) (Q : Bool → Heap → Prop) : Prop :=
  Spec PG B 120 #[(Value.pointer p1), (Value.int .i64 (i2))] h (fun v h' => ∃ b3 : Bool, v = (Value.bool b3) ∧ Q b3 h')
def C_sheet_Sheet_Get (B : RO) (p1 : Option Addr) (p2 : Option Addr) (i3 : Int) (h : Heap) (Q : Bool → ByteArray → Bool → Heap → Prop) : Prop :=
  Spec PG B 121 #[(Value.pointer p1), (Value.pointer p2), (Value.int .i64 (i3))] h (fun v h' => ∃ b4 : Bool, ∃ s5 : ByteArray, ∃ b6 : Bool, v = Value.tuple #[(Value.agg #[(Value.bool b4), (Value.string s5)]), (Value.bool b6)] ∧ Q b4 s5 b6 h')
def C_sheet_Sheet_put (B : RO) (p1 : Option Addr) (p2 : Option Addr) (i3 : Int) (b4 : Bool) (s5 : ByteArray) (h : Heap) (Q : Bool → Heap → Prop) : Prop :=
  Spec PG B 122 #[(Value.pointer p1), (Value.pointer p2), (Value.int .i64 (i3)), (Value.agg #[(Value.bool b4), (Value.string s5)])] h (fun v h' => ∃ b6 : Bool, v = (Value.bool b6) ∧ Q b6 h')
def C_file_Put (B : RO) (b1 : Bool) (s2 : ByteArray) (i3 : Int) (i4 : Int) (h : Heap) (Q : Bool → ByteArray → Heap → Prop) : Prop :=
  Spec PG B 123 #[(Value.agg #[(Value.bool b1), (Value.string s2)]), (Value.int .i64 (i3)), (Value.int .u8 (i4))] h (fun v h' => ∃ b5 : Bool, ∃ s6 : ByteArray, v = (Value.agg #[(Value.bool b5), (Value.string s6)]) ∧ Q b5 s6 h')
def C_file_Make (B : RO) (b1 : Bool) (s2 : ByteArray) (h : Heap) (Q : Bool → ByteArray → Heap → Prop) : Prop :=
  Spec PG B 124 #[(Value.agg #[(Value.bool b1), (Value.string s2)])] h (fun v h' => ∃ b3 : Bool, ∃ s4 : ByteArray, v = (Value.agg #[(Value.bool b3), (Value.string s4)]) ∧ Q b3 s4 h')
def C_file_Cut (B : RO) (b1 : Bool) (s2 : ByteArray) (i3 : Int) (h : Heap) (Q : Bool → ByteArray → Heap → Prop) : Prop :=
  Spec PG B 125 #[(Value.agg #[(Value.bool b1), (Value.string s2)]), (Value.int .i64 (i3))] h (fun v h' => ∃ b4 : Bool, ∃ s5 : ByteArray, v = (Value.agg #[(Value.bool b4), (Value.string s5)]) ∧ Q b4 s5 h')
def C_slices_rotateRight_draft_entry_int (B : RO) (a1 : Option Addr) (n2 : Nat) (c3 : Nat) (i4 : Int) (h : Heap) (Q : Heap → Prop) : Prop :=
  Spec PG B 127 #[(Value.slice a1 n2 c3), (Value.int .i64 (i4))] h (fun v h' => v = Value.tuple #[] ∧ Q  h')
def C_slices_IndexFunc_s_reads_Entry_reads_Entry (B : RO) (a1 : Option Addr) (n2 : Nat) (c3 : Nat) (v4 : Value) (h : Heap) (Q : Int → Heap → Prop) : Prop :=
  Spec PG B 132 #[(Value.slice a1 n2 c3), v4] h (fun v h' => ∃ i5 : Int, v = (Value.int .i64 (i5)) ∧ Q i5 h')
def C_reads_Set_place_1 (B : RO) (i1 : Int) (i2 : Int) (i3 : Int) (A4 : Addr) (A5 : Addr) (h : Heap) (Q : Bool → Heap → Prop) : Prop :=
  Spec PG B 133 #[(Value.agg #[(Value.int .i64 (i1)), (Value.int .i64 (i2)), (Value.int .i64 (i3))]), (Value.pointer (some A4)), (Value.pointer (some A5))] h (fun v h' => ∃ b6 : Bool, v = (Value.bool b6) ∧ Q b6 h')
def C_draft_Draft_file_File_Get (B : RO) (p1 : Option Addr) (i2 : Int) (h : Heap) (Q : Bool → ByteArray → Bool → Heap → Prop) : Prop :=
  Spec PG B 134 #[(Value.pointer p1), (Value.int .i64 (i2))] h (fun v h' => ∃ b3 : Bool, ∃ s4 : ByteArray, ∃ b5 : Bool, v = Value.tuple #[(Value.agg #[(Value.bool b3), (Value.string s4)]), (Value.bool b5)] ∧ Q b3 s4 b5 h')
def C_draft_Draft_file_File_Put (B : RO) (p1 : Option Addr) (i2 : Int) (b3 : Bool) (s4 : ByteArray) (h : Heap) (Q : Bool → Heap → Prop) : Prop :=
  Spec PG B 135 #[(Value.pointer p1), (Value.int .i64 (i2)), (Value.agg #[(Value.bool b3), (Value.string s4)])] h (fun v h' => ∃ b5 : Bool, v = (Value.bool b5) ∧ Q b5 h')
def C_strings_Repeat (B : RO) (s1 : ByteArray) (i2 : Int) (h : Heap) (Q : ByteArray → Heap → Prop) : Prop :=
  Spec PG B 136 #[(Value.string s1), (Value.int .i64 (i2))] h (fun v h' => ∃ s3 : ByteArray, v = (Value.string s3) ∧ Q s3 h')
def C_draft_Draft_file_File_find (B : RO) (p1 : Option Addr) (i2 : Int) (h : Heap) (Q : Int → Bool → Heap → Prop) : Prop :=
  Spec PG B 141 #[(Value.pointer p1), (Value.int .i64 (i2))] h (fun v h' => ∃ i3 : Int, ∃ b4 : Bool, v = Value.tuple #[(Value.int .i64 (i3)), (Value.bool b4)] ∧ Q i3 b4 h')
def C_slices_Insert_s_draft_entry_file_File_draft_entry_file_File (B : RO) (a1 : Option Addr) (n2 : Nat) (c3 : Nat) (i4 : Int) (a5 : Option Addr) (n6 : Nat) (c7 : Nat) (h : Heap) (Q : Option Addr → Nat → Nat → Heap → Prop) : Prop :=
  Spec PG B 142 #[(Value.slice a1 n2 c3), (Value.int .i64 (i4)), (Value.slice a5 n6 c7)] h (fun v h' => ∃ a8 : Option Addr, ∃ n9 : Nat, ∃ c10 : Nat, v = (Value.slice a8 n9 c10) ∧ Q a8 n9 c10 h')
def C_slices_BinarySearchFunc_s_draft_entry_file_File_draft_entry_file_File_int (B : RO) (a1 : Option Addr) (n2 : Nat) (c3 : Nat) (i4 : Int) (v5 : Value) (h : Heap) (Q : Int → Bool → Heap → Prop) : Prop :=
  Spec PG B 151 #[(Value.slice a1 n2 c3), (Value.int .i64 (i4)), v5] h (fun v h' => ∃ i6 : Int, ∃ b7 : Bool, v = Value.tuple #[(Value.int .i64 (i6)), (Value.bool b7)] ∧ Q i6 b7 h')
def C_draft_by_file_File (B : RO) (i1 : Int) (b2 : Bool) (s3 : ByteArray) (i4 : Int) (h : Heap) (Q : Int → Heap → Prop) : Prop :=
  Spec PG B 152 #[(Value.agg #[(Value.int .i64 (i1)), (Value.bool b2), (Value.string s3)]), (Value.int .i64 (i4))] h (fun v h' => ∃ i5 : Int, v = (Value.int .i64 (i5)) ∧ Q i5 h')
def C_slices_rotateRight_draft_entry_file_File (B : RO) (a1 : Option Addr) (n2 : Nat) (c3 : Nat) (i4 : Int) (h : Heap) (Q : Heap → Prop) : Prop :=
  Spec PG B 154 #[(Value.slice a1 n2 c3), (Value.int .i64 (i4))] h (fun v h' => v = Value.tuple #[] ∧ Q  h')
end Go.Proofs.YtgldgabefiialaaGreat.H
namespace Go.Proofs.YtgldgabefiialaaGreat.H
open Go
set_option linter.unusedVariables false
set_option maxRecDepth 100000
set_option maxHeartbeats 4000000
def S_countermandlaw20_AttemptLands_J4 (B : RO) (p13 : Option Addr) (i41 : Int) (k113 : Nat) (A120 : Addr) (k127 : Nat) (h131 : Heap) (Q : Bool → Heap → Prop) : Prop :=
 Fin B h131 (Q (false))
def S_countermandlaw20_AttemptLands_J3 (B : RO) (p13 : Option Addr) (i41 : Int) (k113 : Nat) (A120 : Addr) (h121 : Heap) (Q : Bool → Heap → Prop) : Prop :=
 ∃ A122 : Addr, p13 = some A122 ∧
 ∃ p124 : Option Addr, cellH B h121 A122 = some (.pointer p124) ∧
 C_attempt_View_Now B p124 h121 (fun l126 h125 =>
 ∀ k127 : Nat, h125 k127 = none → B k127 = none → ∀ h128 : Heap, h128 = Heap.set h125 k127 (.vec 65 (plains (List.replicate 25 (.int .i64 (0)))) 25) →
 List.length l126 = 25 ∧ ∃ h129 : Heap, StoresAt ⟨k127, 0, none⟩ h128 0 l126 h129 ∧
 ∃ (J137 : Int → Nat → Heap → Prop) (m135 : Nat), Fin B h129 (J137 (0) m135) ∧
 ∀ (i132 : Int) (m134 : Nat) (h133 : Heap), J137 i132 m134 h133 →
 ((i132 : Int) < (3) →
 0 ≤ (i132 : Int) ∧ (i132 : Int) < (3 : Nat) ∧
 ∃ i138 : Int, ∃ i139 : Int, ∃ i140 : Int, ∃ i141 : Int, ∃ i142 : Int, ∃ i143 : Int, ∃ i144 : Int, ∃ i145 : Int, CellsAt B h133 (Addr.add ⟨k127, 0, none⟩ (Int.toNat (i132) * 8)) 0 [(.int .i64 (i138)), (.int .i64 (i139)), (.int .i64 (i140)), (.int .i64 (i141)), (.int .i64 (i142)), (.int .i64 (i143)), (.int .i64 (i144)), (.int .i64 (i145))] ∧
 ∃ (J151 : Int → Nat → Heap → Prop) (m149 : Nat), Fin B h133 (J151 (0) m149) ∧
 ∀ (i146 : Int) (m148 : Nat) (h147 : Heap), J151 i146 m148 h147 →
 ((i146 : Int) < (8) →
 0 ≤ (i146 : Int) ∧ (i146 : Int) < (8 : Nat) ∧ ∃ i152 : Int, (#[(.int .i64 (i138)), (.int .i64 (i139)), (.int .i64 (i140)), (.int .i64 (i141)), (.int .i64 (i142)), (.int .i64 (i143)), (.int .i64 (i144)), (.int .i64 (i145))] : Array Value)[Int.toNat (i146) * 1]? = some (.int .i64 (i152)) ∧
 ∃ i153 : Int, cellH B h147 ⟨k127, 24, none⟩ = some (.int .i64 (i153)) ∧
 ((i152 : Int) > (i153) →
 Fin B h147 (Q (false))) ∧ (¬ ((i152 : Int) > (i153)) →
 Fin B h147 (fun h' => ∃ m', m' < m148 ∧ J151 (IntKind.wrap .i64 ((i146) + (1))) m' h'))) ∧ (¬ ((i146 : Int) < (8)) →
 Fin B h147 (fun h' => ∃ m', m' < m134 ∧ J137 (IntKind.wrap .i64 ((i132) + (1))) m' h'))) ∧ (¬ ((i132 : Int) < (3)) →
 Fin B h133 (fun h' => S_countermandlaw20_AttemptLands_J4 B p13 i41 k113 A120 k127 h' Q)))
def S_countermandlaw20_AttemptLands_J5 (B : RO) (p13 : Option Addr) (k24 : Nat) (k26 : Nat) (i41 : Int) (k113 : Nat) (l154 : List Value) (s156 : ByteArray) (s157 : ByteArray) (s158 : ByteArray) (A161 : Addr) (a165 : Option Addr) (n166 : Nat) (c167 : Nat) (A192 : Addr) (i193 : Int) (l194 : List Value) (h195 : Heap) (Q : Bool → Heap → Prop) : Prop :=
 List.length l194 = 23 ∧ ∃ h199 : Heap, StoresAt A192 h195 0 l194 h199 ∧
 Fin B h199 (fun h' => S_countermandlaw20_AttemptLands_J3 B p13 i41 k113 A192 h' Q)
def S_countermandlaw20_AttemptLands_J7 (B : RO) (p13 : Option Addr) (i41 : Int) (k230 : Nat) (A237 : Addr) (k244 : Nat) (h248 : Heap) (Q : Bool → Heap → Prop) : Prop :=
 ∃ l249 : List Value, List.length l249 = 23 ∧ CellsAt B h248 ⟨k230, 0, none⟩ 0 l249 ∧
 ∃ l250 : List Value, List.length l250 = 23 ∧ CellsAt B h248 A237 0 l250 ∧
 fitL [Kd.int .i64, Kd.int .i64, Kd.int .i64, Kd.int .i64, Kd.int .i64, Kd.int .i64, Kd.int .i64, Kd.int .i64, Kd.bool, Kd.str, Kd.bool, Kd.str, Kd.bool, Kd.str, Kd.bool, Kd.str, Kd.bool, Kd.str, Kd.bool, Kd.str, Kd.int .i64, Kd.int .i64, Kd.int .i64] l249 ∧ fitL [Kd.int .i64, Kd.int .i64, Kd.int .i64, Kd.int .i64, Kd.int .i64, Kd.int .i64, Kd.int .i64, Kd.int .i64, Kd.bool, Kd.str, Kd.bool, Kd.str, Kd.bool, Kd.str, Kd.bool, Kd.str, Kd.bool, Kd.str, Kd.bool, Kd.str, Kd.int .i64, Kd.int .i64, Kd.int .i64] l250 ∧
 (eqL l249 l250 = true →
 ∃ A252 : Addr, p13 = some A252 ∧
 ∃ p254 : Option Addr, cellH B h248 A252 = some (.pointer p254) ∧
 ∃ A255 : Addr, p254 = some A255 ∧
 ∃ i257 : Int, cellH B h248 (Addr.add A255 3) = some (.int .i64 (i257)) ∧
 ((i257 : Int) = IntKind.wrap .i64 ((i41) + (1)) →
 ∃ i258 : Int, cellH B h248 ⟨k244, 24, none⟩ = some (.int .i64 (i258)) ∧
 Fin B h248 (Q (((i258 : Int) == (IntKind.wrap .i64 ((i41) + (1))))))) ∧ (¬ ((i257 : Int) = IntKind.wrap .i64 ((i41) + (1))) →
 Fin B h248 (Q (false)))) ∧ (¬ (eqL l249 l250 = true) →
 Fin B h248 (Q (false)))
def S_countermandlaw20_AttemptLands_J6 (B : RO) (p13 : Option Addr) (i41 : Int) (k230 : Nat) (A237 : Addr) (h238 : Heap) (Q : Bool → Heap → Prop) : Prop :=
 ∃ A239 : Addr, p13 = some A239 ∧
 ∃ p241 : Option Addr, cellH B h238 A239 = some (.pointer p241) ∧
 C_attempt_View_Now B p241 h238 (fun l243 h242 =>
 ∀ k244 : Nat, h242 k244 = none → B k244 = none → ∀ h245 : Heap, h245 = Heap.set h242 k244 (.vec 65 (plains (List.replicate 25 (.int .i64 (0)))) 25) →
 List.length l243 = 25 ∧ ∃ h246 : Heap, StoresAt ⟨k244, 0, none⟩ h245 0 l243 h246 ∧
 ∃ (J264 : Int → Nat → Heap → Prop) (m262 : Nat), Fin B h246 (J264 (0) m262) ∧
 ∀ (i259 : Int) (m261 : Nat) (h260 : Heap), J264 i259 m261 h260 →
 ((i259 : Int) < (3) →
 0 ≤ (i259 : Int) ∧ (i259 : Int) < (3 : Nat) ∧
 ∃ i265 : Int, ∃ i266 : Int, ∃ i267 : Int, ∃ i268 : Int, ∃ i269 : Int, ∃ i270 : Int, ∃ i271 : Int, ∃ i272 : Int, CellsAt B h260 (Addr.add ⟨k244, 0, none⟩ (Int.toNat (i259) * 8)) 0 [(.int .i64 (i265)), (.int .i64 (i266)), (.int .i64 (i267)), (.int .i64 (i268)), (.int .i64 (i269)), (.int .i64 (i270)), (.int .i64 (i271)), (.int .i64 (i272))] ∧
 ∃ (J278 : Int → Nat → Heap → Prop) (m276 : Nat), Fin B h260 (J278 (0) m276) ∧
 ∀ (i273 : Int) (m275 : Nat) (h274 : Heap), J278 i273 m275 h274 →
 ((i273 : Int) < (8) →
 0 ≤ (i273 : Int) ∧ (i273 : Int) < (8 : Nat) ∧ ∃ i279 : Int, (#[(.int .i64 (i265)), (.int .i64 (i266)), (.int .i64 (i267)), (.int .i64 (i268)), (.int .i64 (i269)), (.int .i64 (i270)), (.int .i64 (i271)), (.int .i64 (i272))] : Array Value)[Int.toNat (i273) * 1]? = some (.int .i64 (i279)) ∧
 ∃ i280 : Int, cellH B h274 ⟨k244, 24, none⟩ = some (.int .i64 (i280)) ∧
 ((i279 : Int) > (i280) →
 Fin B h274 (Q (false))) ∧ (¬ ((i279 : Int) > (i280)) →
 Fin B h274 (fun h' => ∃ m', m' < m275 ∧ J278 (IntKind.wrap .i64 ((i273) + (1))) m' h'))) ∧ (¬ ((i273 : Int) < (8)) →
 Fin B h274 (fun h' => ∃ m', m' < m261 ∧ J264 (IntKind.wrap .i64 ((i259) + (1))) m' h'))) ∧ (¬ ((i259 : Int) < (3)) →
 Fin B h260 (fun h' => S_countermandlaw20_AttemptLands_J7 B p13 i41 k230 A237 k244 h' Q)))
def S_countermandlaw20_AttemptLands_J8 (B : RO) (p13 : Option Addr) (k24 : Nat) (k26 : Nat) (i41 : Int) (k230 : Nat) (l281 : List Value) (s283 : ByteArray) (s284 : ByteArray) (s285 : ByteArray) (A288 : Addr) (a292 : Option Addr) (n293 : Nat) (c294 : Nat) (A319 : Addr) (i320 : Int) (l321 : List Value) (h322 : Heap) (Q : Bool → Heap → Prop) : Prop :=
 List.length l321 = 23 ∧ ∃ h326 : Heap, StoresAt A319 h322 0 l321 h326 ∧
 Fin B h326 (fun h' => S_countermandlaw20_AttemptLands_J6 B p13 i41 k230 A319 h' Q)
def S_countermandlaw20_AttemptLands_J2 (B : RO) (p13 : Option Addr) (h15 : Heap) (Q : Bool → Heap → Prop) : Prop :=
 ∃ A16 : Addr, p13 = some A16 ∧
 ∃ p18 : Option Addr, cellH B h15 A16 = some (.pointer p18) ∧
 C_countermandlaw20_things B p18 h15 (fun l20 s21 s22 s23 h19 =>
 ∀ k24 : Nat, h19 k24 = none → B k24 = none → ∀ h25 : Heap, h25 = Heap.set h19 k24 (.vec 55 (plains [(.int .i64 (0)), (.int .i64 (0)), (.int .i64 (0)), (.int .i64 (0)), (.int .i64 (0)), (.int .i64 (0)), (.int .i64 (0)), (.int .i64 (0)), (.bool false), (.string ByteArray.empty), (.bool false), (.string ByteArray.empty), (.bool false), (.string ByteArray.empty), (.bool false), (.string ByteArray.empty), (.bool false), (.string ByteArray.empty), (.bool false), (.string ByteArray.empty), (.int .i64 (0)), (.int .i64 (0)), (.int .i64 (0))]) 23) →
 ∀ k26 : Nat, h25 k26 = none → B k26 = none → ∀ h27 : Heap, h27 = Heap.set h25 k26 (.vec 56 (plains [(.string ByteArray.empty), (.string ByteArray.empty), (.string ByteArray.empty)]) 3) →
 List.length l20 = 23 ∧ ∃ h28 : Heap, StoresAt ⟨k24, 0, none⟩ h27 0 l20 h28 ∧
 ∃ h29 : Heap, StoresAt ⟨k26, 0, none⟩ h28 0 [(.string s21), (.string s22), (.string s23)] h29 ∧
 ∃ A31 : Addr, p13 = some A31 ∧
 ∃ p35 : Option Addr, cellH B h29 A31 = some (.pointer p35) ∧
 ∃ A37 : Addr, p35 = some A37 ∧
 ∃ i41 : Int, cellH B h29 (Addr.add A37 3) = some (.int .i64 (i41)) ∧
 ∃ A44 : Addr, p13 = some A44 ∧
 ∃ p48 : Option Addr, cellH B h29 (Addr.add A44 1) = some (.pointer p48) ∧
 C_attempt_Attempt_Valid B p48 h29 (fun b51 h50 =>
 (b51 = true →
 cellH B h50 A31 = some (.pointer p35) ∧ cellH B h50 (Addr.add A37 3) = some (.int .i64 (i41)) ∧ cellH B h50 (Addr.add A44 1) = some (.pointer p48) ∧
 ∃ A100 : Addr, p13 = some A100 ∧
 ∃ p102 : Option Addr, cellH B h50 (Addr.add A100 1) = some (.pointer p102) ∧
 C_attempt_Attempt_Land B p102 h50 (fun b104 h103 =>
 (b104 = true →
 ∃ A222 : Addr, p13 = some A222 ∧
 ∃ p224 : Option Addr, cellH B h103 A222 = some (.pointer p224) ∧
 C_countermandlaw20_things B p224 h103 (fun l226 s227 s228 s229 h225 =>
 ∀ k230 : Nat, h225 k230 = none → B k230 = none → ∀ h231 : Heap, h231 = Heap.set h225 k230 (.vec 55 (plains [(.int .i64 (0)), (.int .i64 (0)), (.int .i64 (0)), (.int .i64 (0)), (.int .i64 (0)), (.int .i64 (0)), (.int .i64 (0)), (.int .i64 (0)), (.bool false), (.string ByteArray.empty), (.bool false), (.string ByteArray.empty), (.bool false), (.string ByteArray.empty), (.bool false), (.string ByteArray.empty), (.bool false), (.string ByteArray.empty), (.bool false), (.string ByteArray.empty), (.int .i64 (0)), (.int .i64 (0)), (.int .i64 (0))]) 23) →
 ∀ k232 : Nat, h231 k232 = none → B k232 = none → ∀ h233 : Heap, h233 = Heap.set h231 k232 (.vec 56 (plains [(.string ByteArray.empty), (.string ByteArray.empty), (.string ByteArray.empty)]) 3) →
 List.length l226 = 23 ∧ ∃ h234 : Heap, StoresAt ⟨k230, 0, none⟩ h233 0 l226 h234 ∧
 ∃ h235 : Heap, StoresAt ⟨k232, 0, none⟩ h234 0 [(.string s227), (.string s228), (.string s229)] h235 ∧
 ∃ l281 : List Value, List.length l281 = 23 ∧ CellsAt B h235 ⟨k24, 0, none⟩ 0 l281 ∧
 ∃ s283 : ByteArray, ∃ s284 : ByteArray, ∃ s285 : ByteArray, CellsAt B h235 ⟨k26, 0, none⟩ 0 [(.string s283), (.string s284), (.string s285)] ∧
 ∃ A288 : Addr, p13 = some A288 ∧
 ∃ a292 : Option Addr, ∃ n293 : Nat, ∃ c294 : Nat, cellH B h235 (Addr.add A288 2) = some (.slice a292 n293 c294) ∧
 (C_countermandref20_Do B l281 s283 s284 s285 a292 n293 c294 h235 (fun i328 l329 h327 =>
 CellsAt B h327 ⟨k24, 0, none⟩ 0 l281 ∧ CellsAt B h327 ⟨k26, 0, none⟩ 0 [(.string s283), (.string s284), (.string s285)] ∧ cellH B h327 (Addr.add A288 2) = some (.slice a292 n293 c294) ∧
 ∀ k333 : Nat, h327 k333 = none → B k333 = none → ∀ h334 : Heap, h334 = Heap.set h327 k333 (.vec 55 (plains [(.int .i64 (0)), (.int .i64 (0)), (.int .i64 (0)), (.int .i64 (0)), (.int .i64 (0)), (.int .i64 (0)), (.int .i64 (0)), (.int .i64 (0)), (.bool false), (.string ByteArray.empty), (.bool false), (.string ByteArray.empty), (.bool false), (.string ByteArray.empty), (.bool false), (.string ByteArray.empty), (.bool false), (.string ByteArray.empty), (.bool false), (.string ByteArray.empty), (.int .i64 (0)), (.int .i64 (0)), (.int .i64 (0))]) 23) →
 CellsAt B h334 ⟨k24, 0, none⟩ 0 l281 ∧ CellsAt B h334 ⟨k26, 0, none⟩ 0 [(.string s283), (.string s284), (.string s285)] ∧ cellH B h334 (Addr.add A288 2) = some (.slice a292 n293 c294) ∧
 S_countermandlaw20_AttemptLands_J8 B p13 k24 k26 i41 k230 l281 s283 s284 s285 A288 a292 n293 c294 ⟨k333, 0, none⟩ (i328) l329 h334 Q)) ∧
 (∀ k338 : Nat, h235 k338 = none → B k338 = none → ∀ h339 : Heap, h339 = Heap.set h235 k338 (.vec 55 (plains [(.int .i64 (0)), (.int .i64 (0)), (.int .i64 (0)), (.int .i64 (0)), (.int .i64 (0)), (.int .i64 (0)), (.int .i64 (0)), (.int .i64 (0)), (.bool false), (.string ByteArray.empty), (.bool false), (.string ByteArray.empty), (.bool false), (.string ByteArray.empty), (.bool false), (.string ByteArray.empty), (.bool false), (.string ByteArray.empty), (.bool false), (.string ByteArray.empty), (.int .i64 (0)), (.int .i64 (0)), (.int .i64 (0))]) 23) →
 CellsAt B h339 ⟨k24, 0, none⟩ 0 l281 ∧ CellsAt B h339 ⟨k26, 0, none⟩ 0 [(.string s283), (.string s284), (.string s285)] ∧ cellH B h339 (Addr.add A288 2) = some (.slice a292 n293 c294) ∧
 C_countermandref20_Do B l281 s283 s284 s285 a292 n293 c294 h339 (fun i344 l345 h343 =>
 CellsAt B h343 ⟨k24, 0, none⟩ 0 l281 ∧ CellsAt B h343 ⟨k26, 0, none⟩ 0 [(.string s283), (.string s284), (.string s285)] ∧ cellH B h343 (Addr.add A288 2) = some (.slice a292 n293 c294) ∧
 S_countermandlaw20_AttemptLands_J8 B p13 k24 k26 i41 k230 l281 s283 s284 s285 A288 a292 n293 c294 ⟨k338, 0, none⟩ (i344) l345 h343 Q)))) ∧ (b104 = false →
 ∃ A105 : Addr, p13 = some A105 ∧
 ∃ p107 : Option Addr, cellH B h103 A105 = some (.pointer p107) ∧
 C_countermandlaw20_things B p107 h103 (fun l109 s110 s111 s112 h108 =>
 ∀ k113 : Nat, h108 k113 = none → B k113 = none → ∀ h114 : Heap, h114 = Heap.set h108 k113 (.vec 55 (plains [(.int .i64 (0)), (.int .i64 (0)), (.int .i64 (0)), (.int .i64 (0)), (.int .i64 (0)), (.int .i64 (0)), (.int .i64 (0)), (.int .i64 (0)), (.bool false), (.string ByteArray.empty), (.bool false), (.string ByteArray.empty), (.bool false), (.string ByteArray.empty), (.bool false), (.string ByteArray.empty), (.bool false), (.string ByteArray.empty), (.bool false), (.string ByteArray.empty), (.int .i64 (0)), (.int .i64 (0)), (.int .i64 (0))]) 23) →
 ∀ k115 : Nat, h114 k115 = none → B k115 = none → ∀ h116 : Heap, h116 = Heap.set h114 k115 (.vec 56 (plains [(.string ByteArray.empty), (.string ByteArray.empty), (.string ByteArray.empty)]) 3) →
 List.length l109 = 23 ∧ ∃ h117 : Heap, StoresAt ⟨k113, 0, none⟩ h116 0 l109 h117 ∧
 ∃ h118 : Heap, StoresAt ⟨k115, 0, none⟩ h117 0 [(.string s110), (.string s111), (.string s112)] h118 ∧
 ∃ l154 : List Value, List.length l154 = 23 ∧ CellsAt B h118 ⟨k24, 0, none⟩ 0 l154 ∧
 ∃ s156 : ByteArray, ∃ s157 : ByteArray, ∃ s158 : ByteArray, CellsAt B h118 ⟨k26, 0, none⟩ 0 [(.string s156), (.string s157), (.string s158)] ∧
 ∃ A161 : Addr, p13 = some A161 ∧
 ∃ a165 : Option Addr, ∃ n166 : Nat, ∃ c167 : Nat, cellH B h118 (Addr.add A161 2) = some (.slice a165 n166 c167) ∧
 (C_countermandref20_Do B l154 s156 s157 s158 a165 n166 c167 h118 (fun i201 l202 h200 =>
 CellsAt B h200 ⟨k24, 0, none⟩ 0 l154 ∧ CellsAt B h200 ⟨k26, 0, none⟩ 0 [(.string s156), (.string s157), (.string s158)] ∧ cellH B h200 (Addr.add A161 2) = some (.slice a165 n166 c167) ∧
 ∀ k206 : Nat, h200 k206 = none → B k206 = none → ∀ h207 : Heap, h207 = Heap.set h200 k206 (.vec 55 (plains [(.int .i64 (0)), (.int .i64 (0)), (.int .i64 (0)), (.int .i64 (0)), (.int .i64 (0)), (.int .i64 (0)), (.int .i64 (0)), (.int .i64 (0)), (.bool false), (.string ByteArray.empty), (.bool false), (.string ByteArray.empty), (.bool false), (.string ByteArray.empty), (.bool false), (.string ByteArray.empty), (.bool false), (.string ByteArray.empty), (.bool false), (.string ByteArray.empty), (.int .i64 (0)), (.int .i64 (0)), (.int .i64 (0))]) 23) →
 CellsAt B h207 ⟨k24, 0, none⟩ 0 l154 ∧ CellsAt B h207 ⟨k26, 0, none⟩ 0 [(.string s156), (.string s157), (.string s158)] ∧ cellH B h207 (Addr.add A161 2) = some (.slice a165 n166 c167) ∧
 S_countermandlaw20_AttemptLands_J5 B p13 k24 k26 i41 k113 l154 s156 s157 s158 A161 a165 n166 c167 ⟨k206, 0, none⟩ (i201) l202 h207 Q)) ∧
 (∀ k211 : Nat, h118 k211 = none → B k211 = none → ∀ h212 : Heap, h212 = Heap.set h118 k211 (.vec 55 (plains [(.int .i64 (0)), (.int .i64 (0)), (.int .i64 (0)), (.int .i64 (0)), (.int .i64 (0)), (.int .i64 (0)), (.int .i64 (0)), (.int .i64 (0)), (.bool false), (.string ByteArray.empty), (.bool false), (.string ByteArray.empty), (.bool false), (.string ByteArray.empty), (.bool false), (.string ByteArray.empty), (.bool false), (.string ByteArray.empty), (.bool false), (.string ByteArray.empty), (.int .i64 (0)), (.int .i64 (0)), (.int .i64 (0))]) 23) →
 CellsAt B h212 ⟨k24, 0, none⟩ 0 l154 ∧ CellsAt B h212 ⟨k26, 0, none⟩ 0 [(.string s156), (.string s157), (.string s158)] ∧ cellH B h212 (Addr.add A161 2) = some (.slice a165 n166 c167) ∧
 C_countermandref20_Do B l154 s156 s157 s158 a165 n166 c167 h212 (fun i217 l218 h216 =>
 CellsAt B h216 ⟨k24, 0, none⟩ 0 l154 ∧ CellsAt B h216 ⟨k26, 0, none⟩ 0 [(.string s156), (.string s157), (.string s158)] ∧ cellH B h216 (Addr.add A161 2) = some (.slice a165 n166 c167) ∧
 S_countermandlaw20_AttemptLands_J5 B p13 k24 k26 i41 k113 l154 s156 s157 s158 A161 a165 n166 c167 ⟨k211, 0, none⟩ (i217) l218 h216 Q)))))) ∧ (b51 = false →
 cellH B h50 A31 = some (.pointer p35) ∧ cellH B h50 (Addr.add A37 3) = some (.int .i64 (i41)) ∧ cellH B h50 (Addr.add A44 1) = some (.pointer p48) ∧
 ∃ A55 : Addr, p13 = some A55 ∧
 ∃ p57 : Option Addr, cellH B h50 (Addr.add A55 1) = some (.pointer p57) ∧
 C_attempt_Attempt_Land B p57 h50 (fun b59 h58 =>
 (b59 = true →
 ∃ A83 : Addr, p13 = some A83 ∧
 ∃ p85 : Option Addr, cellH B h58 A83 = some (.pointer p85) ∧
 C_countermandlaw20_things B p85 h58 (fun l87 s88 s89 s90 h86 =>
 ∀ k91 : Nat, h86 k91 = none → B k91 = none → ∀ h92 : Heap, h92 = Heap.set h86 k91 (.vec 55 (plains [(.int .i64 (0)), (.int .i64 (0)), (.int .i64 (0)), (.int .i64 (0)), (.int .i64 (0)), (.int .i64 (0)), (.int .i64 (0)), (.int .i64 (0)), (.bool false), (.string ByteArray.empty), (.bool false), (.string ByteArray.empty), (.bool false), (.string ByteArray.empty), (.bool false), (.string ByteArray.empty), (.bool false), (.string ByteArray.empty), (.bool false), (.string ByteArray.empty), (.int .i64 (0)), (.int .i64 (0)), (.int .i64 (0))]) 23) →
 ∀ k93 : Nat, h92 k93 = none → B k93 = none → ∀ h94 : Heap, h94 = Heap.set h92 k93 (.vec 56 (plains [(.string ByteArray.empty), (.string ByteArray.empty), (.string ByteArray.empty)]) 3) →
 List.length l87 = 23 ∧ ∃ h95 : Heap, StoresAt ⟨k91, 0, none⟩ h94 0 l87 h95 ∧
 ∃ h96 : Heap, StoresAt ⟨k93, 0, none⟩ h95 0 [(.string s88), (.string s89), (.string s90)] h96 ∧
 Fin B h96 (Q (false)))) ∧ (b59 = false →
 ∃ A60 : Addr, p13 = some A60 ∧
 ∃ p62 : Option Addr, cellH B h58 A60 = some (.pointer p62) ∧
 C_countermandlaw20_things B p62 h58 (fun l64 s65 s66 s67 h63 =>
 ∀ k68 : Nat, h63 k68 = none → B k68 = none → ∀ h69 : Heap, h69 = Heap.set h63 k68 (.vec 55 (plains [(.int .i64 (0)), (.int .i64 (0)), (.int .i64 (0)), (.int .i64 (0)), (.int .i64 (0)), (.int .i64 (0)), (.int .i64 (0)), (.int .i64 (0)), (.bool false), (.string ByteArray.empty), (.bool false), (.string ByteArray.empty), (.bool false), (.string ByteArray.empty), (.bool false), (.string ByteArray.empty), (.bool false), (.string ByteArray.empty), (.bool false), (.string ByteArray.empty), (.int .i64 (0)), (.int .i64 (0)), (.int .i64 (0))]) 23) →
 ∀ k70 : Nat, h69 k70 = none → B k70 = none → ∀ h71 : Heap, h71 = Heap.set h69 k70 (.vec 56 (plains [(.string ByteArray.empty), (.string ByteArray.empty), (.string ByteArray.empty)]) 3) →
 List.length l64 = 23 ∧ ∃ h72 : Heap, StoresAt ⟨k68, 0, none⟩ h71 0 l64 h72 ∧
 ∃ h73 : Heap, StoresAt ⟨k70, 0, none⟩ h72 0 [(.string s65), (.string s66), (.string s67)] h73 ∧
 ∃ l74 : List Value, List.length l74 = 23 ∧ CellsAt B h73 ⟨k68, 0, none⟩ 0 l74 ∧
 ∃ l75 : List Value, List.length l75 = 23 ∧ CellsAt B h73 ⟨k24, 0, none⟩ 0 l75 ∧
 fitL [Kd.int .i64, Kd.int .i64, Kd.int .i64, Kd.int .i64, Kd.int .i64, Kd.int .i64, Kd.int .i64, Kd.int .i64, Kd.bool, Kd.str, Kd.bool, Kd.str, Kd.bool, Kd.str, Kd.bool, Kd.str, Kd.bool, Kd.str, Kd.bool, Kd.str, Kd.int .i64, Kd.int .i64, Kd.int .i64] l74 ∧ fitL [Kd.int .i64, Kd.int .i64, Kd.int .i64, Kd.int .i64, Kd.int .i64, Kd.int .i64, Kd.int .i64, Kd.int .i64, Kd.bool, Kd.str, Kd.bool, Kd.str, Kd.bool, Kd.str, Kd.bool, Kd.str, Kd.bool, Kd.str, Kd.bool, Kd.str, Kd.int .i64, Kd.int .i64, Kd.int .i64] l75 ∧
 (eqL l74 l75 = true →
 ∃ A77 : Addr, p13 = some A77 ∧
 ∃ p79 : Option Addr, cellH B h73 A77 = some (.pointer p79) ∧
 ∃ A80 : Addr, p79 = some A80 ∧
 ∃ i82 : Int, cellH B h73 (Addr.add A80 3) = some (.int .i64 (i82)) ∧
 Fin B h73 (Q (((i82 : Int) == (i41))))) ∧ (¬ (eqL l74 l75 = true) →
 Fin B h73 (Q (false)))))))))
def S_countermandlaw20_AttemptLands_J1 (B : RO) (a1 : Option Addr) (n2 : Nat) (c3 : Nat) (a4 : Option Addr) (n5 : Nat) (c6 : Nat) (h11 : Heap) (Q : Bool → Heap → Prop) : Prop :=
 C_countermandlaw20_start B a1 n2 c3 (0) (0) (0) (0) h11 (fun p13 h12 =>
 ∃ (J354 : Int → Nat → Heap → Prop) (m352 : Nat), Fin B h12 (J354 (0) m352) ∧
 ∀ (i349 : Int) (m351 : Nat) (h350 : Heap), J354 i349 m351 h350 →
 ((i349 : Int) < ((n5 : Nat)) →
 ∃ A355 : Addr, a4 = some A355 ∧ 0 ≤ (i349 : Int) ∧ (i349 : Int) < (n5 : Nat) ∧
 ∃ i357 : Int, ∃ i358 : Int, ∃ i359 : Int, ∃ i360 : Int, ∃ i361 : Int, ∃ s362 : ByteArray, CellsAt B h350 (Addr.add A355 (Int.toNat (i349) * 6)) 0 [(.int .i64 (i357)), (.int .i64 (i358)), (.int .i64 (i359)), (.int .i64 (i360)), (.int .u8 (i361)), (.string s362)] ∧
 ∀ k363 : Nat, h350 k363 = none → B k363 = none → ∀ h364 : Heap, h364 = Heap.set h350 k363 (.vec 48 (plains [(.int .i64 (0)), (.int .i64 (0)), (.int .i64 (0)), (.int .i64 (0)), (.int .u8 (0)), (.string ByteArray.empty)]) 6) →
 ∃ h365 : Heap, StoresAt ⟨k363, 0, none⟩ h364 0 [(.int .i64 (i357)), (.int .i64 (i358)), (.int .i64 (i359)), (.int .i64 (i360)), (.int .u8 (i361)), (.string s362)] h365 ∧
 ∃ i366 : Int, cellH B h365 ⟨k363, 0, none⟩ = some (.int .i64 (i366)) ∧
 ((i366 : Int) = 0 →
 ∃ A367 : Addr, p13 = some A367 ∧
 ∃ p369 : Option Addr, cellH B h365 A367 = some (.pointer p369) ∧
 C_countermandlaw20_things B p369 h365 (fun l371 s372 s373 s374 h370 =>
 ∀ k375 : Nat, h370 k375 = none → B k375 = none → ∀ h376 : Heap, h376 = Heap.set h370 k375 (.vec 55 (plains [(.int .i64 (0)), (.int .i64 (0)), (.int .i64 (0)), (.int .i64 (0)), (.int .i64 (0)), (.int .i64 (0)), (.int .i64 (0)), (.int .i64 (0)), (.bool false), (.string ByteArray.empty), (.bool false), (.string ByteArray.empty), (.bool false), (.string ByteArray.empty), (.bool false), (.string ByteArray.empty), (.bool false), (.string ByteArray.empty), (.bool false), (.string ByteArray.empty), (.int .i64 (0)), (.int .i64 (0)), (.int .i64 (0))]) 23) →
 ∀ k377 : Nat, h376 k377 = none → B k377 = none → ∀ h378 : Heap, h378 = Heap.set h376 k377 (.vec 56 (plains [(.string ByteArray.empty), (.string ByteArray.empty), (.string ByteArray.empty)]) 3) →
 List.length l371 = 23 ∧ ∃ h379 : Heap, StoresAt ⟨k375, 0, none⟩ h378 0 l371 h379 ∧
 ∃ h380 : Heap, StoresAt ⟨k377, 0, none⟩ h379 0 [(.string s372), (.string s373), (.string s374)] h380 ∧
 ∃ A382 : Addr, p13 = some A382 ∧
 ∃ p386 : Option Addr, cellH B h380 (Addr.add A382 1) = some (.pointer p386) ∧
 ∃ i389 : Int, ∃ i390 : Int, ∃ i391 : Int, ∃ i392 : Int, CellsAt B h380 ⟨k363, 1, none⟩ 0 [(.int .i64 (i389)), (.int .i64 (i390)), (.int .i64 (i391)), (.int .u8 (i392))] ∧
 C_countermandlaw20_does B p386 (i389) (i390) (i391) (i392) h380 (fun i395 i396 h394 =>
 cellH B h394 (Addr.add A382 1) = some (.pointer p386) ∧ CellsAt B h394 ⟨k363, 1, none⟩ 0 [(.int .i64 (i389)), (.int .i64 (i390)), (.int .i64 (i391)), (.int .u8 (i392))] ∧
 ∃ A399 : Addr, p13 = some A399 ∧
 ∃ p401 : Option Addr, cellH B h394 A399 = some (.pointer p401) ∧
 C_countermandlaw20_things B p401 h394 (fun l403 s404 s405 s406 h402 =>
 ∀ k407 : Nat, h402 k407 = none → B k407 = none → ∀ h408 : Heap, h408 = Heap.set h402 k407 (.vec 55 (plains [(.int .i64 (0)), (.int .i64 (0)), (.int .i64 (0)), (.int .i64 (0)), (.int .i64 (0)), (.int .i64 (0)), (.int .i64 (0)), (.int .i64 (0)), (.bool false), (.string ByteArray.empty), (.bool false), (.string ByteArray.empty), (.bool false), (.string ByteArray.empty), (.bool false), (.string ByteArray.empty), (.bool false), (.string ByteArray.empty), (.bool false), (.string ByteArray.empty), (.int .i64 (0)), (.int .i64 (0)), (.int .i64 (0))]) 23) →
 ∀ k409 : Nat, h408 k409 = none → B k409 = none → ∀ h410 : Heap, h410 = Heap.set h408 k409 (.vec 56 (plains [(.string ByteArray.empty), (.string ByteArray.empty), (.string ByteArray.empty)]) 3) →
 List.length l403 = 23 ∧ ∃ h411 : Heap, StoresAt ⟨k407, 0, none⟩ h410 0 l403 h411 ∧
 ∃ h412 : Heap, StoresAt ⟨k409, 0, none⟩ h411 0 [(.string s404), (.string s405), (.string s406)] h412 ∧
 ∃ l413 : List Value, List.length l413 = 23 ∧ CellsAt B h412 ⟨k407, 0, none⟩ 0 l413 ∧
 ∃ l414 : List Value, List.length l414 = 23 ∧ CellsAt B h412 ⟨k375, 0, none⟩ 0 l414 ∧
 fitL [Kd.int .i64, Kd.int .i64, Kd.int .i64, Kd.int .i64, Kd.int .i64, Kd.int .i64, Kd.int .i64, Kd.int .i64, Kd.bool, Kd.str, Kd.bool, Kd.str, Kd.bool, Kd.str, Kd.bool, Kd.str, Kd.bool, Kd.str, Kd.bool, Kd.str, Kd.int .i64, Kd.int .i64, Kd.int .i64] l413 ∧ fitL [Kd.int .i64, Kd.int .i64, Kd.int .i64, Kd.int .i64, Kd.int .i64, Kd.int .i64, Kd.int .i64, Kd.int .i64, Kd.bool, Kd.str, Kd.bool, Kd.str, Kd.bool, Kd.str, Kd.bool, Kd.str, Kd.bool, Kd.str, Kd.bool, Kd.str, Kd.int .i64, Kd.int .i64, Kd.int .i64] l414 ∧
 (eqL l413 l414 = true →
 ((i396 : Int) = 9 →
 ∃ A416 : Addr, p13 = some A416 ∧
 ∃ p418 : Option Addr, cellH B h412 (Addr.add A416 1) = some (.pointer p418) ∧
 C_attempt_Attempt_Land B p418 h412 (fun b420 h419 =>
 Fin B h419 (Q ((!b420))))) ∧ (¬ ((i396 : Int) = 9) →
 ((i396 : Int) = 0 →
 ∃ A423 : Addr, p13 = some A423 ∧
 ∃ a427 : Option Addr, ∃ n428 : Nat, ∃ c429 : Nat, cellH B h412 (Addr.add A423 2) = some (.slice a427 n428 c429) ∧
 ∃ i432 : Int, ∃ i433 : Int, ∃ i434 : Int, ∃ i435 : Int, CellsAt B h412 ⟨k363, 1, none⟩ 0 [(.int .i64 (i432)), (.int .i64 (i433)), (.int .i64 (i434)), (.int .u8 (i435))] ∧
 ∀ k437 : Nat, h412 k437 = none → B k437 = none → ∀ h438 : Heap, h438 = Heap.set h412 k437 (.vec 38 (plains [(.int .i64 (i432)), (.int .i64 (i433)), (.int .i64 (i434)), (.int .u8 (i435))]) 4) →
 cellH B h438 (Addr.add A423 2) = some (.slice a427 n428 c429) ∧ CellsAt B h438 ⟨k363, 1, none⟩ 0 [(.int .i64 (i432)), (.int .i64 (i433)), (.int .i64 (i434)), (.int .u8 (i435))] ∧
 semH PG B (Builtin.append_ #[31, 31] 31 #[(.slice a427 n428 c429), (.slice (some ⟨k437, 0, none⟩) 1 1)]) h438 (fun v h441 => ∃ a442 : Option Addr, ∃ n443 : Nat, ∃ c444 : Nat, v = (.slice a442 n443 c444) ∧
 cellH B h441 (Addr.add A423 2) = some (.slice a427 n428 c429) ∧ CellsAt B h441 ⟨k363, 1, none⟩ 0 [(.int .i64 (i432)), (.int .i64 (i433)), (.int .i64 (i434)), (.int .u8 (i435))] ∧
 ∃ A447 : Addr, p13 = some A447 ∧
 ∃ h449 : Heap, storeH h441 (Addr.add A447 2) (.slice a442 n443 c444) = some h449 ∧
 Fin B h449 (fun h' => ∃ m', m' < m351 ∧ J354 (IntKind.wrap .i64 ((i349) + (1))) m' h'))) ∧ (¬ ((i396 : Int) = 0) →
 Fin B h412 (fun h' => ∃ m', m' < m351 ∧ J354 (IntKind.wrap .i64 ((i349) + (1))) m' h')))) ∧ (¬ (eqL l413 l414 = true) →
 Fin B h412 (Q (false))))))) ∧ (¬ ((i366 : Int) = 0) →
 ((i366 : Int) = 1 →
 ∃ i450 : Int, ∃ i451 : Int, ∃ i452 : Int, ∃ i453 : Int, CellsAt B h365 ⟨k363, 1, none⟩ 0 [(.int .i64 (i450)), (.int .i64 (i451)), (.int .i64 (i452)), (.int .u8 (i453))] ∧
 C_countermandlaw20_run_other B p13 (i450) (i451) (i452) (i453) h365 (fun h454 =>
 Fin B h454 (fun h' => ∃ m', m' < m351 ∧ J354 (IntKind.wrap .i64 ((i349) + (1))) m' h'))) ∧ (¬ ((i366 : Int) = 1) →
 ((i366 : Int) = 2 →
 ∃ A455 : Addr, p13 = some A455 ∧
 ∃ p457 : Option Addr, cellH B h365 A455 = some (.pointer p457) ∧
 ∃ A458 : Addr, p457 = some A458 ∧
 ∃ p460 : Option Addr, cellH B h365 (Addr.add A458 2) = some (.pointer p460) ∧
 ∃ i461 : Int, cellH B h365 ⟨k363, 2, none⟩ = some (.int .i64 (i461)) ∧
 ∃ s462 : ByteArray, cellH B h365 ⟨k363, 5, none⟩ = some (.string s462) ∧
 C_feed_Feed_Arrive B p460 (i461) s462 h365 (fun i464 h463 =>
 Fin B h463 (fun h' => ∃ m', m' < m351 ∧ J354 (IntKind.wrap .i64 ((i349) + (1))) m' h'))) ∧ (¬ ((i366 : Int) = 2) →
 Fin B h365 (fun h' => ∃ m', m' < m351 ∧ J354 (IntKind.wrap .i64 ((i349) + (1))) m' h'))))) ∧ (¬ ((i349 : Int) < ((n5 : Nat))) →
 Fin B h350 (fun h' => S_countermandlaw20_AttemptLands_J2 B p13 h' Q)))
def S_countermandlaw20_AttemptLands (B : RO) (a1 : Option Addr) (n2 : Nat) (c3 : Nat) (a4 : Option Addr) (n5 : Nat) (c6 : Nat) (h : Heap) (Q : Bool → Heap → Prop) : Prop :=
 C_countermandlaw20_alive B h (fun b9 h8 =>
 (b9 = true →
 C_countermandlaw20_great B a4 n5 c6 h8 (fun b466 h465 =>
 (b466 = true →
 Fin B h465 (Q (true))) ∧ (b466 = false →
 (((n2 : Nat) : Int) > (20) →
 Fin B h465 (Q (true))) ∧ (¬ (((n2 : Nat) : Int) > (20)) →
 Fin B h465 (fun h' => S_countermandlaw20_AttemptLands_J1 B a1 n2 c3 a4 n5 c6 h' Q))))) ∧ (b9 = false →
 Fin B h8 (Q (false))))
def S_countermandlaw20_alive (B : RO) (h : Heap) (Q : Bool → Heap → Prop) : Prop :=
 C_attempt_NewView B h (fun p3 h2 =>
 C_attempt_New B p3 (0) (0) (0) (0) h2 (fun p5 h4 =>
 C_attempt_New B p3 (0) (0) (0) (0) h4 (fun p7 h6 =>
 C_attempt_Attempt_Store B p5 (0) (5) h6 (fun i9 h8 =>
 ((i9 : Int) = 0 →
 C_attempt_Attempt_Load B p5 (0) h8 (fun i11 i12 h10 =>
 C_attempt_Attempt_Load B p7 (0) h10 (fun i14 i15 h13 =>
 ((i11 : Int) = 5 →
 ((i14 : Int) = 0 →
 C_attempt_Attempt_Land B p5 h13 (fun b17 h16 =>
 (b17 = true →
 ∃ A18 : Addr, p3 = some A18 ∧
 ∃ i20 : Int, cellH B h16 (Addr.add A18 3) = some (.int .i64 (i20)) ∧
 Fin B h16 (Q (((i20 : Int) == (1))))) ∧ (b17 = false →
 Fin B h16 (Q (false))))) ∧ (¬ ((i14 : Int) = 0) →
 Fin B h13 (Q (false)))) ∧ (¬ ((i11 : Int) = 5) →
 Fin B h13 (Q (false)))))) ∧ (¬ ((i9 : Int) = 0) →
 Fin B h8 (Q (false)))))))
def S_countermandlaw20_start_J1 (B : RO) (k9 : Nat) (k13 : Nat) (h49 : Heap) (Q : Option Addr → Heap → Prop) : Prop :=
 ∃ p54 : Option Addr, cellH B h49 ⟨k13, 0, none⟩ = some (.pointer p54) ∧
 ∃ i56 : Int, ∃ i57 : Int, ∃ i58 : Int, ∃ i59 : Int, CellsAt B h49 ⟨k9, 0, none⟩ 0 [(.int .i64 (i56)), (.int .i64 (i57)), (.int .i64 (i58)), (.int .i64 (i59))] ∧
 C_attempt_New B p54 (i56) (i57) (i58) (i59) h49 (fun p62 h61 =>
 cellH B h61 ⟨k13, 0, none⟩ = some (.pointer p54) ∧ CellsAt B h61 ⟨k9, 0, none⟩ 0 [(.int .i64 (i56)), (.int .i64 (i57)), (.int .i64 (i58)), (.int .i64 (i59))] ∧
 ∃ h65 : Heap, storeH h61 ⟨k13, 1, none⟩ (.pointer p62) = some h65 ∧
 Fin B h65 (Q (some ⟨k13, 0, none⟩)))
def S_countermandlaw20_start (B : RO) (a1 : Option Addr) (n2 : Nat) (c3 : Nat) (i4 : Int) (i5 : Int) (i6 : Int) (i7 : Int) (h : Heap) (Q : Option Addr → Heap → Prop) : Prop :=
 ∀ k9 : Nat, h k9 = none → B k9 = none → ∀ h10 : Heap, h10 = Heap.set h k9 (.vec 26 (plains [(.int .i64 (i4)), (.int .i64 (i5)), (.int .i64 (i6)), (.int .i64 (i7))]) 4) →
 C_attempt_NewView B h10 (fun p12 h11 =>
 ∀ k13 : Nat, h11 k13 = none → B k13 = none → ∀ h14 : Heap, h14 = Heap.set h11 k13 (.vec 34 (plains [(.pointer p12), (.pointer none), (.slice none 0 0), (.slice none 0 0)]) 4) →
 ∃ p15 : Option Addr, cellH B h14 ⟨k13, 0, none⟩ = some (.pointer p15) ∧
 C_countermandlaw20_things B p15 h14 (fun l17 s18 s19 s20 h16 =>
 ∀ k21 : Nat, h16 k21 = none → B k21 = none → ∀ h22 : Heap, h22 = Heap.set h16 k21 (.vec 55 (plains [(.int .i64 (0)), (.int .i64 (0)), (.int .i64 (0)), (.int .i64 (0)), (.int .i64 (0)), (.int .i64 (0)), (.int .i64 (0)), (.int .i64 (0)), (.bool false), (.string ByteArray.empty), (.bool false), (.string ByteArray.empty), (.bool false), (.string ByteArray.empty), (.bool false), (.string ByteArray.empty), (.bool false), (.string ByteArray.empty), (.bool false), (.string ByteArray.empty), (.int .i64 (0)), (.int .i64 (0)), (.int .i64 (0))]) 23) →
 ∀ k23 : Nat, h22 k23 = none → B k23 = none → ∀ h24 : Heap, h24 = Heap.set h22 k23 (.vec 56 (plains [(.string ByteArray.empty), (.string ByteArray.empty), (.string ByteArray.empty)]) 3) →
 List.length l17 = 23 ∧ ∃ h25 : Heap, StoresAt ⟨k21, 0, none⟩ h24 0 l17 h25 ∧
 ∃ h26 : Heap, StoresAt ⟨k23, 0, none⟩ h25 0 [(.string s18), (.string s19), (.string s20)] h26 ∧
 ∃ a31 : Option Addr, ∃ n32 : Nat, ∃ c33 : Nat, cellH B h26 ⟨k13, 3, none⟩ = some (.slice a31 n32 c33) ∧
 ∃ l35 : List Value, List.length l35 = 23 ∧ CellsAt B h26 ⟨k21, 0, none⟩ 0 l35 ∧
 ∀ k37 : Nat, h26 k37 = none → B k37 = none → ∀ h38 : Heap, h38 = Heap.set h26 k37 (.vec 55 (plains l35) 23) →
 cellH B h38 ⟨k13, 3, none⟩ = some (.slice a31 n32 c33) ∧ CellsAt B h38 ⟨k21, 0, none⟩ 0 l35 ∧
 semH PG B (Builtin.append_ #[32, 32] 32 #[(.slice a31 n32 c33), (.slice (some ⟨k37, 0, none⟩) 1 1)]) h38 (fun v h41 => ∃ a42 : Option Addr, ∃ n43 : Nat, ∃ c44 : Nat, v = (.slice a42 n43 c44) ∧
 cellH B h41 ⟨k13, 3, none⟩ = some (.slice a31 n32 c33) ∧ CellsAt B h41 ⟨k21, 0, none⟩ 0 l35 ∧
 ∃ h47 : Heap, storeH h41 ⟨k13, 3, none⟩ (.slice a42 n43 c44) = some h47 ∧
 ∃ (J71 : Int → Nat → Heap → Prop) (m69 : Nat), Fin B h47 (J71 (0) m69) ∧
 ∀ (i66 : Int) (m68 : Nat) (h67 : Heap), J71 i66 m68 h67 →
 ((i66 : Int) < ((n2 : Nat)) →
 ∃ A72 : Addr, a1 = some A72 ∧ 0 ≤ (i66 : Int) ∧ (i66 : Int) < (n2 : Nat) ∧
 ∃ i74 : Int, ∃ i75 : Int, ∃ i76 : Int, ∃ i77 : Int, CellsAt B h67 (Addr.add A72 (Int.toNat (i66) * 4)) 0 [(.int .i64 (i74)), (.int .i64 (i75)), (.int .i64 (i76)), (.int .u8 (i77))] ∧
 ∀ k78 : Nat, h67 k78 = none → B k78 = none → ∀ h79 : Heap, h79 = Heap.set h67 k78 (.vec 38 (plains [(.int .i64 (0)), (.int .i64 (0)), (.int .i64 (0)), (.int .u8 (0))]) 4) →
 ∃ h80 : Heap, StoresAt ⟨k78, 0, none⟩ h79 0 [(.int .i64 (i74)), (.int .i64 (i75)), (.int .i64 (i76)), (.int .u8 (i77))] h80 ∧
 ∃ i81 : Int, ∃ i82 : Int, ∃ i83 : Int, ∃ i84 : Int, CellsAt B h80 ⟨k78, 0, none⟩ 0 [(.int .i64 (i81)), (.int .i64 (i82)), (.int .i64 (i83)), (.int .u8 (i84))] ∧
 C_countermandlaw20_run_other B (some ⟨k13, 0, none⟩) (i81) (i82) (i83) (i84) h80 (fun h85 =>
 Fin B h85 (fun h' => ∃ m', m' < m68 ∧ J71 (IntKind.wrap .i64 ((i66) + (1))) m' h'))) ∧ (¬ ((i66 : Int) < ((n2 : Nat))) →
 Fin B h67 (fun h' => S_countermandlaw20_start_J1 B k9 k13 h' Q)))))
def S_attempt_Attempt_Load_J1 (B : RO) (p1 : Option Addr) (i2 : Int) (h6 : Heap) (Q : Int → Int → Heap → Prop) : Prop :=
 ∃ A7 : Addr, p1 = some A7 ∧
 ∃ p9 : Option Addr, cellH B h6 (Addr.add A7 2) = some (.pointer p9) ∧
 C_draft_Draft_int_Get B p9 (i2) h6 (fun i11 b12 h10 =>
 (b12 = true →
 Fin B h10 (Q (i11) (0))) ∧ (b12 = false →
 C_attempt_Attempt_note B p1 (0) (i2) h10 (fun i14 h13 =>
 ((i14 : Int) = 0 →
 ∃ A15 : Addr, p1 = some A15 ∧
 ∃ p17 : Option Addr, cellH B h13 A15 = some (.pointer p17) ∧
 ∃ A18 : Addr, p17 = some A18 ∧
 ∃ p20 : Option Addr, cellH B h13 A18 = some (.pointer p20) ∧
 C_cell_Row_int_Get B p20 (i2) h13 (fun i22 i23 h21 =>
 Fin B h21 (Q (i22) (0)))) ∧ (¬ ((i14 : Int) = 0) →
 Fin B h13 (Q (0) (i14))))))
def S_attempt_Attempt_Load (B : RO) (p1 : Option Addr) (i2 : Int) (h : Heap) (Q : Int → Int → Heap → Prop) : Prop :=
 (p1 = none →
 Fin B h (Q (0) (2))) ∧ (¬ (p1 = none) →
 ((i2 : Int) < (0) →
 Fin B h (Q (0) (1))) ∧ (¬ ((i2 : Int) < (0)) →
 ((i2 : Int) ≥ (8) →
 Fin B h (Q (0) (1))) ∧ (¬ ((i2 : Int) ≥ (8)) →
 Fin B h (fun h' => S_attempt_Attempt_Load_J1 B p1 i2 h' Q))))
def S_countermandlaw20_run_other (B : RO) (p1 : Option Addr) (i2 : Int) (i3 : Int) (i4 : Int) (i5 : Int) (h : Heap) (Q : Heap → Prop) : Prop :=
 ∀ k6 : Nat, h k6 = none → B k6 = none → ∀ h7 : Heap, h7 = Heap.set h k6 (.vec 38 (plains [(.int .i64 (i2)), (.int .i64 (i3)), (.int .i64 (i4)), (.int .u8 (i5))]) 4) →
 ∃ A8 : Addr, p1 = some A8 ∧
 ∃ p10 : Option Addr, cellH B h7 A8 = some (.pointer p10) ∧
 C_attempt_New B p10 (0) (0) (0) (0) h7 (fun p12 h11 =>
 ∃ i13 : Int, ∃ i14 : Int, ∃ i15 : Int, ∃ i16 : Int, CellsAt B h11 ⟨k6, 0, none⟩ 0 [(.int .i64 (i13)), (.int .i64 (i14)), (.int .i64 (i15)), (.int .u8 (i16))] ∧
 C_countermandlaw20_does B p12 (i13) (i14) (i15) (i16) h11 (fun i18 i19 h17 =>
 C_attempt_Attempt_Land B p12 h17 (fun b21 h20 =>
 ∃ A22 : Addr, p1 = some A22 ∧
 ∃ p24 : Option Addr, cellH B h20 A22 = some (.pointer p24) ∧
 C_countermandlaw20_things B p24 h20 (fun l26 s27 s28 s29 h25 =>
 ∀ k30 : Nat, h25 k30 = none → B k30 = none → ∀ h31 : Heap, h31 = Heap.set h25 k30 (.vec 55 (plains [(.int .i64 (0)), (.int .i64 (0)), (.int .i64 (0)), (.int .i64 (0)), (.int .i64 (0)), (.int .i64 (0)), (.int .i64 (0)), (.int .i64 (0)), (.bool false), (.string ByteArray.empty), (.bool false), (.string ByteArray.empty), (.bool false), (.string ByteArray.empty), (.bool false), (.string ByteArray.empty), (.bool false), (.string ByteArray.empty), (.bool false), (.string ByteArray.empty), (.int .i64 (0)), (.int .i64 (0)), (.int .i64 (0))]) 23) →
 ∀ k32 : Nat, h31 k32 = none → B k32 = none → ∀ h33 : Heap, h33 = Heap.set h31 k32 (.vec 56 (plains [(.string ByteArray.empty), (.string ByteArray.empty), (.string ByteArray.empty)]) 3) →
 List.length l26 = 23 ∧ ∃ h34 : Heap, StoresAt ⟨k30, 0, none⟩ h33 0 l26 h34 ∧
 ∃ h35 : Heap, StoresAt ⟨k32, 0, none⟩ h34 0 [(.string s27), (.string s28), (.string s29)] h35 ∧
 ∃ A38 : Addr, p1 = some A38 ∧
 ∃ a42 : Option Addr, ∃ n43 : Nat, ∃ c44 : Nat, cellH B h35 (Addr.add A38 3) = some (.slice a42 n43 c44) ∧
 ∃ l46 : List Value, List.length l46 = 23 ∧ CellsAt B h35 ⟨k30, 0, none⟩ 0 l46 ∧
 ∀ k48 : Nat, h35 k48 = none → B k48 = none → ∀ h49 : Heap, h49 = Heap.set h35 k48 (.vec 55 (plains l46) 23) →
 cellH B h49 (Addr.add A38 3) = some (.slice a42 n43 c44) ∧ CellsAt B h49 ⟨k30, 0, none⟩ 0 l46 ∧
 semH PG B (Builtin.append_ #[32, 32] 32 #[(.slice a42 n43 c44), (.slice (some ⟨k48, 0, none⟩) 1 1)]) h49 (fun v h52 => ∃ a53 : Option Addr, ∃ n54 : Nat, ∃ c55 : Nat, v = (.slice a53 n54 c55) ∧
 cellH B h52 (Addr.add A38 3) = some (.slice a42 n43 c44) ∧ CellsAt B h52 ⟨k30, 0, none⟩ 0 l46 ∧
 ∃ A58 : Addr, p1 = some A58 ∧
 ∃ h60 : Heap, storeH h52 (Addr.add A58 3) (.slice a53 n54 c55) = some h60 ∧
 Fin B h60 (Q))))))
def S_attempt_Attempt_Valid (B : RO) (p1 : Option Addr) (h : Heap) (Q : Bool → Heap → Prop) : Prop :=
 (p1 = none →
 Fin B h (Q (false))) ∧ (¬ (p1 = none) →
 ∃ A10 : Addr, p1 = some A10 ∧
 ∃ p14 : Option Addr, cellH B h (Addr.add A10 1) = some (.pointer p14) ∧
 ∃ A17 : Addr, p1 = some A17 ∧
 ∃ p21 : Option Addr, cellH B h A17 = some (.pointer p21) ∧
 C_attempt_View_Now B p21 h (fun l24 h23 =>
 cellH B h23 (Addr.add A10 1) = some (.pointer p14) ∧ cellH B h23 A17 = some (.pointer p21) ∧
 C_reads_Set_Valid B p14 l24 h23 (fun b28 h27 =>
 cellH B h27 (Addr.add A10 1) = some (.pointer p14) ∧ cellH B h27 A17 = some (.pointer p21) ∧
 Fin B h27 (Q (b28)))))
def S_attempt_Attempt_Land_J1 (B : RO) (p1 : Option Addr) (k8 : Nat) (h19 : Heap) (Q : Bool → Heap → Prop) : Prop :=
 ∃ A20 : Addr, p1 = some A20 ∧
 ∃ p22 : Option Addr, cellH B h19 (Addr.add (Addr.add A20 2) 1) = some (.pointer p22) ∧
 ∃ p23 : Option Addr, cellH B h19 ⟨k8, 0, none⟩ = some (.pointer p23) ∧
 ∃ A24 : Addr, p23 = some A24 ∧
 ∃ p26 : Option Addr, cellH B h19 (Addr.add A24 1) = some (.pointer p26) ∧
 ∃ p27 : Option Addr, cellH B h19 ⟨k8, 0, none⟩ = some (.pointer p27) ∧
 ∃ A28 : Addr, p27 = some A28 ∧
 ∃ i30 : Int, cellH B h19 (Addr.add A28 3) = some (.int .i64 (i30)) ∧
 C_sheet_Sheet_Over B p22 p26 (i30) h19 (fun i32 h31 =>
 ∃ (J38 : Int → Nat → Heap → Prop) (m36 : Nat), Fin B h31 (J38 (0) m36) ∧
 ∀ (i33 : Int) (m35 : Nat) (h34 : Heap), J38 i33 m35 h34 →
 ((i33 : Int) < (3) →
 ∃ A39 : Addr, p1 = some A39 ∧
 ∃ p41 : Option Addr, cellH B h34 (Addr.add (Addr.add A39 2) 2) = some (.pointer p41) ∧
 C_cursor_Cursor_Read B p41 (i33) h34 (fun i43 h42 =>
 ((i43 : Int) > (0) →
 ∃ p44 : Option Addr, cellH B h42 ⟨k8, 0, none⟩ = some (.pointer p44) ∧
 ∃ A45 : Addr, p44 = some A45 ∧
 ∃ p47 : Option Addr, cellH B h42 (Addr.add A45 2) = some (.pointer p47) ∧
 C_feed_Feed_Place B p47 (i33) h42 (fun i49 i50 h48 =>
 ∃ p51 : Option Addr, cellH B h48 ⟨k8, 0, none⟩ = some (.pointer p51) ∧
 ∃ A52 : Addr, p51 = some A52 ∧
 ∃ p54 : Option Addr, cellH B h48 (Addr.add A52 2) = some (.pointer p54) ∧
 ∃ p55 : Option Addr, cellH B h48 ⟨k8, 0, none⟩ = some (.pointer p55) ∧
 ∃ A56 : Addr, p55 = some A56 ∧
 ∃ i58 : Int, cellH B h48 (Addr.add A56 3) = some (.int .i64 (i58)) ∧
 C_feed_Feed_Take B p54 (i33) (IntKind.wrap .i64 ((i49) + (i43))) (i58) h48 (fun b60 h59 =>
 Fin B h59 (fun h' => ∃ m', m' < m35 ∧ J38 (IntKind.wrap .i64 ((i33) + (1))) m' h')))) ∧ (¬ ((i43 : Int) > (0)) →
 Fin B h42 (fun h' => ∃ m', m' < m35 ∧ J38 (IntKind.wrap .i64 ((i33) + (1))) m' h')))) ∧ (¬ ((i33 : Int) < (3)) →
 Fin B h34 (Q (true))))
def S_attempt_Attempt_Land (B : RO) (p1 : Option Addr) (h : Heap) (Q : Bool → Heap → Prop) : Prop :=
 C_attempt_Attempt_Valid B p1 h (fun b4 h3 =>
 (b4 = true →
 ∃ A5 : Addr, p1 = some A5 ∧
 ∃ p7 : Option Addr, cellH B h3 A5 = some (.pointer p7) ∧
 ∀ k8 : Nat, h3 k8 = none → B k8 = none → ∀ h9 : Heap, h9 = Heap.set h3 k8 (.vec 29 (plains [(.pointer none)]) 1) →
 ∃ h10 : Heap, storeH h9 ⟨k8, 0, none⟩ (.pointer p7) = some h10 ∧
 ∃ p11 : Option Addr, cellH B h10 ⟨k8, 0, none⟩ = some (.pointer p11) ∧
 ∃ A12 : Addr, p11 = some A12 ∧
 ∃ i14 : Int, cellH B h10 (Addr.add A12 3) = some (.int .i64 (i14)) ∧
 ∃ A15 : Addr, p11 = some A15 ∧
 ∃ h17 : Heap, storeH h10 (Addr.add A15 3) (.int .i64 (IntKind.wrap .i64 ((i14) + (1)))) = some h17 ∧
 ∃ A61 : Addr, p1 = some A61 ∧
 ∃ p63 : Option Addr, cellH B h17 (Addr.add A61 2) = some (.pointer p63) ∧
 C_draft_Draft_int_All B p63 h17 (fun v65 h64 =>
 ∃ (xs72 : List (Int × Int)) (G68 : Heap → Prop) (J71 : Nat → Heap → Prop), Iter PG B v65 (xs72.map (fun x : Int × Int => [(.int .i64 (x.1)), (.int .i64 (x.2))])) G68 ∧ Ins G68 ∧ (∀ i h, J71 i h → G68 h) ∧ Fin B h64 (J71 0) ∧
 (∀ (q70 : Nat) (h69 : Heap) (i66 : Int) (i67 : Int), xs72[q70]? = some (i66, i67) → J71 q70 h69 →
 ∃ p73 : Option Addr, cellH B h69 ⟨k8, 0, none⟩ = some (.pointer p73) ∧
 ∃ A74 : Addr, p73 = some A74 ∧
 ∃ p76 : Option Addr, cellH B h69 A74 = some (.pointer p76) ∧
 ∃ p77 : Option Addr, cellH B h69 ⟨k8, 0, none⟩ = some (.pointer p77) ∧
 ∃ A78 : Addr, p77 = some A78 ∧
 ∃ i80 : Int, cellH B h69 (Addr.add A78 3) = some (.int .i64 (i80)) ∧
 C_cell_Row_int_Set B p76 (i66) (i67) (i80) h69 (fun b82 h81 =>
 Fin B h81 (J71 (q70 + 1)))) ∧
 (∀ (h69 : Heap), J71 xs72.length h69 →
 Fin B h69 (fun h' => S_attempt_Attempt_Land_J1 B p1 k8 h' Q)))) ∧ (b4 = false →
 Fin B h3 (Q (false))))
def S_countermandlaw20_great (B : RO) (a1 : Option Addr) (n2 : Nat) (c3 : Nat) (h : Heap) (Q : Bool → Heap → Prop) : Prop :=
 (((n2 : Nat) : Int) > (60) →
 Fin B h (Q (true))) ∧ (¬ (((n2 : Nat) : Int) > (60)) →
 ∃ (J10 : Int → Nat → Heap → Prop) (m8 : Nat), Fin B h (J10 (0) m8) ∧
 ∀ (i5 : Int) (m7 : Nat) (h6 : Heap), J10 i5 m7 h6 →
 ((i5 : Int) < ((n2 : Nat)) →
 ∃ A11 : Addr, a1 = some A11 ∧ 0 ≤ (i5 : Int) ∧ (i5 : Int) < (n2 : Nat) ∧
 ∃ i13 : Int, ∃ i14 : Int, ∃ i15 : Int, ∃ i16 : Int, ∃ i17 : Int, ∃ s18 : ByteArray, CellsAt B h6 (Addr.add A11 (Int.toNat (i5) * 6)) 0 [(.int .i64 (i13)), (.int .i64 (i14)), (.int .i64 (i15)), (.int .i64 (i16)), (.int .u8 (i17)), (.string s18)] ∧
 ∀ k19 : Nat, h6 k19 = none → B k19 = none → ∀ h20 : Heap, h20 = Heap.set h6 k19 (.vec 48 (plains [(.int .i64 (0)), (.int .i64 (0)), (.int .i64 (0)), (.int .i64 (0)), (.int .u8 (0)), (.string ByteArray.empty)]) 6) →
 ∃ h21 : Heap, StoresAt ⟨k19, 0, none⟩ h20 0 [(.int .i64 (i13)), (.int .i64 (i14)), (.int .i64 (i15)), (.int .i64 (i16)), (.int .u8 (i17)), (.string s18)] h21 ∧
 ∃ s22 : ByteArray, cellH B h21 ⟨k19, 5, none⟩ = some (.string s22) ∧
 (((ByteArray.size s22 : Nat) : Int) > (100) →
 Fin B h21 (Q (true))) ∧ (¬ (((ByteArray.size s22 : Nat) : Int) > (100)) →
 Fin B h21 (fun h' => ∃ m', m' < m7 ∧ J10 (IntKind.wrap .i64 ((i5) + (1))) m' h'))) ∧ (¬ ((i5 : Int) < ((n2 : Nat))) →
 Fin B h6 (Q (false))))
def S_countermandlaw20_things_J2 (B : RO) (p1 : Option Addr) (k6 : Nat) (k8 : Nat) (k10 : Nat) (k12 : Nat) (h17 : Heap) (Q : List Value → ByteArray → ByteArray → ByteArray → Heap → Prop) : Prop :=
 ∃ (J23 : Int → Nat → Heap → Prop) (m21 : Nat), Fin B h17 (J23 (0) m21) ∧
 ∀ (i18 : Int) (m20 : Nat) (h19 : Heap), J23 i18 m20 h19 →
 ((i18 : Int) < (3) →
 ∃ A24 : Addr, p1 = some A24 ∧
 ∃ p26 : Option Addr, cellH B h19 (Addr.add A24 2) = some (.pointer p26) ∧
 C_feed_Feed_Place B p26 (i18) h19 (fun i28 i29 h27 =>
 0 ≤ (i18 : Int) ∧ (i18 : Int) < (3 : Nat) ∧
 ∃ h30 : Heap, storeH h27 (Addr.add ⟨k10, 20, none⟩ (Int.toNat (i18) * 1)) (.int .i64 (i28)) = some h30 ∧
 ∃ A31 : Addr, p1 = some A31 ∧
 ∃ p33 : Option Addr, cellH B h30 (Addr.add A31 2) = some (.pointer p33) ∧
 C_feed_Feed_Text B p33 (i18) h30 (fun s35 h34 =>
 0 ≤ (i18 : Int) ∧ (i18 : Int) < (3 : Nat) ∧
 ∃ h36 : Heap, storeH h34 (Addr.add ⟨k12, 0, none⟩ (Int.toNat (i18) * 1)) (.string s35) = some h36 ∧
 Fin B h36 (fun h' => ∃ m', m' < m20 ∧ J23 (IntKind.wrap .i64 ((i18) + (1))) m' h')))) ∧ (¬ ((i18 : Int) < (3)) →
 ∃ l37 : List Value, List.length l37 = 23 ∧ CellsAt B h19 ⟨k10, 0, none⟩ 0 l37 ∧
 ∃ s39 : ByteArray, ∃ s40 : ByteArray, ∃ s41 : ByteArray, CellsAt B h19 ⟨k12, 0, none⟩ 0 [(.string s39), (.string s40), (.string s41)] ∧
 List.length l37 = 23 ∧ ∃ h43 : Heap, StoresAt ⟨k6, 0, none⟩ h19 0 l37 h43 ∧
 CellsAt B h43 ⟨k10, 0, none⟩ 0 l37 ∧ CellsAt B h43 ⟨k12, 0, none⟩ 0 [(.string s39), (.string s40), (.string s41)] ∧
 ∃ h46 : Heap, StoresAt ⟨k8, 0, none⟩ h43 0 [(.string s39), (.string s40), (.string s41)] h46 ∧
 ∃ l47 : List Value, List.length l47 = 23 ∧ CellsAt B h46 ⟨k6, 0, none⟩ 0 l47 ∧ ∃ s48 : ByteArray, ∃ s49 : ByteArray, ∃ s50 : ByteArray, CellsAt B h46 ⟨k8, 0, none⟩ 0 [(.string s48), (.string s49), (.string s50)] ∧ Fin B h46 (Q l47 s48 s49 s50))
def S_countermandlaw20_things_J1 (B : RO) (p1 : Option Addr) (k6 : Nat) (k8 : Nat) (k10 : Nat) (k12 : Nat) (h15 : Heap) (Q : List Value → ByteArray → ByteArray → ByteArray → Heap → Prop) : Prop :=
 ∃ (J56 : Int → Nat → Heap → Prop) (m54 : Nat), Fin B h15 (J56 (0) m54) ∧
 ∀ (i51 : Int) (m53 : Nat) (h52 : Heap), J56 i51 m53 h52 →
 ((i51 : Int) < (6) →
 ∃ A57 : Addr, p1 = some A57 ∧
 ∃ p59 : Option Addr, cellH B h52 (Addr.add A57 1) = some (.pointer p59) ∧
 C_tome_Tome_Get B p59 (i51) h52 (fun b61 s62 i63 h60 =>
 ∀ k64 : Nat, h60 k64 = none → B k64 = none → ∀ h65 : Heap, h65 = Heap.set h60 k64 (.vec 119 (plains [(.bool false), (.string ByteArray.empty)]) 2) →
 ∃ h66 : Heap, StoresAt ⟨k64, 0, none⟩ h65 0 [(.bool b61), (.string s62)] h66 ∧
 ∃ b67 : Bool, ∃ s68 : ByteArray, CellsAt B h66 ⟨k64, 0, none⟩ 0 [(.bool b67), (.string s68)] ∧
 0 ≤ (i51 : Int) ∧ (i51 : Int) < (6 : Nat) ∧
 ∃ h69 : Heap, StoresAt (Addr.add ⟨k10, 8, none⟩ (Int.toNat (i51) * 2)) h66 0 [(.bool b67), (.string s68)] h69 ∧
 Fin B h69 (fun h' => ∃ m', m' < m53 ∧ J56 (IntKind.wrap .i64 ((i51) + (1))) m' h'))) ∧ (¬ ((i51 : Int) < (6)) →
 Fin B h52 (fun h' => S_countermandlaw20_things_J2 B p1 k6 k8 k10 k12 h' Q))
def S_countermandlaw20_things (B : RO) (p1 : Option Addr) (h : Heap) (Q : List Value → ByteArray → ByteArray → ByteArray → Heap → Prop) : Prop :=
 ∀ k6 : Nat, h k6 = none → B k6 = none → ∀ h7 : Heap, h7 = Heap.set h k6 (.vec 55 (plains [(.int .i64 (0)), (.int .i64 (0)), (.int .i64 (0)), (.int .i64 (0)), (.int .i64 (0)), (.int .i64 (0)), (.int .i64 (0)), (.int .i64 (0)), (.bool false), (.string ByteArray.empty), (.bool false), (.string ByteArray.empty), (.bool false), (.string ByteArray.empty), (.bool false), (.string ByteArray.empty), (.bool false), (.string ByteArray.empty), (.bool false), (.string ByteArray.empty), (.int .i64 (0)), (.int .i64 (0)), (.int .i64 (0))]) 23) →
 ∀ k8 : Nat, h7 k8 = none → B k8 = none → ∀ h9 : Heap, h9 = Heap.set h7 k8 (.vec 56 (plains [(.string ByteArray.empty), (.string ByteArray.empty), (.string ByteArray.empty)]) 3) →
 ∀ k10 : Nat, h9 k10 = none → B k10 = none → ∀ h11 : Heap, h11 = Heap.set h9 k10 (.vec 55 (plains [(.int .i64 (0)), (.int .i64 (0)), (.int .i64 (0)), (.int .i64 (0)), (.int .i64 (0)), (.int .i64 (0)), (.int .i64 (0)), (.int .i64 (0)), (.bool false), (.string ByteArray.empty), (.bool false), (.string ByteArray.empty), (.bool false), (.string ByteArray.empty), (.bool false), (.string ByteArray.empty), (.bool false), (.string ByteArray.empty), (.bool false), (.string ByteArray.empty), (.int .i64 (0)), (.int .i64 (0)), (.int .i64 (0))]) 23) →
 ∀ k12 : Nat, h11 k12 = none → B k12 = none → ∀ h13 : Heap, h13 = Heap.set h11 k12 (.vec 56 (plains [(.string ByteArray.empty), (.string ByteArray.empty), (.string ByteArray.empty)]) 3) →
 ∃ (J75 : Int → Nat → Heap → Prop) (m73 : Nat), Fin B h13 (J75 (0) m73) ∧
 ∀ (i70 : Int) (m72 : Nat) (h71 : Heap), J75 i70 m72 h71 →
 ((i70 : Int) < (8) →
 ∃ A76 : Addr, p1 = some A76 ∧
 ∃ p78 : Option Addr, cellH B h71 A76 = some (.pointer p78) ∧
 C_cell_Row_int_Get B p78 (i70) h71 (fun i80 i81 h79 =>
 0 ≤ (i70 : Int) ∧ (i70 : Int) < (8 : Nat) ∧
 ∃ h82 : Heap, storeH h79 (Addr.add ⟨k10, 0, none⟩ (Int.toNat (i70) * 1)) (.int .i64 (i80)) = some h82 ∧
 Fin B h82 (fun h' => ∃ m', m' < m72 ∧ J75 (IntKind.wrap .i64 ((i70) + (1))) m' h'))) ∧ (¬ ((i70 : Int) < (8)) →
 Fin B h71 (fun h' => S_countermandlaw20_things_J1 B p1 k6 k8 k10 k12 h' Q))
def S_countermandlaw20_does (B : RO) (p1 : Option Addr) (i2 : Int) (i3 : Int) (i4 : Int) (i5 : Int) (h : Heap) (Q : Int → Int → Heap → Prop) : Prop :=
 ∀ k8 : Nat, h k8 = none → B k8 = none → ∀ h9 : Heap, h9 = Heap.set h k8 (.vec 38 (plains [(.int .i64 (i2)), (.int .i64 (i3)), (.int .i64 (i4)), (.int .u8 (i5))]) 4) →
 ∃ i10 : Int, cellH B h9 ⟨k8, 0, none⟩ = some (.int .i64 (i10)) ∧
 ((i10 : Int) = 0 →
 ∃ i11 : Int, cellH B h9 ⟨k8, 1, none⟩ = some (.int .i64 (i11)) ∧
 C_attempt_Attempt_Load B p1 (i11) h9 (fun i13 i14 h12 =>
 Fin B h12 (Q (i13) (i14)))) ∧ (¬ ((i10 : Int) = 0) →
 ((i10 : Int) = 1 →
 ∃ i15 : Int, cellH B h9 ⟨k8, 1, none⟩ = some (.int .i64 (i15)) ∧
 ∃ i16 : Int, cellH B h9 ⟨k8, 2, none⟩ = some (.int .i64 (i16)) ∧
 C_attempt_Attempt_Store B p1 (i15) (i16) h9 (fun i18 h17 =>
 Fin B h17 (Q (0) (i18)))) ∧ (¬ ((i10 : Int) = 1) →
 ((i10 : Int) = 2 →
 ∃ i19 : Int, cellH B h9 ⟨k8, 1, none⟩ = some (.int .i64 (i19)) ∧
 ∃ i20 : Int, cellH B h9 ⟨k8, 2, none⟩ = some (.int .i64 (i20)) ∧
 C_attempt_Attempt_Read B p1 (i19) (i20) h9 (fun i22 i23 h21 =>
 Fin B h21 (Q (i22) (i23)))) ∧ (¬ ((i10 : Int) = 2) →
 ((i10 : Int) = 3 →
 ∃ i24 : Int, cellH B h9 ⟨k8, 1, none⟩ = some (.int .i64 (i24)) ∧
 ∃ i25 : Int, cellH B h9 ⟨k8, 2, none⟩ = some (.int .i64 (i25)) ∧
 ∃ i26 : Int, cellH B h9 ⟨k8, 3, none⟩ = some (.int .u8 (i26)) ∧
 C_attempt_Attempt_Write B p1 (i24) (i25) (i26) h9 (fun i28 h27 =>
 Fin B h27 (Q (0) (i28)))) ∧ (¬ ((i10 : Int) = 3) →
 ((i10 : Int) = 4 →
 ∃ i29 : Int, cellH B h9 ⟨k8, 1, none⟩ = some (.int .i64 (i29)) ∧
 C_attempt_Attempt_Create B p1 (i29) h9 (fun i31 h30 =>
 Fin B h30 (Q (0) (i31)))) ∧ (¬ ((i10 : Int) = 4) →
 ((i10 : Int) = 5 →
 ∃ i32 : Int, cellH B h9 ⟨k8, 1, none⟩ = some (.int .i64 (i32)) ∧
 C_attempt_Attempt_Remove B p1 (i32) h9 (fun i34 h33 =>
 Fin B h33 (Q (0) (i34)))) ∧ (¬ ((i10 : Int) = 5) →
 ((i10 : Int) = 6 →
 ∃ i35 : Int, cellH B h9 ⟨k8, 1, none⟩ = some (.int .i64 (i35)) ∧
 ∃ i36 : Int, cellH B h9 ⟨k8, 2, none⟩ = some (.int .i64 (i36)) ∧
 C_attempt_Attempt_Rename B p1 (i35) (i36) h9 (fun i38 h37 =>
 Fin B h37 (Q (0) (i38)))) ∧ (¬ ((i10 : Int) = 6) →
 ((i10 : Int) = 7 →
 ∃ i39 : Int, cellH B h9 ⟨k8, 1, none⟩ = some (.int .i64 (i39)) ∧
 ∃ i40 : Int, cellH B h9 ⟨k8, 2, none⟩ = some (.int .i64 (i40)) ∧
 C_attempt_Attempt_Cut B p1 (i39) (i40) h9 (fun i42 h41 =>
 Fin B h41 (Q (0) (i42)))) ∧ (¬ ((i10 : Int) = 7) →
 ((i10 : Int) = 8 →
 ∃ i43 : Int, cellH B h9 ⟨k8, 1, none⟩ = some (.int .i64 (i43)) ∧
 C_attempt_Attempt_Recv B p1 (i43) h9 (fun i45 i46 h44 =>
 Fin B h44 (Q (i45) (i46)))) ∧ (¬ ((i10 : Int) = 8) →
 Fin B h9 (Q (0) (1)))))))))))
def S_feed_Feed_Arrive_J1 (B : RO) (p1 : Option Addr) (i2 : Int) (s3 : ByteArray) (h6 : Heap) (Q : Int → Heap → Prop) : Prop :=
 ∃ A7 : Addr, p1 = some A7 ∧
 0 ≤ (i2 : Int) ∧ (i2 : Int) < (3 : Nat) ∧
 ∃ s9 : ByteArray, cellH B h6 (Addr.add A7 (Int.toNat (i2) * 1)) = some (.string s9) ∧
 ByteArray.size s9 + ByteArray.size s3 ≤ 4611686018427387904 ∧
 ∃ A10 : Addr, p1 = some A10 ∧
 0 ≤ (i2 : Int) ∧ (i2 : Int) < (3 : Nat) ∧
 ∃ h12 : Heap, storeH h6 (Addr.add A10 (Int.toNat (i2) * 1)) (.string (s9 ++ s3)) = some h12 ∧
 Fin B h12 (Q (0))
def S_feed_Feed_Arrive (B : RO) (p1 : Option Addr) (i2 : Int) (s3 : ByteArray) (h : Heap) (Q : Int → Heap → Prop) : Prop :=
 (p1 = none →
 Fin B h (Q (2))) ∧ (¬ (p1 = none) →
 C_feed_Feed_is B p1 (i2) h (fun b15 h14 =>
 (b15 = true →
 ∃ A16 : Addr, p1 = some A16 ∧
 0 ≤ (i2 : Int) ∧ (i2 : Int) < (3 : Nat) ∧
 ∃ s18 : ByteArray, cellH B h14 (Addr.add A16 (Int.toNat (i2) * 1)) = some (.string s18) ∧
 (((ByteArray.size s3 : Nat) : Int) > (IntKind.wrap .i64 ((64) - ((ByteArray.size s18 : Nat)))) →
 Fin B h14 (Q (6))) ∧ (¬ (((ByteArray.size s3 : Nat) : Int) > (IntKind.wrap .i64 ((64) - ((ByteArray.size s18 : Nat))))) →
 Fin B h14 (fun h' => S_feed_Feed_Arrive_J1 B p1 i2 s3 h' Q))) ∧ (b15 = false →
 Fin B h14 (Q (1)))))
def S_countermandref20_Do_J1 (B : RO) (k10 : Nat) (k14 : Nat) (k18 : Nat) (i21 : Int) (h22 : Heap) (Q : Int → List Value → Heap → Prop) : Prop :=
 ∃ l23 : List Value, List.length l23 = 12 ∧ CellsAt B h22 ⟨k18, 12, none⟩ 0 l23 ∧
 List.length l23 = 12 ∧ ∃ h24 : Heap, StoresAt ⟨k10, 8, none⟩ h22 0 l23 h24 ∧
 ∃ l25 : List Value, List.length l25 = 23 ∧ CellsAt B h24 ⟨k10, 0, none⟩ 0 l25 ∧
 List.length l25 = 23 ∧ ∃ h26 : Heap, StoresAt ⟨k14, 0, none⟩ h24 0 l25 h26 ∧
 ∃ l27 : List Value, List.length l27 = 23 ∧ CellsAt B h26 ⟨k14, 0, none⟩ 0 l27 ∧ Fin B h26 (Q (i21) l27)
def S_countermandref20_Do (B : RO) (l1 : List Value) (s2 : ByteArray) (s3 : ByteArray) (s4 : ByteArray) (a5 : Option Addr) (n6 : Nat) (c7 : Nat) (h : Heap) (Q : Int → List Value → Heap → Prop) : Prop :=
 ∀ k10 : Nat, h k10 = none → B k10 = none → ∀ h11 : Heap, h11 = Heap.set h k10 (.vec 55 (plains l1) (List.length l1)) →
 ∀ k12 : Nat, h11 k12 = none → B k12 = none → ∀ h13 : Heap, h13 = Heap.set h11 k12 (.vec 56 (plains [(.string s2), (.string s3), (.string s4)]) 3) →
 ∀ k14 : Nat, h13 k14 = none → B k14 = none → ∀ h15 : Heap, h15 = Heap.set h13 k14 (.vec 55 (plains [(.int .i64 (0)), (.int .i64 (0)), (.int .i64 (0)), (.int .i64 (0)), (.int .i64 (0)), (.int .i64 (0)), (.int .i64 (0)), (.int .i64 (0)), (.bool false), (.string ByteArray.empty), (.bool false), (.string ByteArray.empty), (.bool false), (.string ByteArray.empty), (.bool false), (.string ByteArray.empty), (.bool false), (.string ByteArray.empty), (.bool false), (.string ByteArray.empty), (.int .i64 (0)), (.int .i64 (0)), (.int .i64 (0))]) 23) →
 ∃ l16 : List Value, List.length l16 = 12 ∧ CellsAt B h15 ⟨k10, 8, none⟩ 0 l16 ∧
 ∃ l17 : List Value, List.length l17 = 12 ∧ CellsAt B h15 ⟨k10, 8, none⟩ 0 l17 ∧
 ∀ k18 : Nat, h15 k18 = none → B k18 = none → ∀ h19 : Heap, h19 = Heap.set h15 k18 (.vec 132 (plains (l16 ++ l17 ++ [(.bool false), (.bool false), (.bool false), (.bool false), (.bool false), (.bool false)])) (List.length (l16 ++ l17 ++ [(.bool false), (.bool false), (.bool false), (.bool false), (.bool false), (.bool false)]))) →
 ∃ (J34 : Int → Int → Nat → Heap → Prop) (m32 : Nat), Fin B h19 (J34 (0) (0) m32) ∧
 ∀ (i28 : Int) (i29 : Int) (m31 : Nat) (h30 : Heap), J34 i28 i29 m31 h30 →
 ((i29 : Int) < ((n6 : Nat)) →
 ∃ A35 : Addr, a5 = some A35 ∧ 0 ≤ (i29 : Int) ∧ (i29 : Int) < (n6 : Nat) ∧
 ∃ i37 : Int, ∃ i38 : Int, ∃ i39 : Int, ∃ i40 : Int, CellsAt B h30 (Addr.add A35 (Int.toNat (i29) * 4)) 0 [(.int .i64 (i37)), (.int .i64 (i38)), (.int .i64 (i39)), (.int .u8 (i40))] ∧
 ∀ k41 : Nat, h30 k41 = none → B k41 = none → ∀ h42 : Heap, h42 = Heap.set h30 k41 (.vec 38 (plains [(.int .i64 (0)), (.int .i64 (0)), (.int .i64 (0)), (.int .u8 (0))]) 4) →
 ∃ h43 : Heap, StoresAt ⟨k41, 0, none⟩ h42 0 [(.int .i64 (i37)), (.int .i64 (i38)), (.int .i64 (i39)), (.int .u8 (i40))] h43 ∧
 ∃ i44 : Int, cellH B h43 ⟨k41, 0, none⟩ = some (.int .i64 (i44)) ∧
 ((i44 : Int) = 0 →
 ∃ i45 : Int, cellH B h43 ⟨k41, 1, none⟩ = some (.int .i64 (i45)) ∧
 0 ≤ (i45 : Int) ∧ (i45 : Int) < (8 : Nat) ∧
 ∃ i46 : Int, cellH B h43 (Addr.add ⟨k10, 0, none⟩ (Int.toNat (i45) * 1)) = some (.int .i64 (i46)) ∧
 Fin B h43 (fun h' => ∃ m', m' < m31 ∧ J34 (i46) (IntKind.wrap .i64 ((i29) + (1))) m' h')) ∧ (¬ ((i44 : Int) = 0) →
 ((i44 : Int) = 1 →
 ∃ i47 : Int, cellH B h43 ⟨k41, 1, none⟩ = some (.int .i64 (i47)) ∧
 ∃ i48 : Int, cellH B h43 ⟨k41, 2, none⟩ = some (.int .i64 (i48)) ∧
 0 ≤ (i47 : Int) ∧ (i47 : Int) < (8 : Nat) ∧
 ∃ h49 : Heap, storeH h43 (Addr.add ⟨k10, 0, none⟩ (Int.toNat (i47) * 1)) (.int .i64 (i48)) = some h49 ∧
 Fin B h49 (fun h' => ∃ m', m' < m31 ∧ J34 (0) (IntKind.wrap .i64 ((i29) + (1))) m' h')) ∧ (¬ ((i44 : Int) = 1) →
 ((i44 : Int) = 2 →
 ∃ i52 : Int, cellH B h43 ⟨k41, 1, none⟩ = some (.int .i64 (i52)) ∧
 0 ≤ (i52 : Int) ∧ (i52 : Int) < (6 : Nat) ∧
 ∃ b59 : Bool, ∃ s60 : ByteArray, CellsAt B h43 (Addr.add ⟨k18, 12, none⟩ (Int.toNat (i52) * 2)) 0 [(.bool b59), (.string s60)] ∧
 ∃ i63 : Int, cellH B h43 ⟨k41, 2, none⟩ = some (.int .i64 (i63)) ∧
 C_countermandref09_At B (b59) s60 (i63) h43 (fun i66 h65 =>
 cellH B h65 ⟨k41, 1, none⟩ = some (.int .i64 (i52)) ∧ CellsAt B h65 (Addr.add ⟨k18, 12, none⟩ (Int.toNat (i52) * 2)) 0 [(.bool b59), (.string s60)] ∧ cellH B h65 ⟨k41, 2, none⟩ = some (.int .i64 (i63)) ∧
 Fin B h65 (fun h' => ∃ m', m' < m31 ∧ J34 (i66) (IntKind.wrap .i64 ((i29) + (1))) m' h'))) ∧ (¬ ((i44 : Int) = 2) →
 ((i44 : Int) = 3 →
 ∃ i70 : Int, cellH B h43 ⟨k41, 1, none⟩ = some (.int .i64 (i70)) ∧
 ∃ i71 : Int, cellH B h43 ⟨k41, 2, none⟩ = some (.int .i64 (i71)) ∧
 ∃ i72 : Int, cellH B h43 ⟨k41, 3, none⟩ = some (.int .u8 (i72)) ∧
 C_countermandref14_Sheet_Write B (some ⟨k18, 0, none⟩) (i70) (i71) (i72) h43 (fun b74 h73 =>
 Fin B h73 (fun h' => ∃ m', m' < m31 ∧ J34 (0) (IntKind.wrap .i64 ((i29) + (1))) m' h'))) ∧ (¬ ((i44 : Int) = 3) →
 ((i44 : Int) = 4 →
 ∃ i75 : Int, cellH B h43 ⟨k41, 1, none⟩ = some (.int .i64 (i75)) ∧
 C_countermandref14_Sheet_Create B (some ⟨k18, 0, none⟩) (i75) h43 (fun b77 h76 =>
 Fin B h76 (fun h' => ∃ m', m' < m31 ∧ J34 (0) (IntKind.wrap .i64 ((i29) + (1))) m' h'))) ∧ (¬ ((i44 : Int) = 4) →
 ((i44 : Int) = 5 →
 ∃ i78 : Int, cellH B h43 ⟨k41, 1, none⟩ = some (.int .i64 (i78)) ∧
 C_countermandref14_Sheet_Remove B (some ⟨k18, 0, none⟩) (i78) h43 (fun b80 h79 =>
 Fin B h79 (fun h' => ∃ m', m' < m31 ∧ J34 (0) (IntKind.wrap .i64 ((i29) + (1))) m' h'))) ∧ (¬ ((i44 : Int) = 5) →
 ((i44 : Int) = 6 →
 ∃ i81 : Int, cellH B h43 ⟨k41, 1, none⟩ = some (.int .i64 (i81)) ∧
 ∃ i82 : Int, cellH B h43 ⟨k41, 2, none⟩ = some (.int .i64 (i82)) ∧
 C_countermandref14_Sheet_Rename B (some ⟨k18, 0, none⟩) (i81) (i82) h43 (fun b84 h83 =>
 Fin B h83 (fun h' => ∃ m', m' < m31 ∧ J34 (0) (IntKind.wrap .i64 ((i29) + (1))) m' h'))) ∧ (¬ ((i44 : Int) = 6) →
 ((i44 : Int) = 7 →
 ∃ i85 : Int, cellH B h43 ⟨k41, 1, none⟩ = some (.int .i64 (i85)) ∧
 ∃ i86 : Int, cellH B h43 ⟨k41, 2, none⟩ = some (.int .i64 (i86)) ∧
 C_countermandref14_Sheet_Cut B (some ⟨k18, 0, none⟩) (i85) (i86) h43 (fun b88 h87 =>
 Fin B h87 (fun h' => ∃ m', m' < m31 ∧ J34 (0) (IntKind.wrap .i64 ((i29) + (1))) m' h'))) ∧ (¬ ((i44 : Int) = 7) →
 ((i44 : Int) = 8 →
 ∃ i89 : Int, cellH B h43 ⟨k41, 1, none⟩ = some (.int .i64 (i89)) ∧
 0 ≤ (i89 : Int) ∧ (i89 : Int) < (3 : Nat) ∧
 ∃ i90 : Int, cellH B h43 (Addr.add ⟨k10, 20, none⟩ (Int.toNat (i89) * 1)) = some (.int .i64 (i90)) ∧
 ∃ i91 : Int, cellH B h43 ⟨k41, 1, none⟩ = some (.int .i64 (i91)) ∧
 0 ≤ (i91 : Int) ∧ (i91 : Int) < (3 : Nat) ∧
 ∃ s92 : ByteArray, cellH B h43 (Addr.add ⟨k12, 0, none⟩ (Int.toNat (i91) * 1)) = some (.string s92) ∧
 ((i90 : Int) < ((ByteArray.size s92 : Nat)) →
 ∃ i94 : Int, cellH B h43 ⟨k41, 1, none⟩ = some (.int .i64 (i94)) ∧
 0 ≤ (i94 : Int) ∧ (i94 : Int) < (3 : Nat) ∧
 ∃ s95 : ByteArray, cellH B h43 (Addr.add ⟨k12, 0, none⟩ (Int.toNat (i94) * 1)) = some (.string s95) ∧
 ∃ i96 : Int, cellH B h43 ⟨k41, 1, none⟩ = some (.int .i64 (i96)) ∧
 0 ≤ (i96 : Int) ∧ (i96 : Int) < (3 : Nat) ∧
 ∃ i97 : Int, cellH B h43 (Addr.add ⟨k10, 20, none⟩ (Int.toNat (i96) * 1)) = some (.int .i64 (i97)) ∧
 0 ≤ (i97 : Int) ∧ (i97 : Int) < (ByteArray.size s95 : Nat) ∧
 ∃ i98 : Int, cellH B h43 ⟨k41, 1, none⟩ = some (.int .i64 (i98)) ∧
 0 ≤ (i98 : Int) ∧ (i98 : Int) < (3 : Nat) ∧
 ∃ i99 : Int, cellH B h43 (Addr.add ⟨k10, 20, none⟩ (Int.toNat (i98) * 1)) = some (.int .i64 (i99)) ∧
 0 ≤ (i98 : Int) ∧ (i98 : Int) < (3 : Nat) ∧
 ∃ h100 : Heap, storeH h43 (Addr.add ⟨k10, 20, none⟩ (Int.toNat (i98) * 1)) (.int .i64 (IntKind.wrap .i64 ((i99) + (1)))) = some h100 ∧
 Fin B h100 (fun h' => ∃ m', m' < m31 ∧ J34 (IntKind.wrap .i64 (byteAt s95 (Int.toNat (i97)))) (IntKind.wrap .i64 ((i29) + (1))) m' h')) ∧ (¬ ((i90 : Int) < ((ByteArray.size s92 : Nat))) →
 Fin B h43 (fun h' => ∃ m', m' < m31 ∧ J34 ((-1)) (IntKind.wrap .i64 ((i29) + (1))) m' h'))) ∧ (¬ ((i44 : Int) = 8) →
 Fin B h43 (fun h' => ∃ m', m' < m31 ∧ J34 (0) (IntKind.wrap .i64 ((i29) + (1))) m' h'))))))))))) ∧ (¬ ((i29 : Int) < ((n6 : Nat))) →
 Fin B h30 (fun h' => S_countermandref20_Do_J1 B k10 k14 k18 (i28) h' Q))
def S_attempt_View_Now_J2 (B : RO) (p1 : Option Addr) (k3 : Nat) (k11 : Nat) (h17 : Heap) (Q : List Value → Heap → Prop) : Prop :=
 ∃ (J23 : Int → Nat → Heap → Prop) (m21 : Nat), Fin B h17 (J23 (0) m21) ∧
 ∀ (i18 : Int) (m20 : Nat) (h19 : Heap), J23 i18 m20 h19 →
 ((i18 : Int) < (3) →
 ∃ A24 : Addr, p1 = some A24 ∧
 ∃ p26 : Option Addr, cellH B h19 (Addr.add A24 2) = some (.pointer p26) ∧
 C_feed_Feed_Place B p26 (i18) h19 (fun i28 i29 h27 =>
 0 ≤ (2 : Int) ∧ (2 : Int) < (3 : Nat) ∧
 0 ≤ (i18 : Int) ∧ (i18 : Int) < (8 : Nat) ∧
 ∃ h30 : Heap, storeH h27 (Addr.add ⟨k11, 16, none⟩ (Int.toNat (i18) * 1)) (.int .i64 (i29)) = some h30 ∧
 Fin B h30 (fun h' => ∃ m', m' < m20 ∧ J23 (IntKind.wrap .i64 ((i18) + (1))) m' h'))) ∧ (¬ ((i18 : Int) < (3)) →
 ∃ l31 : List Value, List.length l31 = 25 ∧ CellsAt B h19 ⟨k11, 0, none⟩ 0 l31 ∧
 List.length l31 = 25 ∧ ∃ h32 : Heap, StoresAt ⟨k3, 0, none⟩ h19 0 l31 h32 ∧
 ∃ l33 : List Value, List.length l33 = 25 ∧ CellsAt B h32 ⟨k3, 0, none⟩ 0 l33 ∧ Fin B h32 (Q l33))
def S_attempt_View_Now_J1 (B : RO) (p1 : Option Addr) (k3 : Nat) (k11 : Nat) (h15 : Heap) (Q : List Value → Heap → Prop) : Prop :=
 ∃ (J39 : Int → Nat → Heap → Prop) (m37 : Nat), Fin B h15 (J39 (0) m37) ∧
 ∀ (i34 : Int) (m36 : Nat) (h35 : Heap), J39 i34 m36 h35 →
 ((i34 : Int) < (6) →
 ∃ A40 : Addr, p1 = some A40 ∧
 ∃ p42 : Option Addr, cellH B h35 (Addr.add A40 1) = some (.pointer p42) ∧
 C_tome_Tome_Get B p42 (i34) h35 (fun b44 s45 i46 h43 =>
 0 ≤ (1 : Int) ∧ (1 : Int) < (3 : Nat) ∧
 0 ≤ (i34 : Int) ∧ (i34 : Int) < (8 : Nat) ∧
 ∃ h47 : Heap, storeH h43 (Addr.add ⟨k11, 8, none⟩ (Int.toNat (i34) * 1)) (.int .i64 (i46)) = some h47 ∧
 Fin B h47 (fun h' => ∃ m', m' < m36 ∧ J39 (IntKind.wrap .i64 ((i34) + (1))) m' h'))) ∧ (¬ ((i34 : Int) < (6)) →
 Fin B h35 (fun h' => S_attempt_View_Now_J2 B p1 k3 k11 h' Q))
def S_attempt_View_Now (B : RO) (p1 : Option Addr) (h : Heap) (Q : List Value → Heap → Prop) : Prop :=
 ∀ k3 : Nat, h k3 = none → B k3 = none → ∀ h4 : Heap, h4 = Heap.set h k3 (.vec 65 (plains (List.replicate 25 (.int .i64 (0)))) 25) →
 (p1 = none →
 ∃ h6 : Heap, StoresAt ⟨k3, 0, none⟩ h4 0 (List.replicate 25 (.int .i64 (0))) h6 ∧
 ∃ l7 : List Value, List.length l7 = 25 ∧ CellsAt B h6 ⟨k3, 0, none⟩ 0 l7 ∧ Fin B h6 (Q l7)) ∧ (¬ (p1 = none) →
 ∃ A8 : Addr, p1 = some A8 ∧
 ∃ i10 : Int, cellH B h4 (Addr.add A8 3) = some (.int .i64 (i10)) ∧
 ∀ k11 : Nat, h4 k11 = none → B k11 = none → ∀ h12 : Heap, h12 = Heap.set h4 k11 (.vec 65 (plains (List.replicate 25 (.int .i64 (0)))) 25) →
 ∃ h13 : Heap, StoresAt ⟨k11, 0, none⟩ h12 0 [(.int .i64 (0)), (.int .i64 (0)), (.int .i64 (0)), (.int .i64 (0)), (.int .i64 (0)), (.int .i64 (0)), (.int .i64 (0)), (.int .i64 (0)), (.int .i64 (0)), (.int .i64 (0)), (.int .i64 (0)), (.int .i64 (0)), (.int .i64 (0)), (.int .i64 (0)), (.int .i64 (0)), (.int .i64 (0)), (.int .i64 (0)), (.int .i64 (0)), (.int .i64 (0)), (.int .i64 (0)), (.int .i64 (0)), (.int .i64 (0)), (.int .i64 (0)), (.int .i64 (0)), (.int .i64 (i10))] h13 ∧
 ∃ (J53 : Int → Nat → Heap → Prop) (m51 : Nat), Fin B h13 (J53 (0) m51) ∧
 ∀ (i48 : Int) (m50 : Nat) (h49 : Heap), J53 i48 m50 h49 →
 ((i48 : Int) < (8) →
 ∃ A54 : Addr, p1 = some A54 ∧
 ∃ p56 : Option Addr, cellH B h49 A54 = some (.pointer p56) ∧
 C_cell_Row_int_Version B p56 (i48) h49 (fun i58 h57 =>
 0 ≤ (0 : Int) ∧ (0 : Int) < (3 : Nat) ∧
 0 ≤ (i48 : Int) ∧ (i48 : Int) < (8 : Nat) ∧
 ∃ h59 : Heap, storeH h57 (Addr.add ⟨k11, 0, none⟩ (Int.toNat (i48) * 1)) (.int .i64 (i58)) = some h59 ∧
 Fin B h59 (fun h' => ∃ m', m' < m50 ∧ J53 (IntKind.wrap .i64 ((i48) + (1))) m' h'))) ∧ (¬ ((i48 : Int) < (8)) →
 Fin B h49 (fun h' => S_attempt_View_Now_J1 B p1 k3 k11 h' Q)))
def S_attempt_Attempt_Store_J1 (B : RO) (p1 : Option Addr) (i2 : Int) (i3 : Int) (h6 : Heap) (Q : Int → Heap → Prop) : Prop :=
 ∃ A7 : Addr, p1 = some A7 ∧
 ∃ p9 : Option Addr, cellH B h6 (Addr.add A7 2) = some (.pointer p9) ∧
 C_draft_Draft_int_Put B p9 (i2) (i3) h6 (fun b11 h10 =>
 Fin B h10 (Q (0)))
def S_attempt_Attempt_Store (B : RO) (p1 : Option Addr) (i2 : Int) (i3 : Int) (h : Heap) (Q : Int → Heap → Prop) : Prop :=
 (p1 = none →
 Fin B h (Q (2))) ∧ (¬ (p1 = none) →
 ((i2 : Int) < (0) →
 Fin B h (Q (1))) ∧ (¬ ((i2 : Int) < (0)) →
 ((i2 : Int) ≥ (8) →
 Fin B h (Q (1))) ∧ (¬ ((i2 : Int) ≥ (8)) →
 Fin B h (fun h' => S_attempt_Attempt_Store_J1 B p1 i2 i3 h' Q))))
def S_attempt_NewView (B : RO) (h : Heap) (Q : Option Addr → Heap → Prop) : Prop :=
 C_cell_New_int B (8) (0) h (fun p3 h2 =>
 C_tome_New B h2 (fun p5 h4 =>
 C_feed_New B h4 (fun p7 h6 =>
 ∀ k8 : Nat, h6 k8 = none → B k8 = none → ∀ h9 : Heap, h9 = Heap.set h6 k8 (.vec 43 (plains [(.pointer p3), (.pointer p5), (.pointer p7), (.int .i64 (0))]) 4) →
 Fin B h9 (Q (some ⟨k8, 0, none⟩)))))
def S_attempt_New_J2 (B : RO) (k7 : Nat) (p10 : Option Addr) (A14 : Addr) (i18 : Int) (i20 : Int) (i21 : Int) (i22 : Int) (i23 : Int) (p230 : Option Addr) (p231 : Option Addr) (p232 : Option Addr) (p233 : Option Addr) (i234 : Int) (i235 : Int) (i236 : Int) (i237 : Int) (A238 : Addr) (A239 : Addr) (h240 : Heap) (Q : Option Addr → Heap → Prop) : Prop :=
 ∀ k243 : Nat, h240 k243 = none → B k243 = none → ∀ h244 : Heap, h244 = Heap.set h240 k243 (.vec 107 (plains [(.pointer p10), (.pointer p230), (.pointer p231), (.pointer p232), (.pointer p233), (.int .i64 (i234)), (.int .i64 (i235)), (.int .i64 (i236)), (.int .i64 (i237)), (.pointer (some A238)), (.pointer (some A239))]) 11) →
 cellH B h244 (Addr.add A14 3) = some (.int .i64 (i18)) ∧ CellsAt B h244 ⟨k7, 0, none⟩ 0 [(.int .i64 (i20)), (.int .i64 (i21)), (.int .i64 (i22)), (.int .i64 (i23))] ∧
 Fin B h244 (Q (some ⟨k243, 0, none⟩))
def S_attempt_New_J1 (B : RO) (k7 : Nat) (p10 : Option Addr) (h11 : Heap) (Q : Option Addr → Heap → Prop) : Prop :=
 ∃ A14 : Addr, p10 = some A14 ∧
 ∃ i18 : Int, cellH B h11 (Addr.add A14 3) = some (.int .i64 (i18)) ∧
 ∃ i20 : Int, ∃ i21 : Int, ∃ i22 : Int, ∃ i23 : Int, CellsAt B h11 ⟨k7, 0, none⟩ 0 [(.int .i64 (i20)), (.int .i64 (i21)), (.int .i64 (i22)), (.int .i64 (i23))] ∧
 (C_reads_New B (i18) h11 (fun p248 h247 =>
 cellH B h247 (Addr.add A14 3) = some (.int .i64 (i18)) ∧ CellsAt B h247 ⟨k7, 0, none⟩ 0 [(.int .i64 (i20)), (.int .i64 (i21)), (.int .i64 (i22)), (.int .i64 (i23))] ∧
 (C_mark_Fresh B (i20) (i21) (i22) (i23) h247 (fun p252 p253 p254 i255 i256 i257 i258 h251 =>
 cellH B h251 (Addr.add A14 3) = some (.int .i64 (i18)) ∧ CellsAt B h251 ⟨k7, 0, none⟩ 0 [(.int .i64 (i20)), (.int .i64 (i21)), (.int .i64 (i22)), (.int .i64 (i23))] ∧
 (∀ k261 : Nat, h251 k261 = none → B k261 = none → ∀ h262 : Heap, h262 = Heap.set h251 k261 (.vec 144 (plains [(.slice none 0 0), (.slice none 0 0), (.slice none 0 0), (.slice none 0 0)]) 4) →
 cellH B h262 (Addr.add A14 3) = some (.int .i64 (i18)) ∧ CellsAt B h262 ⟨k7, 0, none⟩ 0 [(.int .i64 (i20)), (.int .i64 (i21)), (.int .i64 (i22)), (.int .i64 (i23))] ∧
 ∀ k265 : Nat, h262 k265 = none → B k265 = none → ∀ h266 : Heap, h266 = Heap.set h262 k265 (.vec 147 (plains [(.slice none 0 0)]) 1) →
 cellH B h266 (Addr.add A14 3) = some (.int .i64 (i18)) ∧ CellsAt B h266 ⟨k7, 0, none⟩ 0 [(.int .i64 (i20)), (.int .i64 (i21)), (.int .i64 (i22)), (.int .i64 (i23))] ∧
 S_attempt_New_J2 B k7 p10 A14 i18 i20 i21 i22 i23 p248 p252 p253 p254 (i255) (i256) (i257) (i258) ⟨k261, 0, none⟩ ⟨k265, 0, none⟩ h266 Q) ∧
 (∀ k269 : Nat, h251 k269 = none → B k269 = none → ∀ h270 : Heap, h270 = Heap.set h251 k269 (.vec 147 (plains [(.slice none 0 0)]) 1) →
 cellH B h270 (Addr.add A14 3) = some (.int .i64 (i18)) ∧ CellsAt B h270 ⟨k7, 0, none⟩ 0 [(.int .i64 (i20)), (.int .i64 (i21)), (.int .i64 (i22)), (.int .i64 (i23))] ∧
 ∀ k273 : Nat, h270 k273 = none → B k273 = none → ∀ h274 : Heap, h274 = Heap.set h270 k273 (.vec 144 (plains [(.slice none 0 0), (.slice none 0 0), (.slice none 0 0), (.slice none 0 0)]) 4) →
 cellH B h274 (Addr.add A14 3) = some (.int .i64 (i18)) ∧ CellsAt B h274 ⟨k7, 0, none⟩ 0 [(.int .i64 (i20)), (.int .i64 (i21)), (.int .i64 (i22)), (.int .i64 (i23))] ∧
 S_attempt_New_J2 B k7 p10 A14 i18 i20 i21 i22 i23 p248 p252 p253 p254 (i255) (i256) (i257) (i258) ⟨k273, 0, none⟩ ⟨k269, 0, none⟩ h274 Q))) ∧
 (∀ k277 : Nat, h247 k277 = none → B k277 = none → ∀ h278 : Heap, h278 = Heap.set h247 k277 (.vec 144 (plains [(.slice none 0 0), (.slice none 0 0), (.slice none 0 0), (.slice none 0 0)]) 4) →
 cellH B h278 (Addr.add A14 3) = some (.int .i64 (i18)) ∧ CellsAt B h278 ⟨k7, 0, none⟩ 0 [(.int .i64 (i20)), (.int .i64 (i21)), (.int .i64 (i22)), (.int .i64 (i23))] ∧
 (C_mark_Fresh B (i20) (i21) (i22) (i23) h278 (fun p282 p283 p284 i285 i286 i287 i288 h281 =>
 cellH B h281 (Addr.add A14 3) = some (.int .i64 (i18)) ∧ CellsAt B h281 ⟨k7, 0, none⟩ 0 [(.int .i64 (i20)), (.int .i64 (i21)), (.int .i64 (i22)), (.int .i64 (i23))] ∧
 ∀ k291 : Nat, h281 k291 = none → B k291 = none → ∀ h292 : Heap, h292 = Heap.set h281 k291 (.vec 147 (plains [(.slice none 0 0)]) 1) →
 cellH B h292 (Addr.add A14 3) = some (.int .i64 (i18)) ∧ CellsAt B h292 ⟨k7, 0, none⟩ 0 [(.int .i64 (i20)), (.int .i64 (i21)), (.int .i64 (i22)), (.int .i64 (i23))] ∧
 S_attempt_New_J2 B k7 p10 A14 i18 i20 i21 i22 i23 p248 p282 p283 p284 (i285) (i286) (i287) (i288) ⟨k277, 0, none⟩ ⟨k291, 0, none⟩ h292 Q)) ∧
 (∀ k295 : Nat, h278 k295 = none → B k295 = none → ∀ h296 : Heap, h296 = Heap.set h278 k295 (.vec 147 (plains [(.slice none 0 0)]) 1) →
 cellH B h296 (Addr.add A14 3) = some (.int .i64 (i18)) ∧ CellsAt B h296 ⟨k7, 0, none⟩ 0 [(.int .i64 (i20)), (.int .i64 (i21)), (.int .i64 (i22)), (.int .i64 (i23))] ∧
 C_mark_Fresh B (i20) (i21) (i22) (i23) h296 (fun p300 p301 p302 i303 i304 i305 i306 h299 =>
 cellH B h299 (Addr.add A14 3) = some (.int .i64 (i18)) ∧ CellsAt B h299 ⟨k7, 0, none⟩ 0 [(.int .i64 (i20)), (.int .i64 (i21)), (.int .i64 (i22)), (.int .i64 (i23))] ∧
 S_attempt_New_J2 B k7 p10 A14 i18 i20 i21 i22 i23 p248 p300 p301 p302 (i303) (i304) (i305) (i306) ⟨k277, 0, none⟩ ⟨k295, 0, none⟩ h299 Q))) ∧
 (∀ k309 : Nat, h247 k309 = none → B k309 = none → ∀ h310 : Heap, h310 = Heap.set h247 k309 (.vec 147 (plains [(.slice none 0 0)]) 1) →
 cellH B h310 (Addr.add A14 3) = some (.int .i64 (i18)) ∧ CellsAt B h310 ⟨k7, 0, none⟩ 0 [(.int .i64 (i20)), (.int .i64 (i21)), (.int .i64 (i22)), (.int .i64 (i23))] ∧
 (C_mark_Fresh B (i20) (i21) (i22) (i23) h310 (fun p314 p315 p316 i317 i318 i319 i320 h313 =>
 cellH B h313 (Addr.add A14 3) = some (.int .i64 (i18)) ∧ CellsAt B h313 ⟨k7, 0, none⟩ 0 [(.int .i64 (i20)), (.int .i64 (i21)), (.int .i64 (i22)), (.int .i64 (i23))] ∧
 ∀ k323 : Nat, h313 k323 = none → B k323 = none → ∀ h324 : Heap, h324 = Heap.set h313 k323 (.vec 144 (plains [(.slice none 0 0), (.slice none 0 0), (.slice none 0 0), (.slice none 0 0)]) 4) →
 cellH B h324 (Addr.add A14 3) = some (.int .i64 (i18)) ∧ CellsAt B h324 ⟨k7, 0, none⟩ 0 [(.int .i64 (i20)), (.int .i64 (i21)), (.int .i64 (i22)), (.int .i64 (i23))] ∧
 S_attempt_New_J2 B k7 p10 A14 i18 i20 i21 i22 i23 p248 p314 p315 p316 (i317) (i318) (i319) (i320) ⟨k323, 0, none⟩ ⟨k309, 0, none⟩ h324 Q)) ∧
 (∀ k327 : Nat, h310 k327 = none → B k327 = none → ∀ h328 : Heap, h328 = Heap.set h310 k327 (.vec 144 (plains [(.slice none 0 0), (.slice none 0 0), (.slice none 0 0), (.slice none 0 0)]) 4) →
 cellH B h328 (Addr.add A14 3) = some (.int .i64 (i18)) ∧ CellsAt B h328 ⟨k7, 0, none⟩ 0 [(.int .i64 (i20)), (.int .i64 (i21)), (.int .i64 (i22)), (.int .i64 (i23))] ∧
 C_mark_Fresh B (i20) (i21) (i22) (i23) h328 (fun p332 p333 p334 i335 i336 i337 i338 h331 =>
 cellH B h331 (Addr.add A14 3) = some (.int .i64 (i18)) ∧ CellsAt B h331 ⟨k7, 0, none⟩ 0 [(.int .i64 (i20)), (.int .i64 (i21)), (.int .i64 (i22)), (.int .i64 (i23))] ∧
 S_attempt_New_J2 B k7 p10 A14 i18 i20 i21 i22 i23 p248 p332 p333 p334 (i335) (i336) (i337) (i338) ⟨k327, 0, none⟩ ⟨k309, 0, none⟩ h331 Q))))) ∧
 (∀ k341 : Nat, h11 k341 = none → B k341 = none → ∀ h342 : Heap, h342 = Heap.set h11 k341 (.vec 144 (plains [(.slice none 0 0), (.slice none 0 0), (.slice none 0 0), (.slice none 0 0)]) 4) →
 cellH B h342 (Addr.add A14 3) = some (.int .i64 (i18)) ∧ CellsAt B h342 ⟨k7, 0, none⟩ 0 [(.int .i64 (i20)), (.int .i64 (i21)), (.int .i64 (i22)), (.int .i64 (i23))] ∧
 (C_reads_New B (i18) h342 (fun p346 h345 =>
 cellH B h345 (Addr.add A14 3) = some (.int .i64 (i18)) ∧ CellsAt B h345 ⟨k7, 0, none⟩ 0 [(.int .i64 (i20)), (.int .i64 (i21)), (.int .i64 (i22)), (.int .i64 (i23))] ∧
 (C_mark_Fresh B (i20) (i21) (i22) (i23) h345 (fun p350 p351 p352 i353 i354 i355 i356 h349 =>
 cellH B h349 (Addr.add A14 3) = some (.int .i64 (i18)) ∧ CellsAt B h349 ⟨k7, 0, none⟩ 0 [(.int .i64 (i20)), (.int .i64 (i21)), (.int .i64 (i22)), (.int .i64 (i23))] ∧
 ∀ k359 : Nat, h349 k359 = none → B k359 = none → ∀ h360 : Heap, h360 = Heap.set h349 k359 (.vec 147 (plains [(.slice none 0 0)]) 1) →
 cellH B h360 (Addr.add A14 3) = some (.int .i64 (i18)) ∧ CellsAt B h360 ⟨k7, 0, none⟩ 0 [(.int .i64 (i20)), (.int .i64 (i21)), (.int .i64 (i22)), (.int .i64 (i23))] ∧
 S_attempt_New_J2 B k7 p10 A14 i18 i20 i21 i22 i23 p346 p350 p351 p352 (i353) (i354) (i355) (i356) ⟨k341, 0, none⟩ ⟨k359, 0, none⟩ h360 Q)) ∧
 (∀ k363 : Nat, h345 k363 = none → B k363 = none → ∀ h364 : Heap, h364 = Heap.set h345 k363 (.vec 147 (plains [(.slice none 0 0)]) 1) →
 cellH B h364 (Addr.add A14 3) = some (.int .i64 (i18)) ∧ CellsAt B h364 ⟨k7, 0, none⟩ 0 [(.int .i64 (i20)), (.int .i64 (i21)), (.int .i64 (i22)), (.int .i64 (i23))] ∧
 C_mark_Fresh B (i20) (i21) (i22) (i23) h364 (fun p368 p369 p370 i371 i372 i373 i374 h367 =>
 cellH B h367 (Addr.add A14 3) = some (.int .i64 (i18)) ∧ CellsAt B h367 ⟨k7, 0, none⟩ 0 [(.int .i64 (i20)), (.int .i64 (i21)), (.int .i64 (i22)), (.int .i64 (i23))] ∧
 S_attempt_New_J2 B k7 p10 A14 i18 i20 i21 i22 i23 p346 p368 p369 p370 (i371) (i372) (i373) (i374) ⟨k341, 0, none⟩ ⟨k363, 0, none⟩ h367 Q)))) ∧
 (∀ k377 : Nat, h342 k377 = none → B k377 = none → ∀ h378 : Heap, h378 = Heap.set h342 k377 (.vec 147 (plains [(.slice none 0 0)]) 1) →
 cellH B h378 (Addr.add A14 3) = some (.int .i64 (i18)) ∧ CellsAt B h378 ⟨k7, 0, none⟩ 0 [(.int .i64 (i20)), (.int .i64 (i21)), (.int .i64 (i22)), (.int .i64 (i23))] ∧
 C_reads_New B (i18) h378 (fun p382 h381 =>
 cellH B h381 (Addr.add A14 3) = some (.int .i64 (i18)) ∧ CellsAt B h381 ⟨k7, 0, none⟩ 0 [(.int .i64 (i20)), (.int .i64 (i21)), (.int .i64 (i22)), (.int .i64 (i23))] ∧
 C_mark_Fresh B (i20) (i21) (i22) (i23) h381 (fun p386 p387 p388 i389 i390 i391 i392 h385 =>
 cellH B h385 (Addr.add A14 3) = some (.int .i64 (i18)) ∧ CellsAt B h385 ⟨k7, 0, none⟩ 0 [(.int .i64 (i20)), (.int .i64 (i21)), (.int .i64 (i22)), (.int .i64 (i23))] ∧
 S_attempt_New_J2 B k7 p10 A14 i18 i20 i21 i22 i23 p382 p386 p387 p388 (i389) (i390) (i391) (i392) ⟨k341, 0, none⟩ ⟨k377, 0, none⟩ h385 Q)))) ∧
 (∀ k395 : Nat, h11 k395 = none → B k395 = none → ∀ h396 : Heap, h396 = Heap.set h11 k395 (.vec 147 (plains [(.slice none 0 0)]) 1) →
 cellH B h396 (Addr.add A14 3) = some (.int .i64 (i18)) ∧ CellsAt B h396 ⟨k7, 0, none⟩ 0 [(.int .i64 (i20)), (.int .i64 (i21)), (.int .i64 (i22)), (.int .i64 (i23))] ∧
 (C_reads_New B (i18) h396 (fun p400 h399 =>
 cellH B h399 (Addr.add A14 3) = some (.int .i64 (i18)) ∧ CellsAt B h399 ⟨k7, 0, none⟩ 0 [(.int .i64 (i20)), (.int .i64 (i21)), (.int .i64 (i22)), (.int .i64 (i23))] ∧
 (C_mark_Fresh B (i20) (i21) (i22) (i23) h399 (fun p404 p405 p406 i407 i408 i409 i410 h403 =>
 cellH B h403 (Addr.add A14 3) = some (.int .i64 (i18)) ∧ CellsAt B h403 ⟨k7, 0, none⟩ 0 [(.int .i64 (i20)), (.int .i64 (i21)), (.int .i64 (i22)), (.int .i64 (i23))] ∧
 ∀ k413 : Nat, h403 k413 = none → B k413 = none → ∀ h414 : Heap, h414 = Heap.set h403 k413 (.vec 144 (plains [(.slice none 0 0), (.slice none 0 0), (.slice none 0 0), (.slice none 0 0)]) 4) →
 cellH B h414 (Addr.add A14 3) = some (.int .i64 (i18)) ∧ CellsAt B h414 ⟨k7, 0, none⟩ 0 [(.int .i64 (i20)), (.int .i64 (i21)), (.int .i64 (i22)), (.int .i64 (i23))] ∧
 S_attempt_New_J2 B k7 p10 A14 i18 i20 i21 i22 i23 p400 p404 p405 p406 (i407) (i408) (i409) (i410) ⟨k413, 0, none⟩ ⟨k395, 0, none⟩ h414 Q)) ∧
 (∀ k417 : Nat, h399 k417 = none → B k417 = none → ∀ h418 : Heap, h418 = Heap.set h399 k417 (.vec 144 (plains [(.slice none 0 0), (.slice none 0 0), (.slice none 0 0), (.slice none 0 0)]) 4) →
 cellH B h418 (Addr.add A14 3) = some (.int .i64 (i18)) ∧ CellsAt B h418 ⟨k7, 0, none⟩ 0 [(.int .i64 (i20)), (.int .i64 (i21)), (.int .i64 (i22)), (.int .i64 (i23))] ∧
 C_mark_Fresh B (i20) (i21) (i22) (i23) h418 (fun p422 p423 p424 i425 i426 i427 i428 h421 =>
 cellH B h421 (Addr.add A14 3) = some (.int .i64 (i18)) ∧ CellsAt B h421 ⟨k7, 0, none⟩ 0 [(.int .i64 (i20)), (.int .i64 (i21)), (.int .i64 (i22)), (.int .i64 (i23))] ∧
 S_attempt_New_J2 B k7 p10 A14 i18 i20 i21 i22 i23 p400 p422 p423 p424 (i425) (i426) (i427) (i428) ⟨k417, 0, none⟩ ⟨k395, 0, none⟩ h421 Q)))) ∧
 (∀ k431 : Nat, h396 k431 = none → B k431 = none → ∀ h432 : Heap, h432 = Heap.set h396 k431 (.vec 144 (plains [(.slice none 0 0), (.slice none 0 0), (.slice none 0 0), (.slice none 0 0)]) 4) →
 cellH B h432 (Addr.add A14 3) = some (.int .i64 (i18)) ∧ CellsAt B h432 ⟨k7, 0, none⟩ 0 [(.int .i64 (i20)), (.int .i64 (i21)), (.int .i64 (i22)), (.int .i64 (i23))] ∧
 C_reads_New B (i18) h432 (fun p436 h435 =>
 cellH B h435 (Addr.add A14 3) = some (.int .i64 (i18)) ∧ CellsAt B h435 ⟨k7, 0, none⟩ 0 [(.int .i64 (i20)), (.int .i64 (i21)), (.int .i64 (i22)), (.int .i64 (i23))] ∧
 C_mark_Fresh B (i20) (i21) (i22) (i23) h435 (fun p440 p441 p442 i443 i444 i445 i446 h439 =>
 cellH B h439 (Addr.add A14 3) = some (.int .i64 (i18)) ∧ CellsAt B h439 ⟨k7, 0, none⟩ 0 [(.int .i64 (i20)), (.int .i64 (i21)), (.int .i64 (i22)), (.int .i64 (i23))] ∧
 S_attempt_New_J2 B k7 p10 A14 i18 i20 i21 i22 i23 p436 p440 p441 p442 (i443) (i444) (i445) (i446) ⟨k431, 0, none⟩ ⟨k395, 0, none⟩ h439 Q))))
def S_attempt_New (B : RO) (p1 : Option Addr) (i2 : Int) (i3 : Int) (i4 : Int) (i5 : Int) (h : Heap) (Q : Option Addr → Heap → Prop) : Prop :=
 ∀ k7 : Nat, h k7 = none → B k7 = none → ∀ h8 : Heap, h8 = Heap.set h k7 (.vec 26 (plains [(.int .i64 (i2)), (.int .i64 (i3)), (.int .i64 (i4)), (.int .i64 (i5))]) 4) →
 (p1 = none →
 C_attempt_NewView B h8 (fun p451 h450 =>
 Fin B h450 (fun h' => S_attempt_New_J1 B k7 p451 h' Q))) ∧ (¬ (p1 = none) →
 Fin B h8 (fun h' => S_attempt_New_J1 B k7 p1 h' Q))
def S_draft_Draft_int_Get (B : RO) (p1 : Option Addr) (i2 : Int) (h : Heap) (Q : Int → Bool → Heap → Prop) : Prop :=
 (p1 = none →
 Fin B h (Q (0) (false))) ∧ (¬ (p1 = none) →
 C_draft_Draft_int_find B p1 (i2) h (fun i7 b8 h6 =>
 (b8 = true →
 ∃ A9 : Addr, p1 = some A9 ∧
 LdSl B h6 A9 fun a11 n12 c13 h14 =>
 ∃ A15 : Addr, a11 = some A15 ∧ 0 ≤ (i7 : Int) ∧ (i7 : Int) < (n12 : Nat) ∧
 ∃ i17 : Int, cellH B h14 (Addr.add (Addr.add A15 (Int.toNat (i7) * 2)) 1) = some (.int .i64 (i17)) ∧
 Fin B h14 (Q (i17) (true))) ∧ (b8 = false →
 Fin B h6 (Q (0) (false)))))
def S_attempt_Attempt_note (B : RO) (p1 : Option Addr) (i2 : Int) (i3 : Int) (h : Heap) (Q : Int → Heap → Prop) : Prop :=
 ∃ A6 : Addr, p1 = some A6 ∧
 ∃ p10 : Option Addr, cellH B h (Addr.add A6 1) = some (.pointer p10) ∧
 ∃ A13 : Addr, p1 = some A13 ∧
 ∃ p17 : Option Addr, cellH B h A13 = some (.pointer p17) ∧
 C_attempt_View_Now B p17 h (fun l22 h21 =>
 cellH B h21 (Addr.add A6 1) = some (.pointer p10) ∧ cellH B h21 A13 = some (.pointer p17) ∧
 C_reads_Set_Note B p10 l22 (i2) (i3) h21 (fun b26 h25 =>
 (b26 = true →
 cellH B h25 (Addr.add A6 1) = some (.pointer p10) ∧ cellH B h25 A13 = some (.pointer p17) ∧
 Fin B h25 (Q (0))) ∧ (b26 = false →
 cellH B h25 (Addr.add A6 1) = some (.pointer p10) ∧ cellH B h25 A13 = some (.pointer p17) ∧
 Fin B h25 (Q (9)))))
def S_cell_Row_int_Get (B : RO) (p1 : Option Addr) (i2 : Int) (h : Heap) (Q : Int → Int → Heap → Prop) : Prop :=
 C_cell_Row_int_is B p1 (i2) h (fun b6 h5 =>
 (b6 = true →
 ∃ A7 : Addr, p1 = some A7 ∧
 ∃ a9 : Option Addr, ∃ n10 : Nat, ∃ c11 : Nat, cellH B h5 A7 = some (.slice a9 n10 c11) ∧
 ∃ A12 : Addr, a9 = some A12 ∧ 0 ≤ (i2 : Int) ∧ (i2 : Int) < (n10 : Nat) ∧
 ∃ i14 : Int, cellH B h5 (Addr.add A12 (Int.toNat (i2) * 2)) = some (.int .i64 (i14)) ∧
 ∃ A15 : Addr, p1 = some A15 ∧
 ∃ a17 : Option Addr, ∃ n18 : Nat, ∃ c19 : Nat, cellH B h5 A15 = some (.slice a17 n18 c19) ∧
 ∃ A20 : Addr, a17 = some A20 ∧ 0 ≤ (i2 : Int) ∧ (i2 : Int) < (n18 : Nat) ∧
 ∃ i22 : Int, cellH B h5 (Addr.add (Addr.add A20 (Int.toNat (i2) * 2)) 1) = some (.int .i64 (i22)) ∧
 Fin B h5 (Q (i14) (i22))) ∧ (b6 = false →
 Fin B h5 (Q (0) (0))))
def S_reads_Set_Valid (B : RO) (p1 : Option Addr) (l2 : List Value) (h : Heap) (Q : Bool → Heap → Prop) : Prop :=
 ∀ k4 : Nat, h k4 = none → B k4 = none → ∀ h5 : Heap, h5 = Heap.set h k4 (.vec 65 (plains l2) (List.length l2)) →
 (p1 = none →
 Fin B h5 (Q (true))) ∧ (¬ (p1 = none) →
 ∃ A7 : Addr, p1 = some A7 ∧
 LdSl B h5 A7 fun a9 n10 c11 h12 =>
 ∃ (J18 : Int → Nat → Heap → Prop) (m16 : Nat), Fin B h12 (J18 (0) m16) ∧
 ∀ (i13 : Int) (m15 : Nat) (h14 : Heap), J18 i13 m15 h14 →
 ((i13 : Int) < ((n10 : Nat)) →
 ∃ A19 : Addr, a9 = some A19 ∧ 0 ≤ (i13 : Int) ∧ (i13 : Int) < (n10 : Nat) ∧
 ∃ i21 : Int, ∃ i22 : Int, ∃ i23 : Int, CellsAt B h14 (Addr.add A19 (Int.toNat (i13) * 3)) 0 [(.int .i64 (i21)), (.int .i64 (i22)), (.int .i64 (i23))] ∧
 ∀ k24 : Nat, h14 k24 = none → B k24 = none → ∀ h25 : Heap, h25 = Heap.set h14 k24 (.vec 174 (plains [(.int .i64 (0)), (.int .i64 (0)), (.int .i64 (0))]) 3) →
 ∃ h26 : Heap, StoresAt ⟨k24, 0, none⟩ h25 0 [(.int .i64 (i21)), (.int .i64 (i22)), (.int .i64 (i23))] h26 ∧
 ∃ l27 : List Value, List.length l27 = 25 ∧ CellsAt B h26 ⟨k4, 0, none⟩ 0 l27 ∧
 ∃ i30 : Int, cellH B h26 ⟨k24, 0, none⟩ = some (.int .i64 (i30)) ∧
 ∃ i33 : Int, cellH B h26 ⟨k24, 1, none⟩ = some (.int .i64 (i33)) ∧
 ∃ i36 : Int, cellH B h26 ⟨k24, 2, none⟩ = some (.int .i64 (i36)) ∧
 C_reads_Now_Of B l27 (i30) (i33) h26 (fun i39 h38 =>
 CellsAt B h38 ⟨k4, 0, none⟩ 0 l27 ∧ cellH B h38 ⟨k24, 0, none⟩ = some (.int .i64 (i30)) ∧ cellH B h38 ⟨k24, 1, none⟩ = some (.int .i64 (i33)) ∧ cellH B h38 ⟨k24, 2, none⟩ = some (.int .i64 (i36)) ∧
 ((i39 : Int) = i36 →
 Fin B h38 (fun h' => ∃ m', m' < m15 ∧ J18 (IntKind.wrap .i64 ((i13) + (1))) m' h')) ∧ (¬ ((i39 : Int) = i36) →
 Fin B h38 (Q (false))))) ∧ (¬ ((i13 : Int) < ((n10 : Nat))) →
 Fin B h14 (Q (true))))
def S_draft_Draft_int_All (B : RO) (p1 : Option Addr) (h : Heap) (Q : Value → Heap → Prop) : Prop :=
 ∀ k3 : Nat, h k3 = none → B k3 = none → ∀ h4 : Heap, h4 = Heap.set h k3 (.vec 91 [.plain (.pointer p1)] 1) →
 Fin B h4 (Q (Value.func (.func 85) #[] #[(.pointer (some ⟨k3, 0, none⟩))]))
def S_cell_Row_int_Set (B : RO) (p1 : Option Addr) (i2 : Int) (i3 : Int) (i4 : Int) (h : Heap) (Q : Bool → Heap → Prop) : Prop :=
 C_cell_Row_int_is B p1 (i2) h (fun b7 h6 =>
 (b7 = true →
 ∃ A8 : Addr, p1 = some A8 ∧
 LdSl B h6 A8 fun a10 n11 c12 h13 =>
 ∃ A14 : Addr, a10 = some A14 ∧ 0 ≤ (i2 : Int) ∧ (i2 : Int) < (n11 : Nat) ∧
 ∃ h16 : Heap, StoresAt (Addr.add A14 (Int.toNat (i2) * 2)) h13 0 [(.int .i64 (i3)), (.int .i64 (i4))] h16 ∧
 Fin B h16 (Q (true))) ∧ (b7 = false →
 Fin B h6 (Q (false))))
def S_sheet_Sheet_Over (B : RO) (p1 : Option Addr) (p2 : Option Addr) (i3 : Int) (h : Heap) (Q : Int → Heap → Prop) : Prop :=
 ∀ k5 : Nat, h k5 = none → B k5 = none → ∀ h6 : Heap, h6 = Heap.set h k5 (.vec 40 [.plain (.pointer p2)] 1) →
 ∀ k7 : Nat, h6 k7 = none → B k7 = none → ∀ h8 : Heap, h8 = Heap.set h6 k7 (.vec 3 [.plain (.int .i64 (i3))] 1) →
 ∀ k9 : Nat, h8 k9 = none → B k9 = none → ∀ h10 : Heap, h10 = Heap.set h8 k9 (.vec 3 (plains [(.int .i64 (0))]) 1) →
 ∃ h11 : Heap, storeH h10 ⟨k9, 0, none⟩ (.int .i64 (0)) = some h11 ∧
 C_sheet_Sheet_Draft B p1 h11 (fun p13 h12 =>
 C_draft_Draft_file_File_All B p13 h12 (fun v15 h14 =>
 ∃ (xs23 : List (Int × Bool × ByteArray)) (G19 : Heap → Prop) (J22 : Nat → Heap → Prop), Iter PG B v15 (xs23.map (fun x : Int × Bool × ByteArray => [(.int .i64 (x.1)), (.agg #[(.bool x.2.1), (.string x.2.2)])])) G19 ∧ Ins G19 ∧ (∀ i h, J22 i h → G19 h) ∧ Fin B h14 (J22 0) ∧
 (∀ (q21 : Nat) (h20 : Heap) (i16 : Int) (b17 : Bool) (s18 : ByteArray), xs23[q21]? = some (i16, b17, s18) → J22 q21 h20 →
 ∀ k24 : Nat, h20 k24 = none → B k24 = none → ∀ h25 : Heap, h25 = Heap.set h20 k24 (.vec 119 (plains [(.bool false), (.string ByteArray.empty)]) 2) →
 ∃ h26 : Heap, StoresAt ⟨k24, 0, none⟩ h25 0 [(.bool b17), (.string s18)] h26 ∧
 ∃ p27 : Option Addr, cellH B h26 ⟨k5, 0, none⟩ = some (.pointer p27) ∧
 ∃ b28 : Bool, ∃ s29 : ByteArray, CellsAt B h26 ⟨k24, 0, none⟩ 0 [(.bool b28), (.string s29)] ∧
 ∃ i30 : Int, cellH B h26 ⟨k7, 0, none⟩ = some (.int .i64 (i30)) ∧
 C_tome_Tome_Set B p27 (i16) (b28) s29 (i30) h26 (fun b32 h31 =>
 (b32 = true →
 ∃ i33 : Int, cellH B h31 ⟨k9, 0, none⟩ = some (.int .i64 (i33)) ∧
 ∃ h34 : Heap, storeH h31 ⟨k9, 0, none⟩ (.int .i64 (IntKind.wrap .i64 ((i33) + (1)))) = some h34 ∧
 Fin B h34 (J22 (q21 + 1))) ∧ (b32 = false →
 Fin B h31 (J22 (q21 + 1))))) ∧
 (∀ (h20 : Heap), J22 xs23.length h20 →
 ∃ i35 : Int, cellH B h20 ⟨k9, 0, none⟩ = some (.int .i64 (i35)) ∧
 Fin B h20 (Q (i35)))))
def S_cursor_Cursor_Read_J1 (B : RO) (p1 : Option Addr) (i2 : Int) (h5 : Heap) (Q : Int → Heap → Prop) : Prop :=
 ∃ A6 : Addr, p1 = some A6 ∧
 0 ≤ (i2 : Int) ∧ (i2 : Int) < (3 : Nat) ∧
 ∃ i8 : Int, cellH B h5 (Addr.add A6 (Int.toNat (i2) * 1)) = some (.int .i64 (i8)) ∧
 Fin B h5 (Q (i8))
def S_cursor_Cursor_Read (B : RO) (p1 : Option Addr) (i2 : Int) (h : Heap) (Q : Int → Heap → Prop) : Prop :=
 (p1 = none →
 Fin B h (Q (0))) ∧ (¬ (p1 = none) →
 C_cursor_is B (i2) h (fun b11 h10 =>
 (b11 = true →
 Fin B h10 (fun h' => S_cursor_Cursor_Read_J1 B p1 i2 h' Q)) ∧ (b11 = false →
 Fin B h10 (Q (0)))))
def S_feed_Feed_Place (B : RO) (p1 : Option Addr) (i2 : Int) (h : Heap) (Q : Int → Int → Heap → Prop) : Prop :=
 (p1 = none →
 Fin B h (Q (0) (0))) ∧ (¬ (p1 = none) →
 ∃ A6 : Addr, p1 = some A6 ∧
 ∃ p8 : Option Addr, cellH B h (Addr.add A6 3) = some (.pointer p8) ∧
 C_cell_Row_int_Get B p8 (i2) h (fun i10 i11 h9 =>
 Fin B h9 (Q (i10) (i11))))
def S_feed_Feed_Take_J1 (B : RO) (p1 : Option Addr) (i2 : Int) (i3 : Int) (i4 : Int) (h10 : Heap) (Q : Bool → Heap → Prop) : Prop :=
 ∃ A11 : Addr, p1 = some A11 ∧
 ∃ p13 : Option Addr, cellH B h10 (Addr.add A11 3) = some (.pointer p13) ∧
 C_cell_Row_int_Set B p13 (i2) (i3) (i4) h10 (fun b15 h14 =>
 Fin B h14 (Q (b15)))
def S_feed_Feed_Take (B : RO) (p1 : Option Addr) (i2 : Int) (i3 : Int) (i4 : Int) (h : Heap) (Q : Bool → Heap → Prop) : Prop :=
 C_feed_Feed_Place B p1 (i2) h (fun i7 i8 h6 =>
 C_feed_Feed_is B p1 (i2) h6 (fun b17 h16 =>
 (b17 = true →
 ((i3 : Int) < (i7) →
 Fin B h16 (Q (false))) ∧ (¬ ((i3 : Int) < (i7)) →
 ∃ A18 : Addr, p1 = some A18 ∧
 0 ≤ (i2 : Int) ∧ (i2 : Int) < (3 : Nat) ∧
 ∃ s20 : ByteArray, cellH B h16 (Addr.add A18 (Int.toNat (i2) * 1)) = some (.string s20) ∧
 ((i3 : Int) > ((ByteArray.size s20 : Nat)) →
 Fin B h16 (Q (false))) ∧ (¬ ((i3 : Int) > ((ByteArray.size s20 : Nat))) →
 Fin B h16 (fun h' => S_feed_Feed_Take_J1 B p1 i2 i3 i4 h' Q)))) ∧ (b17 = false →
 Fin B h16 (Q (false)))))
def S_tome_Tome_Get (B : RO) (p1 : Option Addr) (i2 : Int) (h : Heap) (Q : Bool → ByteArray → Int → Heap → Prop) : Prop :=
 ∀ k6 : Nat, h k6 = none → B k6 = none → ∀ h7 : Heap, h7 = Heap.set h k6 (.vec 119 (plains [(.bool false), (.string ByteArray.empty)]) 2) →
 (p1 = none →
 ∃ h9 : Heap, StoresAt ⟨k6, 0, none⟩ h7 0 [(.bool false), (.string ByteArray.empty)] h9 ∧
 ∃ b10 : Bool, ∃ s11 : ByteArray, CellsAt B h9 ⟨k6, 0, none⟩ 0 [(.bool b10), (.string s11)] ∧ Fin B h9 (Q (b10) s11 (0))) ∧ (¬ (p1 = none) →
 ∃ A12 : Addr, p1 = some A12 ∧
 ∃ p14 : Option Addr, cellH B h7 A12 = some (.pointer p14) ∧
 C_cell_Row_file_File_Get B p14 (i2) h7 (fun b16 s17 i18 h15 =>
 ∃ h19 : Heap, StoresAt ⟨k6, 0, none⟩ h15 0 [(.bool b16), (.string s17)] h19 ∧
 ∃ b20 : Bool, ∃ s21 : ByteArray, CellsAt B h19 ⟨k6, 0, none⟩ 0 [(.bool b20), (.string s21)] ∧ Fin B h19 (Q (b20) s21 (i18))))
def S_feed_Feed_Text (B : RO) (p1 : Option Addr) (i2 : Int) (h : Heap) (Q : ByteArray → Heap → Prop) : Prop :=
 C_feed_Feed_is B p1 (i2) h (fun b5 h4 =>
 (b5 = true →
 ∃ A6 : Addr, p1 = some A6 ∧
 0 ≤ (i2 : Int) ∧ (i2 : Int) < (3 : Nat) ∧
 ∃ s8 : ByteArray, cellH B h4 (Addr.add A6 (Int.toNat (i2) * 1)) = some (.string s8) ∧
 Fin B h4 (Q s8)) ∧ (b5 = false →
 Fin B h4 (Q (ByteArray.mk #[]))))
def S_attempt_Attempt_Read (B : RO) (p1 : Option Addr) (i2 : Int) (i3 : Int) (h : Heap) (Q : Int → Int → Heap → Prop) : Prop :=
 C_attempt_Attempt_touch B p1 (i2) h (fun b7 s8 i9 h6 =>
 ∀ k10 : Nat, h6 k10 = none → B k10 = none → ∀ h11 : Heap, h11 = Heap.set h6 k10 (.vec 119 (plains [(.bool false), (.string ByteArray.empty)]) 2) →
 ∃ h12 : Heap, StoresAt ⟨k10, 0, none⟩ h11 0 [(.bool b7), (.string s8)] h12 ∧
 ((i9 : Int) = 0 →
 ∃ b13 : Bool, ∃ s14 : ByteArray, CellsAt B h12 ⟨k10, 0, none⟩ 0 [(.bool b13), (.string s14)] ∧
 C_file_At B (b13) s14 (i3) h12 (fun i16 h15 =>
 Fin B h15 (Q (i16) (0)))) ∧ (¬ ((i9 : Int) = 0) →
 Fin B h12 (Q (0) (i9))))
def S_attempt_Attempt_Write (B : RO) (p1 : Option Addr) (i2 : Int) (i3 : Int) (i4 : Int) (h : Heap) (Q : Int → Heap → Prop) : Prop :=
 C_attempt_Attempt_touch B p1 (i2) h (fun b7 s8 i9 h6 =>
 ∀ k10 : Nat, h6 k10 = none → B k10 = none → ∀ h11 : Heap, h11 = Heap.set h6 k10 (.vec 119 (plains [(.bool false), (.string ByteArray.empty)]) 2) →
 ∃ h12 : Heap, StoresAt ⟨k10, 0, none⟩ h11 0 [(.bool b7), (.string s8)] h12 ∧
 ((i9 : Int) = 0 →
 ∃ A13 : Addr, p1 = some A13 ∧
 ∃ p15 : Option Addr, cellH B h12 (Addr.add (Addr.add A13 2) 1) = some (.pointer p15) ∧
 ∃ A16 : Addr, p1 = some A16 ∧
 ∃ p18 : Option Addr, cellH B h12 A16 = some (.pointer p18) ∧
 ∃ A19 : Addr, p18 = some A19 ∧
 ∃ p21 : Option Addr, cellH B h12 (Addr.add A19 1) = some (.pointer p21) ∧
 C_sheet_Sheet_Write B p15 p21 (i2) (i3) (i4) h12 (fun b23 h22 =>
 Fin B h22 (Q (i9)))) ∧ (¬ ((i9 : Int) = 0) →
 Fin B h12 (Q (i9))))
def S_attempt_Attempt_Create (B : RO) (p1 : Option Addr) (i2 : Int) (h : Heap) (Q : Int → Heap → Prop) : Prop :=
 C_attempt_Attempt_touch B p1 (i2) h (fun b5 s6 i7 h4 =>
 ∀ k8 : Nat, h4 k8 = none → B k8 = none → ∀ h9 : Heap, h9 = Heap.set h4 k8 (.vec 119 (plains [(.bool false), (.string ByteArray.empty)]) 2) →
 ∃ h10 : Heap, StoresAt ⟨k8, 0, none⟩ h9 0 [(.bool b5), (.string s6)] h10 ∧
 ((i7 : Int) = 0 →
 ∃ A11 : Addr, p1 = some A11 ∧
 ∃ p13 : Option Addr, cellH B h10 (Addr.add (Addr.add A11 2) 1) = some (.pointer p13) ∧
 ∃ A14 : Addr, p1 = some A14 ∧
 ∃ p16 : Option Addr, cellH B h10 A14 = some (.pointer p16) ∧
 ∃ A17 : Addr, p16 = some A17 ∧
 ∃ p19 : Option Addr, cellH B h10 (Addr.add A17 1) = some (.pointer p19) ∧
 C_sheet_Sheet_Create B p13 p19 (i2) h10 (fun b21 h20 =>
 Fin B h20 (Q (i7)))) ∧ (¬ ((i7 : Int) = 0) →
 Fin B h10 (Q (i7))))
def S_attempt_Attempt_Remove (B : RO) (p1 : Option Addr) (i2 : Int) (h : Heap) (Q : Int → Heap → Prop) : Prop :=
 C_attempt_Attempt_touch B p1 (i2) h (fun b5 s6 i7 h4 =>
 ∀ k8 : Nat, h4 k8 = none → B k8 = none → ∀ h9 : Heap, h9 = Heap.set h4 k8 (.vec 119 (plains [(.bool false), (.string ByteArray.empty)]) 2) →
 ∃ h10 : Heap, StoresAt ⟨k8, 0, none⟩ h9 0 [(.bool b5), (.string s6)] h10 ∧
 ((i7 : Int) = 0 →
 ∃ A11 : Addr, p1 = some A11 ∧
 ∃ p13 : Option Addr, cellH B h10 (Addr.add (Addr.add A11 2) 1) = some (.pointer p13) ∧
 ∃ A14 : Addr, p1 = some A14 ∧
 ∃ p16 : Option Addr, cellH B h10 A14 = some (.pointer p16) ∧
 ∃ A17 : Addr, p16 = some A17 ∧
 ∃ p19 : Option Addr, cellH B h10 (Addr.add A17 1) = some (.pointer p19) ∧
 C_sheet_Sheet_Remove B p13 p19 (i2) h10 (fun b21 h20 =>
 Fin B h20 (Q (i7)))) ∧ (¬ ((i7 : Int) = 0) →
 Fin B h10 (Q (i7))))
def S_attempt_Attempt_Rename_J2 (B : RO) (p1 : Option Addr) (i2 : Int) (i3 : Int) (i15 : Int) (h16 : Heap) (Q : Int → Heap → Prop) : Prop :=
 ((i15 : Int) = 0 →
 ∃ A17 : Addr, p1 = some A17 ∧
 ∃ p19 : Option Addr, cellH B h16 (Addr.add (Addr.add A17 2) 1) = some (.pointer p19) ∧
 ∃ A20 : Addr, p1 = some A20 ∧
 ∃ p22 : Option Addr, cellH B h16 A20 = some (.pointer p22) ∧
 ∃ A23 : Addr, p22 = some A23 ∧
 ∃ p25 : Option Addr, cellH B h16 (Addr.add A23 1) = some (.pointer p25) ∧
 C_sheet_Sheet_Rename B p19 p25 (i2) (i3) h16 (fun b27 h26 =>
 Fin B h26 (Q (i15)))) ∧ (¬ ((i15 : Int) = 0) →
 Fin B h16 (Q (i15)))
def S_attempt_Attempt_Rename_J1 (B : RO) (p1 : Option Addr) (i2 : Int) (i3 : Int) (h6 : Heap) (Q : Int → Heap → Prop) : Prop :=
 C_attempt_Attempt_touch B p1 (i2) h6 (fun b8 s9 i10 h7 =>
 ∀ k11 : Nat, h7 k11 = none → B k11 = none → ∀ h12 : Heap, h12 = Heap.set h7 k11 (.vec 119 (plains [(.bool false), (.string ByteArray.empty)]) 2) →
 ∃ h13 : Heap, StoresAt ⟨k11, 0, none⟩ h12 0 [(.bool b8), (.string s9)] h13 ∧
 ((i10 : Int) = 0 →
 C_attempt_Attempt_touch B p1 (i3) h13 (fun b29 s30 i31 h28 =>
 Fin B h28 (fun h' => S_attempt_Attempt_Rename_J2 B p1 i2 i3 (i31) h' Q))) ∧ (¬ ((i10 : Int) = 0) →
 Fin B h13 (fun h' => S_attempt_Attempt_Rename_J2 B p1 i2 i3 (i10) h' Q)))
def S_attempt_Attempt_Rename (B : RO) (p1 : Option Addr) (i2 : Int) (i3 : Int) (h : Heap) (Q : Int → Heap → Prop) : Prop :=
 (p1 = none →
 Fin B h (fun h' => S_attempt_Attempt_Rename_J1 B p1 i2 i3 h' Q)) ∧ (¬ (p1 = none) →
 ((i3 : Int) < (0) →
 Fin B h (Q (1))) ∧ (¬ ((i3 : Int) < (0)) →
 ((i3 : Int) ≥ (6) →
 Fin B h (Q (1))) ∧ (¬ ((i3 : Int) ≥ (6)) →
 Fin B h (fun h' => S_attempt_Attempt_Rename_J1 B p1 i2 i3 h' Q))))
def S_attempt_Attempt_Cut (B : RO) (p1 : Option Addr) (i2 : Int) (i3 : Int) (h : Heap) (Q : Int → Heap → Prop) : Prop :=
 C_attempt_Attempt_touch B p1 (i2) h (fun b6 s7 i8 h5 =>
 ∀ k9 : Nat, h5 k9 = none → B k9 = none → ∀ h10 : Heap, h10 = Heap.set h5 k9 (.vec 119 (plains [(.bool false), (.string ByteArray.empty)]) 2) →
 ∃ h11 : Heap, StoresAt ⟨k9, 0, none⟩ h10 0 [(.bool b6), (.string s7)] h11 ∧
 ((i8 : Int) = 0 →
 ∃ A12 : Addr, p1 = some A12 ∧
 ∃ p14 : Option Addr, cellH B h11 (Addr.add (Addr.add A12 2) 1) = some (.pointer p14) ∧
 ∃ A15 : Addr, p1 = some A15 ∧
 ∃ p17 : Option Addr, cellH B h11 A15 = some (.pointer p17) ∧
 ∃ A18 : Addr, p17 = some A18 ∧
 ∃ p20 : Option Addr, cellH B h11 (Addr.add A18 1) = some (.pointer p20) ∧
 C_sheet_Sheet_Cut B p14 p20 (i2) (i3) h11 (fun b22 h21 =>
 Fin B h21 (Q (i8)))) ∧ (¬ ((i8 : Int) = 0) →
 Fin B h11 (Q (i8))))
def S_attempt_Attempt_Recv_J1 (B : RO) (p1 : Option Addr) (i2 : Int) (h6 : Heap) (Q : Int → Int → Heap → Prop) : Prop :=
 C_attempt_Attempt_note B p1 (2) (i2) h6 (fun i8 h7 =>
 ((i8 : Int) = 0 →
 ∃ A9 : Addr, p1 = some A9 ∧
 ∃ p11 : Option Addr, cellH B h7 A9 = some (.pointer p11) ∧
 ∃ A12 : Addr, p11 = some A12 ∧
 ∃ p14 : Option Addr, cellH B h7 (Addr.add A12 2) = some (.pointer p14) ∧
 C_feed_Feed_Place B p14 (i2) h7 (fun i16 i17 h15 =>
 ∃ A19 : Addr, p1 = some A19 ∧
 ∃ p23 : Option Addr, cellH B h15 A19 = some (.pointer p23) ∧
 ∃ A25 : Addr, p23 = some A25 ∧
 ∃ p29 : Option Addr, cellH B h15 (Addr.add A25 2) = some (.pointer p29) ∧
 ∃ A33 : Addr, p1 = some A33 ∧
 ∃ p38 : Option Addr, cellH B h15 (Addr.add (Addr.add A33 2) 2) = some (.pointer p38) ∧
 C_cursor_Cursor_At B p38 (i2) (i16) h15 (fun i43 h42 =>
 cellH B h42 A19 = some (.pointer p23) ∧ cellH B h42 (Addr.add A25 2) = some (.pointer p29) ∧ cellH B h42 (Addr.add (Addr.add A33 2) 2) = some (.pointer p38) ∧
 C_feed_Feed_At B p29 (i2) (i43) h42 (fun i48 h47 =>
 cellH B h47 A19 = some (.pointer p23) ∧ cellH B h47 (Addr.add A25 2) = some (.pointer p29) ∧ cellH B h47 (Addr.add (Addr.add A33 2) 2) = some (.pointer p38) ∧
 ((i48 : Int) < (0) →
 Fin B h47 (Q (0) (10))) ∧ (¬ ((i48 : Int) < (0)) →
 ∃ A52 : Addr, p1 = some A52 ∧
 ∃ p54 : Option Addr, cellH B h47 (Addr.add (Addr.add A52 2) 2) = some (.pointer p54) ∧
 C_cursor_Cursor_Step B p54 (i2) h47 (fun b56 h55 =>
 Fin B h55 (Q (i48) (0)))))))) ∧ (¬ ((i8 : Int) = 0) →
 Fin B h7 (Q (0) (i8))))
def S_attempt_Attempt_Recv (B : RO) (p1 : Option Addr) (i2 : Int) (h : Heap) (Q : Int → Int → Heap → Prop) : Prop :=
 (p1 = none →
 Fin B h (Q (0) (2))) ∧ (¬ (p1 = none) →
 ((i2 : Int) < (0) →
 Fin B h (Q (0) (1))) ∧ (¬ ((i2 : Int) < (0)) →
 ((i2 : Int) ≥ (3) →
 Fin B h (Q (0) (1))) ∧ (¬ ((i2 : Int) ≥ (3)) →
 Fin B h (fun h' => S_attempt_Attempt_Recv_J1 B p1 i2 h' Q))))
def S_feed_Feed_is (B : RO) (p1 : Option Addr) (i2 : Int) (h : Heap) (Q : Bool → Heap → Prop) : Prop :=
 (p1 = none →
 Fin B h (Q (false))) ∧ (¬ (p1 = none) →
 ((i2 : Int) ≥ (0) →
 Fin B h (Q ((decide ((i2 : Int) < (3)))))) ∧ (¬ ((i2 : Int) ≥ (0)) →
 Fin B h (Q (false))))
def S_countermandref09_At (B : RO) (b1 : Bool) (s2 : ByteArray) (i3 : Int) (h : Heap) (Q : Int → Heap → Prop) : Prop :=
 ∀ k5 : Nat, h k5 = none → B k5 = none → ∀ h6 : Heap, h6 = Heap.set h k5 (.vec 51 (plains [(.bool b1), (.string s2)]) 2) →
 ∃ (J12 : Int → Nat → Heap → Prop) (m10 : Nat), Fin B h6 (J12 (0) m10) ∧
 ∀ (i7 : Int) (m9 : Nat) (h8 : Heap), J12 i7 m9 h8 →
 ∃ s13 : ByteArray, cellH B h8 ⟨k5, 1, none⟩ = some (.string s13) ∧
 ((i7 : Int) < ((ByteArray.size s13 : Nat)) →
 ((i7 : Int) = i3 →
 ∃ s14 : ByteArray, cellH B h8 ⟨k5, 1, none⟩ = some (.string s14) ∧
 0 ≤ (i7 : Int) ∧ (i7 : Int) < (ByteArray.size s14 : Nat) ∧
 Fin B h8 (Q (IntKind.wrap .i64 (byteAt s14 (Int.toNat (i7)))))) ∧ (¬ ((i7 : Int) = i3) →
 Fin B h8 (fun h' => ∃ m', m' < m9 ∧ J12 (IntKind.wrap .i64 ((i7) + (1))) m' h'))) ∧ (¬ ((i7 : Int) < ((ByteArray.size s13 : Nat))) →
 Fin B h8 (Q ((-1))))
def S_countermandref14_Sheet_Write (B : RO) (p1 : Option Addr) (i2 : Int) (i3 : Int) (i4 : Int) (h : Heap) (Q : Bool → Heap → Prop) : Prop :=
 C_countermandref14_Is B (i2) h (fun b7 h6 =>
 (b7 = true →
 ∃ A10 : Addr, p1 = some A10 ∧
 0 ≤ (i2 : Int) ∧ (i2 : Int) < (6 : Nat) ∧
 ∃ b12 : Bool, ∃ s13 : ByteArray, CellsAt B h6 (Addr.add (Addr.add A10 12) (Int.toNat (i2) * 2)) 0 [(.bool b12), (.string s13)] ∧
 C_countermandref09_Put B (b12) s13 (i3) (i4) h6 (fun b15 s16 h14 =>
 C_countermandref14_Sheet_put B p1 (i2) (b15) s16 h14 (fun h17 =>
 C_countermandref14_Is B (i2) h17 (fun b19 h18 =>
 Fin B h18 (Q (b19)))))) ∧ (b7 = false →
 C_countermandref14_Is B (i2) h6 (fun b9 h8 =>
 Fin B h8 (Q (b9)))))
def S_countermandref14_Sheet_Create (B : RO) (p1 : Option Addr) (i2 : Int) (h : Heap) (Q : Bool → Heap → Prop) : Prop :=
 C_countermandref14_Is B (i2) h (fun b5 h4 =>
 (b5 = true →
 ∃ A8 : Addr, p1 = some A8 ∧
 0 ≤ (i2 : Int) ∧ (i2 : Int) < (6 : Nat) ∧
 ∃ s10 : ByteArray, cellH B h4 (Addr.add (Addr.add (Addr.add A8 12) (Int.toNat (i2) * 2)) 1) = some (.string s10) ∧
 C_countermandref14_Sheet_put B p1 (i2) (true) s10 h4 (fun h11 =>
 C_countermandref14_Is B (i2) h11 (fun b13 h12 =>
 Fin B h12 (Q (b13))))) ∧ (b5 = false →
 C_countermandref14_Is B (i2) h4 (fun b7 h6 =>
 Fin B h6 (Q (b7)))))
def S_countermandref14_Sheet_Remove (B : RO) (p1 : Option Addr) (i2 : Int) (h : Heap) (Q : Bool → Heap → Prop) : Prop :=
 C_countermandref14_Is B (i2) h (fun b5 h4 =>
 (b5 = true →
 C_countermandref14_Sheet_put B p1 (i2) (false) ByteArray.empty h4 (fun h8 =>
 C_countermandref14_Is B (i2) h8 (fun b10 h9 =>
 Fin B h9 (Q (b10))))) ∧ (b5 = false →
 C_countermandref14_Is B (i2) h4 (fun b7 h6 =>
 Fin B h6 (Q (b7)))))
def S_countermandref14_Sheet_Rename_J2 (B : RO) (p1 : Option Addr) (i2 : Int) (i3 : Int) (b8 : Bool) (h9 : Heap) (Q : Bool → Heap → Prop) : Prop :=
 (b8 = true →
 ∃ A10 : Addr, p1 = some A10 ∧
 0 ≤ (i2 : Int) ∧ (i2 : Int) < (6 : Nat) ∧
 ∃ b12 : Bool, ∃ s13 : ByteArray, CellsAt B h9 (Addr.add (Addr.add A10 12) (Int.toNat (i2) * 2)) 0 [(.bool b12), (.string s13)] ∧
 C_countermandref14_Sheet_put B p1 (i3) (b12) s13 h9 (fun h14 =>
 C_countermandref14_Sheet_put B p1 (i2) (false) ByteArray.empty h14 (fun h15 =>
 Fin B h15 (Q (true))))) ∧ (b8 = false →
 Fin B h9 (Q (true)))
def S_countermandref14_Sheet_Rename_J1 (B : RO) (p1 : Option Addr) (i2 : Int) (i3 : Int) (h6 : Heap) (Q : Bool → Heap → Prop) : Prop :=
 ∃ A16 : Addr, p1 = some A16 ∧
 0 ≤ (i2 : Int) ∧ (i2 : Int) < (6 : Nat) ∧
 ∃ b18 : Bool, cellH B h6 (Addr.add (Addr.add A16 12) (Int.toNat (i2) * 2)) = some (.bool b18) ∧ (b18 = true →
 ((i2 : Int) = i3 →
 Fin B h6 (fun h' => S_countermandref14_Sheet_Rename_J2 B p1 i2 i3 (false) h' Q)) ∧ (¬ ((i2 : Int) = i3) →
 Fin B h6 (fun h' => S_countermandref14_Sheet_Rename_J2 B p1 i2 i3 (true) h' Q))) ∧ (b18 = false →
 Fin B h6 (fun h' => S_countermandref14_Sheet_Rename_J2 B p1 i2 i3 (false) h' Q))
def S_countermandref14_Sheet_Rename (B : RO) (p1 : Option Addr) (i2 : Int) (i3 : Int) (h : Heap) (Q : Bool → Heap → Prop) : Prop :=
 C_countermandref14_Is B (i2) h (fun b20 h19 =>
 (b20 = true →
 C_countermandref14_Is B (i3) h19 (fun b22 h21 =>
 (b22 = true →
 Fin B h21 (fun h' => S_countermandref14_Sheet_Rename_J1 B p1 i2 i3 h' Q)) ∧ (b22 = false →
 Fin B h21 (Q (false))))) ∧ (b20 = false →
 Fin B h19 (Q (false))))
def S_countermandref14_Sheet_Cut (B : RO) (p1 : Option Addr) (i2 : Int) (i3 : Int) (h : Heap) (Q : Bool → Heap → Prop) : Prop :=
 C_countermandref14_Is B (i2) h (fun b6 h5 =>
 (b6 = true →
 ∃ A9 : Addr, p1 = some A9 ∧
 0 ≤ (i2 : Int) ∧ (i2 : Int) < (6 : Nat) ∧
 ∃ b11 : Bool, ∃ s12 : ByteArray, CellsAt B h5 (Addr.add (Addr.add A9 12) (Int.toNat (i2) * 2)) 0 [(.bool b11), (.string s12)] ∧
 C_countermandref09_Cut B (b11) s12 (i3) h5 (fun b14 s15 h13 =>
 C_countermandref14_Sheet_put B p1 (i2) (b14) s15 h13 (fun h16 =>
 C_countermandref14_Is B (i2) h16 (fun b18 h17 =>
 Fin B h17 (Q (b18)))))) ∧ (b6 = false →
 C_countermandref14_Is B (i2) h5 (fun b8 h7 =>
 Fin B h7 (Q (b8)))))
def S_cell_Row_int_Version (B : RO) (p1 : Option Addr) (i2 : Int) (h : Heap) (Q : Int → Heap → Prop) : Prop :=
 C_cell_Row_int_Get B p1 (i2) h (fun i5 i6 h4 =>
 Fin B h4 (Q (i6)))
def S_draft_Draft_int_Put (B : RO) (p1 : Option Addr) (i2 : Int) (i3 : Int) (h : Heap) (Q : Bool → Heap → Prop) : Prop :=
 (p1 = none →
 Fin B h (Q (false))) ∧ (¬ (p1 = none) →
 C_draft_Draft_int_find B p1 (i2) h (fun i7 b8 h6 =>
 (b8 = true →
 ∃ A24 : Addr, p1 = some A24 ∧
 LdSl B h6 A24 fun a26 n27 c28 h29 =>
 ∃ A30 : Addr, a26 = some A30 ∧ 0 ≤ (i7 : Int) ∧ (i7 : Int) < (n27 : Nat) ∧
 ∃ h32 : Heap, storeH h29 (Addr.add (Addr.add A30 (Int.toNat (i7) * 2)) 1) (.int .i64 (i3)) = some h32 ∧
 Fin B h32 (Q (true))) ∧ (b8 = false →
 ∃ A9 : Addr, p1 = some A9 ∧
 LdSl B h6 A9 fun a11 n12 c13 h14 =>
 ∀ k15 : Nat, h14 k15 = none → B k15 = none → ∀ h16 : Heap, h16 = Heap.set h14 k15 (.vec 163 (plains [(.int .i64 (i2)), (.int .i64 (i3))]) 2) →
 C_slices_Insert_s_draft_entry_int_draft_entry_int B a11 n12 c13 (i7) (some ⟨k15, 0, none⟩) 1 1 h16 (fun a18 n19 c20 h17 =>
 ∃ A21 : Addr, p1 = some A21 ∧
 ∃ h23 : Heap, storeH h17 A21 (.slice a18 n19 c20) = some h23 ∧
 Fin B h23 (Q (true))))))
def S_cell_New_int (B : RO) (i1 : Int) (i2 : Int) (h : Heap) (Q : Option Addr → Heap → Prop) : Prop :=
 ∀ k4 : Nat, h k4 = none → B k4 = none → ∀ h5 : Heap, h5 = Heap.set h k4 (.vec 172 (plains [(.slice none 0 0)]) 1) →
 ∃ (J11 : Int → Nat → Heap → Prop) (m9 : Nat), Fin B h5 (J11 (0) m9) ∧
 ∀ (i6 : Int) (m8 : Nat) (h7 : Heap), J11 i6 m8 h7 →
 ((i6 : Int) < (i1) →
 LdSl B h7 ⟨k4, 0, none⟩ fun a12 n13 c14 h15 =>
 ∀ k16 : Nat, h15 k16 = none → B k16 = none → ∀ h17 : Heap, h17 = Heap.set h15 k16 (.vec 169 (plains [(.int .i64 (i2)), (.int .i64 (0))]) 2) →
 semH PG B (Builtin.append_ #[170, 170] 170 #[(.slice a12 n13 c14), (.slice (some ⟨k16, 0, none⟩) 1 1)]) h17 (fun v h18 => ∃ a19 : Option Addr, ∃ n20 : Nat, ∃ c21 : Nat, v = (.slice a19 n20 c21) ∧
 ∃ h22 : Heap, storeH h18 ⟨k4, 0, none⟩ (.slice a19 n20 c21) = some h22 ∧
 Fin B h22 (fun h' => ∃ m', m' < m8 ∧ J11 (IntKind.wrap .i64 ((i6) + (1))) m' h'))) ∧ (¬ ((i6 : Int) < (i1)) →
 Fin B h7 (Q (some ⟨k4, 0, none⟩)))
def S_tome_New (B : RO) (h : Heap) (Q : Option Addr → Heap → Prop) : Prop :=
 C_cell_New_file_File B (6) (false) ByteArray.empty h (fun p3 h2 =>
 ∀ k4 : Nat, h2 k4 = none → B k4 = none → ∀ h5 : Heap, h5 = Heap.set h2 k4 (.vec 184 (plains [(.pointer p3)]) 1) →
 Fin B h5 (Q (some ⟨k4, 0, none⟩)))
def S_feed_New (B : RO) (h : Heap) (Q : Option Addr → Heap → Prop) : Prop :=
 C_cell_New_int B (3) (0) h (fun p3 h2 =>
 ∀ k4 : Nat, h2 k4 = none → B k4 = none → ∀ h5 : Heap, h5 = Heap.set h2 k4 (.vec 128 (plains [(.string ByteArray.empty), (.string ByteArray.empty), (.string ByteArray.empty), (.pointer p3)]) 4) →
 Fin B h5 (Q (some ⟨k4, 0, none⟩)))
def S_reads_New (B : RO) (i1 : Int) (h : Heap) (Q : Option Addr → Heap → Prop) : Prop :=
 ∀ k3 : Nat, h k3 = none → B k3 = none → ∀ h4 : Heap, h4 = Heap.set h k3 (.vec 137 (plains [(.slice none 0 0), (.int .i64 (i1))]) 2) →
 Fin B h4 (Q (some ⟨k3, 0, none⟩))
def S_mark_Fresh_J1 (B : RO) (k12 : Nat) (k14 : Nat) (i18 : Int) (i19 : Int) (i20 : Int) (i21 : Int) (A69 : Addr) (p70 : Option Addr) (A71 : Addr) (h72 : Heap) (Q : Option Addr → Option Addr → Option Addr → Int → Int → Int → Int → Heap → Prop) : Prop :=
 ∃ h74 : Heap, StoresAt ⟨k14, 0, none⟩ h72 0 [(.pointer (some A69)), (.pointer p70), (.pointer (some A71)), (.int .i64 (i18)), (.int .i64 (i19)), (.int .i64 (i20)), (.int .i64 (i21))] h74 ∧
 ∃ p75 : Option Addr, ∃ p76 : Option Addr, ∃ p77 : Option Addr, ∃ i78 : Int, ∃ i79 : Int, ∃ i80 : Int, ∃ i81 : Int, CellsAt B h74 ⟨k14, 0, none⟩ 0 [(.pointer p75), (.pointer p76), (.pointer p77), (.int .i64 (i78)), (.int .i64 (i79)), (.int .i64 (i80)), (.int .i64 (i81))] ∧ Fin B h74 (Q p75 p76 p77 (i78) (i79) (i80) (i81))
def S_mark_Fresh (B : RO) (i1 : Int) (i2 : Int) (i3 : Int) (i4 : Int) (h : Heap) (Q : Option Addr → Option Addr → Option Addr → Int → Int → Int → Int → Heap → Prop) : Prop :=
 ∀ k12 : Nat, h k12 = none → B k12 = none → ∀ h13 : Heap, h13 = Heap.set h k12 (.vec 26 (plains [(.int .i64 (i1)), (.int .i64 (i2)), (.int .i64 (i3)), (.int .i64 (i4))]) 4) →
 ∀ k14 : Nat, h13 k14 = none → B k14 = none → ∀ h15 : Heap, h15 = Heap.set h13 k14 (.vec 95 (plains [(.pointer none), (.pointer none), (.pointer none), (.int .i64 (0)), (.int .i64 (0)), (.int .i64 (0)), (.int .i64 (0))]) 7) →
 ∃ i18 : Int, ∃ i19 : Int, ∃ i20 : Int, ∃ i21 : Int, CellsAt B h15 ⟨k12, 0, none⟩ 0 [(.int .i64 (i18)), (.int .i64 (i19)), (.int .i64 (i20)), (.int .i64 (i21))] ∧
 (∀ k82 : Nat, h15 k82 = none → B k82 = none → ∀ h83 : Heap, h83 = Heap.set h15 k82 (.vec 166 (plains [(.slice none 0 0)]) 1) →
 CellsAt B h83 ⟨k12, 0, none⟩ 0 [(.int .i64 (i18)), (.int .i64 (i19)), (.int .i64 (i20)), (.int .i64 (i21))] ∧
 (C_sheet_New B h83 (fun p86 h85 =>
 CellsAt B h85 ⟨k12, 0, none⟩ 0 [(.int .i64 (i18)), (.int .i64 (i19)), (.int .i64 (i20)), (.int .i64 (i21))] ∧
 ∀ k88 : Nat, h85 k88 = none → B k88 = none → ∀ h89 : Heap, h89 = Heap.set h85 k88 (.vec 181 (plains [(.int .i64 (0)), (.int .i64 (0)), (.int .i64 (0))]) 3) →
 CellsAt B h89 ⟨k12, 0, none⟩ 0 [(.int .i64 (i18)), (.int .i64 (i19)), (.int .i64 (i20)), (.int .i64 (i21))] ∧
 S_mark_Fresh_J1 B k12 k14 i18 i19 i20 i21 ⟨k82, 0, none⟩ p86 ⟨k88, 0, none⟩ h89 Q)) ∧
 (∀ k91 : Nat, h83 k91 = none → B k91 = none → ∀ h92 : Heap, h92 = Heap.set h83 k91 (.vec 181 (plains [(.int .i64 (0)), (.int .i64 (0)), (.int .i64 (0))]) 3) →
 CellsAt B h92 ⟨k12, 0, none⟩ 0 [(.int .i64 (i18)), (.int .i64 (i19)), (.int .i64 (i20)), (.int .i64 (i21))] ∧
 C_sheet_New B h92 (fun p95 h94 =>
 CellsAt B h94 ⟨k12, 0, none⟩ 0 [(.int .i64 (i18)), (.int .i64 (i19)), (.int .i64 (i20)), (.int .i64 (i21))] ∧
 S_mark_Fresh_J1 B k12 k14 i18 i19 i20 i21 ⟨k82, 0, none⟩ p95 ⟨k91, 0, none⟩ h94 Q))) ∧
 (C_sheet_New B h15 (fun p98 h97 =>
 CellsAt B h97 ⟨k12, 0, none⟩ 0 [(.int .i64 (i18)), (.int .i64 (i19)), (.int .i64 (i20)), (.int .i64 (i21))] ∧
 (∀ k100 : Nat, h97 k100 = none → B k100 = none → ∀ h101 : Heap, h101 = Heap.set h97 k100 (.vec 166 (plains [(.slice none 0 0)]) 1) →
 CellsAt B h101 ⟨k12, 0, none⟩ 0 [(.int .i64 (i18)), (.int .i64 (i19)), (.int .i64 (i20)), (.int .i64 (i21))] ∧
 ∀ k103 : Nat, h101 k103 = none → B k103 = none → ∀ h104 : Heap, h104 = Heap.set h101 k103 (.vec 181 (plains [(.int .i64 (0)), (.int .i64 (0)), (.int .i64 (0))]) 3) →
 CellsAt B h104 ⟨k12, 0, none⟩ 0 [(.int .i64 (i18)), (.int .i64 (i19)), (.int .i64 (i20)), (.int .i64 (i21))] ∧
 S_mark_Fresh_J1 B k12 k14 i18 i19 i20 i21 ⟨k100, 0, none⟩ p98 ⟨k103, 0, none⟩ h104 Q) ∧
 (∀ k106 : Nat, h97 k106 = none → B k106 = none → ∀ h107 : Heap, h107 = Heap.set h97 k106 (.vec 181 (plains [(.int .i64 (0)), (.int .i64 (0)), (.int .i64 (0))]) 3) →
 CellsAt B h107 ⟨k12, 0, none⟩ 0 [(.int .i64 (i18)), (.int .i64 (i19)), (.int .i64 (i20)), (.int .i64 (i21))] ∧
 ∀ k109 : Nat, h107 k109 = none → B k109 = none → ∀ h110 : Heap, h110 = Heap.set h107 k109 (.vec 166 (plains [(.slice none 0 0)]) 1) →
 CellsAt B h110 ⟨k12, 0, none⟩ 0 [(.int .i64 (i18)), (.int .i64 (i19)), (.int .i64 (i20)), (.int .i64 (i21))] ∧
 S_mark_Fresh_J1 B k12 k14 i18 i19 i20 i21 ⟨k109, 0, none⟩ p98 ⟨k106, 0, none⟩ h110 Q))) ∧
 (∀ k112 : Nat, h15 k112 = none → B k112 = none → ∀ h113 : Heap, h113 = Heap.set h15 k112 (.vec 181 (plains [(.int .i64 (0)), (.int .i64 (0)), (.int .i64 (0))]) 3) →
 CellsAt B h113 ⟨k12, 0, none⟩ 0 [(.int .i64 (i18)), (.int .i64 (i19)), (.int .i64 (i20)), (.int .i64 (i21))] ∧
 (∀ k115 : Nat, h113 k115 = none → B k115 = none → ∀ h116 : Heap, h116 = Heap.set h113 k115 (.vec 166 (plains [(.slice none 0 0)]) 1) →
 CellsAt B h116 ⟨k12, 0, none⟩ 0 [(.int .i64 (i18)), (.int .i64 (i19)), (.int .i64 (i20)), (.int .i64 (i21))] ∧
 C_sheet_New B h116 (fun p119 h118 =>
 CellsAt B h118 ⟨k12, 0, none⟩ 0 [(.int .i64 (i18)), (.int .i64 (i19)), (.int .i64 (i20)), (.int .i64 (i21))] ∧
 S_mark_Fresh_J1 B k12 k14 i18 i19 i20 i21 ⟨k115, 0, none⟩ p119 ⟨k112, 0, none⟩ h118 Q)) ∧
 (C_sheet_New B h113 (fun p122 h121 =>
 CellsAt B h121 ⟨k12, 0, none⟩ 0 [(.int .i64 (i18)), (.int .i64 (i19)), (.int .i64 (i20)), (.int .i64 (i21))] ∧
 ∀ k124 : Nat, h121 k124 = none → B k124 = none → ∀ h125 : Heap, h125 = Heap.set h121 k124 (.vec 166 (plains [(.slice none 0 0)]) 1) →
 CellsAt B h125 ⟨k12, 0, none⟩ 0 [(.int .i64 (i18)), (.int .i64 (i19)), (.int .i64 (i20)), (.int .i64 (i21))] ∧
 S_mark_Fresh_J1 B k12 k14 i18 i19 i20 i21 ⟨k124, 0, none⟩ p122 ⟨k112, 0, none⟩ h125 Q)))
def S_sheet_Sheet_Draft (B : RO) (p1 : Option Addr) (h : Heap) (Q : Option Addr → Heap → Prop) : Prop :=
 (p1 = none →
 Fin B h (Q none)) ∧ (¬ (p1 = none) →
 ∃ A4 : Addr, p1 = some A4 ∧
 ∃ p6 : Option Addr, cellH B h A4 = some (.pointer p6) ∧
 Fin B h (Q p6))
def S_draft_Draft_int_find (B : RO) (p1 : Option Addr) (i2 : Int) (h : Heap) (Q : Int → Bool → Heap → Prop) : Prop :=
 ∃ A5 : Addr, p1 = some A5 ∧
 LdSl B h A5 fun a7 n8 c9 h10 =>
 C_slices_BinarySearchFunc_s_draft_entry_int_draft_entry_int_int B a7 n8 c9 (i2) (Value.func (.func 115) #[] #[]) h10 (fun i12 b13 h11 =>
 Fin B h11 (Q (i12) (b13)))
def S_reads_Set_Note_J1 (B : RO) (p1 : Option Addr) (i3 : Int) (i4 : Int) (i11 : Int) (h24 : Heap) (Q : Bool → Heap → Prop) : Prop :=
 ∃ A25 : Addr, p1 = some A25 ∧
 LdSl B h24 A25 fun a27 n28 c29 h30 =>
 ∀ k31 : Nat, h30 k31 = none → B k31 = none → ∀ h32 : Heap, h32 = Heap.set h30 k31 (.vec 174 (plains [(.int .i64 (i3)), (.int .i64 (i4)), (.int .i64 (i11))]) 3) →
 semH PG B (Builtin.append_ #[135, 135] 135 #[(.slice a27 n28 c29), (.slice (some ⟨k31, 0, none⟩) 1 1)]) h32 (fun v h33 => ∃ a34 : Option Addr, ∃ n35 : Nat, ∃ c36 : Nat, v = (.slice a34 n35 c36) ∧
 ∃ A37 : Addr, p1 = some A37 ∧
 ∃ h39 : Heap, storeH h33 A37 (.slice a34 n35 c36) = some h39 ∧
 Fin B h39 (Q (true)))
def S_reads_Set_Note (B : RO) (p1 : Option Addr) (l2 : List Value) (i3 : Int) (i4 : Int) (h : Heap) (Q : Bool → Heap → Prop) : Prop :=
 ∀ k6 : Nat, h k6 = none → B k6 = none → ∀ h7 : Heap, h7 = Heap.set h k6 (.vec 65 (plains l2) (List.length l2)) →
 (p1 = none →
 Fin B h7 (Q (false))) ∧ (¬ (p1 = none) →
 ∃ l9 : List Value, List.length l9 = 25 ∧ CellsAt B h7 ⟨k6, 0, none⟩ 0 l9 ∧
 C_reads_Now_Of B l9 (i3) (i4) h7 (fun i11 h10 =>
 C_reads_Set_place B p1 (i3) (i4) h10 (fun i13 h12 =>
 ((i13 : Int) ≥ (0) →
 ∃ A14 : Addr, p1 = some A14 ∧
 LdSl B h12 A14 fun a16 n17 c18 h19 =>
 ∃ A20 : Addr, a16 = some A20 ∧ 0 ≤ (i13 : Int) ∧ (i13 : Int) < (n17 : Nat) ∧
 ∃ i22 : Int, cellH B h19 (Addr.add (Addr.add A20 (Int.toNat (i13) * 3)) 2) = some (.int .i64 (i22)) ∧
 Fin B h19 (Q (((i22 : Int) == (i11))))) ∧ (¬ ((i13 : Int) ≥ (0)) →
 ∃ A40 : Addr, p1 = some A40 ∧
 ∃ i42 : Int, cellH B h12 (Addr.add A40 1) = some (.int .i64 (i42)) ∧
 ((i11 : Int) > (i42) →
 ∃ l43 : List Value, List.length l43 = 25 ∧ CellsAt B h12 ⟨k6, 0, none⟩ 0 l43 ∧
 C_reads_Set_Valid B p1 l43 h12 (fun b45 h44 =>
 (b45 = true →
 ∃ i46 : Int, cellH B h44 ⟨k6, 24, none⟩ = some (.int .i64 (i46)) ∧
 ∃ A47 : Addr, p1 = some A47 ∧
 ∃ h49 : Heap, storeH h44 (Addr.add A47 1) (.int .i64 (i46)) = some h49 ∧
 Fin B h49 (fun h' => S_reads_Set_Note_J1 B p1 i3 i4 i11 h' Q)) ∧ (b45 = false →
 Fin B h44 (Q (false))))) ∧ (¬ ((i11 : Int) > (i42)) →
 Fin B h12 (fun h' => S_reads_Set_Note_J1 B p1 i3 i4 i11 h' Q))))))
def S_cell_Row_int_is (B : RO) (p1 : Option Addr) (i2 : Int) (h : Heap) (Q : Bool → Heap → Prop) : Prop :=
 (p1 = none →
 Fin B h (Q (false))) ∧ (¬ (p1 = none) →
 ((i2 : Int) ≥ (0) →
 ∃ A5 : Addr, p1 = some A5 ∧
 LdSl B h A5 fun a7 n8 c9 h10 =>
 Fin B h10 (Q ((decide ((i2 : Int) < ((n8 : Nat))))))) ∧ (¬ ((i2 : Int) ≥ (0)) →
 Fin B h (Q (false))))
def S_reads_Now_Of_J1 (B : RO) (i2 : Int) (i3 : Int) (k5 : Nat) (h8 : Heap) (Q : Int → Heap → Prop) : Prop :=
 0 ≤ (i2 : Int) ∧ (i2 : Int) < (3 : Nat) ∧
 0 ≤ (i3 : Int) ∧ (i3 : Int) < (8 : Nat) ∧
 ∃ i9 : Int, cellH B h8 (Addr.add (Addr.add ⟨k5, 0, none⟩ (Int.toNat (i2) * 8)) (Int.toNat (i3) * 1)) = some (.int .i64 (i9)) ∧
 Fin B h8 (Q (i9))
def S_reads_Now_Of (B : RO) (l1 : List Value) (i2 : Int) (i3 : Int) (h : Heap) (Q : Int → Heap → Prop) : Prop :=
 ∀ k5 : Nat, h k5 = none → B k5 = none → ∀ h6 : Heap, h6 = Heap.set h k5 (.vec 65 (plains l1) (List.length l1)) →
 ((i2 : Int) < (0) →
 Fin B h6 (Q (0))) ∧ (¬ ((i2 : Int) < (0)) →
 ((i2 : Int) > (2) →
 Fin B h6 (Q (0))) ∧ (¬ ((i2 : Int) > (2)) →
 ((i3 : Int) < (0) →
 Fin B h6 (Q (0))) ∧ (¬ ((i3 : Int) < (0)) →
 ((i3 : Int) ≥ (8) →
 Fin B h6 (Q (0))) ∧ (¬ ((i3 : Int) ≥ (8)) →
 Fin B h6 (fun h' => S_reads_Now_Of_J1 B i2 i3 k5 h' Q)))))
def S_draft_Draft_int_All_1 (B : RO) (v1 : Value) (A2 : Addr) (h : Heap) (Q : Heap → Prop) : Prop :=
 ∃ p3 : Option Addr, cellH B h A2 = some (.pointer p3) ∧
 (p3 = none →
 Fin B h (Q)) ∧ (¬ (p3 = none) →
 ∃ p5 : Option Addr, cellH B h A2 = some (.pointer p5) ∧
 ∃ A6 : Addr, p5 = some A6 ∧
 LdSl B h A6 fun a8 n9 c10 h11 =>
 ∃ (J17 : Int → Nat → Heap → Prop) (m15 : Nat), Fin B h11 (J17 (0) m15) ∧
 ∀ (i12 : Int) (m14 : Nat) (h13 : Heap), J17 i12 m14 h13 →
 ((i12 : Int) < ((n9 : Nat)) →
 ∃ A18 : Addr, a8 = some A18 ∧ 0 ≤ (i12 : Int) ∧ (i12 : Int) < (n9 : Nat) ∧
 ∃ i20 : Int, ∃ i21 : Int, CellsAt B h13 (Addr.add A18 (Int.toNat (i12) * 2)) 0 [(.int .i64 (i20)), (.int .i64 (i21))] ∧
 ∀ k22 : Nat, h13 k22 = none → B k22 = none → ∀ h23 : Heap, h23 = Heap.set h13 k22 (.vec 163 (plains [(.int .i64 (0)), (.int .i64 (0))]) 2) →
 ∃ h24 : Heap, StoresAt ⟨k22, 0, none⟩ h23 0 [(.int .i64 (i20)), (.int .i64 (i21))] h24 ∧
 ∃ i25 : Int, cellH B h24 ⟨k22, 0, none⟩ = some (.int .i64 (i25)) ∧
 ∃ i26 : Int, cellH B h24 ⟨k22, 1, none⟩ = some (.int .i64 (i26)) ∧
 CallV PG B v1 [(.int .i64 (i25)), (.int .i64 (i26))] h24 (fun v h27 => ∃ b28 : Bool, v = (.bool b28) ∧
 (b28 = true →
 Fin B h27 (fun h' => ∃ m', m' < m14 ∧ J17 (IntKind.wrap .i64 ((i12) + (1))) m' h')) ∧ (b28 = false →
 Fin B h27 (Q)))) ∧ (¬ ((i12 : Int) < ((n9 : Nat))) →
 Fin B h13 (Q)))
def S_draft_Draft_file_File_All (B : RO) (p1 : Option Addr) (h : Heap) (Q : Value → Heap → Prop) : Prop :=
 ∀ k3 : Nat, h k3 = none → B k3 = none → ∀ h4 : Heap, h4 = Heap.set h k3 (.vec 157 [.plain (.pointer p1)] 1) →
 Fin B h4 (Q (Value.func (.func 117) #[] #[(.pointer (some ⟨k3, 0, none⟩))]))
def S_tome_Tome_Set_J1 (B : RO) (h14 : Heap) (Q : Bool → Heap → Prop) : Prop :=
 Fin B h14 (Q (false))
def S_tome_Tome_Set_J2 (B : RO) (k7 : Nat) (b17 : Bool) (s18 : ByteArray) (h24 : Heap) (Q : Bool → Heap → Prop) : Prop :=
 Fin B h24 (Q (false))
def S_tome_Tome_Set_J3 (B : RO) (i2 : Int) (i5 : Int) (k7 : Nat) (b17 : Bool) (s18 : ByteArray) (p36 : Option Addr) (b37 : Bool) (s38 : ByteArray) (h39 : Heap) (Q : Bool → Heap → Prop) : Prop :=
 C_cell_Row_file_File_Set B p36 (i2) (b37) s38 (i5) h39 (fun b42 h41 =>
 CellsAt B h41 ⟨k7, 0, none⟩ 0 [(.bool b17), (.string s18)] ∧
 Fin B h41 (Q (b42)))
def S_tome_Tome_Set (B : RO) (p1 : Option Addr) (i2 : Int) (b3 : Bool) (s4 : ByteArray) (i5 : Int) (h : Heap) (Q : Bool → Heap → Prop) : Prop :=
 ∀ k7 : Nat, h k7 = none → B k7 = none → ∀ h8 : Heap, h8 = Heap.set h k7 (.vec 119 (plains [(.bool b3), (.string s4)]) 2) →
 (p1 = none →
 (S_tome_Tome_Set_J1 B h8 Q) ∧
 (S_tome_Tome_Set_J1 B h8 Q)) ∧ (¬ (p1 = none) →
 ∃ b17 : Bool, ∃ s18 : ByteArray, CellsAt B h8 ⟨k7, 0, none⟩ 0 [(.bool b17), (.string s18)] ∧
 C_file_Good B (b17) s18 h8 (fun b21 h20 =>
 (b21 = true →
 CellsAt B h20 ⟨k7, 0, none⟩ 0 [(.bool b17), (.string s18)] ∧
 ∃ A27 : Addr, p1 = some A27 ∧
 (∃ p44 : Option Addr, cellH B h20 A27 = some (.pointer p44) ∧
 ∃ b45 : Bool, ∃ s46 : ByteArray, CellsAt B h20 ⟨k7, 0, none⟩ 0 [(.bool b45), (.string s46)] ∧
 S_tome_Tome_Set_J3 B i2 i5 k7 b17 s18 p44 (b45) s46 h20 Q) ∧
 (∃ b47 : Bool, ∃ s48 : ByteArray, CellsAt B h20 ⟨k7, 0, none⟩ 0 [(.bool b47), (.string s48)] ∧
 ∃ p49 : Option Addr, cellH B h20 A27 = some (.pointer p49) ∧
 S_tome_Tome_Set_J3 B i2 i5 k7 b17 s18 p49 (b47) s48 h20 Q)) ∧ (b21 = false →
 CellsAt B h20 ⟨k7, 0, none⟩ 0 [(.bool b17), (.string s18)] ∧
 (S_tome_Tome_Set_J2 B k7 b17 s18 h20 Q) ∧
 (S_tome_Tome_Set_J2 B k7 b17 s18 h20 Q))))
def S_cursor_is (B : RO) (i1 : Int) (h : Heap) (Q : Bool → Heap → Prop) : Prop :=
 ((i1 : Int) ≥ (0) →
 Fin B h (Q ((decide ((i1 : Int) < (3)))))) ∧ (¬ ((i1 : Int) ≥ (0)) →
 Fin B h (Q (false)))
def S_cell_Row_file_File_Get (B : RO) (p1 : Option Addr) (i2 : Int) (h : Heap) (Q : Bool → ByteArray → Int → Heap → Prop) : Prop :=
 ∀ k6 : Nat, h k6 = none → B k6 = none → ∀ h7 : Heap, h7 = Heap.set h k6 (.vec 119 (plains [(.bool false), (.string ByteArray.empty)]) 2) →
 C_cell_Row_file_File_is B p1 (i2) h7 (fun b9 h8 =>
 (b9 = true →
 ∃ A18 : Addr, p1 = some A18 ∧
 ∃ a22 : Option Addr, ∃ n23 : Nat, ∃ c24 : Nat, cellH B h8 A18 = some (.slice a22 n23 c24) ∧
 ∃ A27 : Addr, a22 = some A27 ∧ 0 ≤ (i2 : Int) ∧ (i2 : Int) < (n23 : Nat) ∧
 ∃ b33 : Bool, ∃ s34 : ByteArray, CellsAt B h8 (Addr.add A27 (Int.toNat (i2) * 3)) 0 [(.bool b33), (.string s34)] ∧
 ∃ A37 : Addr, p1 = some A37 ∧
 ∃ a41 : Option Addr, ∃ n42 : Nat, ∃ c43 : Nat, cellH B h8 A37 = some (.slice a41 n42 c43) ∧
 ∃ A46 : Addr, a41 = some A46 ∧ 0 ≤ (i2 : Int) ∧ (i2 : Int) < (n42 : Nat) ∧
 ∃ i52 : Int, cellH B h8 (Addr.add (Addr.add A46 (Int.toNat (i2) * 3)) 2) = some (.int .i64 (i52)) ∧
 ∃ h54 : Heap, StoresAt ⟨k6, 0, none⟩ h8 0 [(.bool b33), (.string s34)] h54 ∧
 cellH B h54 A18 = some (.slice a22 n23 c24) ∧ CellsAt B h54 (Addr.add A27 (Int.toNat (i2) * 3)) 0 [(.bool b33), (.string s34)] ∧ cellH B h54 A37 = some (.slice a41 n42 c43) ∧ cellH B h54 (Addr.add (Addr.add A46 (Int.toNat (i2) * 3)) 2) = some (.int .i64 (i52)) ∧
 ∃ b59 : Bool, ∃ s60 : ByteArray, CellsAt B h54 ⟨k6, 0, none⟩ 0 [(.bool b59), (.string s60)] ∧ Fin B h54 (Q (b59) s60 (i52))) ∧ (b9 = false →
 ∀ k10 : Nat, h8 k10 = none → B k10 = none → ∀ h11 : Heap, h11 = Heap.set h8 k10 (.vec 119 (plains [(.bool false), (.string ByteArray.empty)]) 2) →
 ∃ b12 : Bool, ∃ s13 : ByteArray, CellsAt B h11 ⟨k10, 0, none⟩ 0 [(.bool b12), (.string s13)] ∧
 ∃ h14 : Heap, StoresAt ⟨k6, 0, none⟩ h11 0 [(.bool b12), (.string s13)] h14 ∧
 ∃ b15 : Bool, ∃ s16 : ByteArray, CellsAt B h14 ⟨k6, 0, none⟩ 0 [(.bool b15), (.string s16)] ∧ Fin B h14 (Q (b15) s16 (0))))
def S_attempt_Attempt_touch_J2 (B : RO) (p1 : Option Addr) (i2 : Int) (k6 : Nat) (A11 : Addr) (b12 : Bool) (h13 : Heap) (Q : Bool → ByteArray → Int → Heap → Prop) : Prop :=
 (b12 = true →
 ∃ b26 : Bool, ∃ s27 : ByteArray, CellsAt B h13 A11 0 [(.bool b26), (.string s27)] ∧
 ∃ h28 : Heap, StoresAt ⟨k6, 0, none⟩ h13 0 [(.bool b26), (.string s27)] h28 ∧
 ∃ b29 : Bool, ∃ s30 : ByteArray, CellsAt B h28 ⟨k6, 0, none⟩ 0 [(.bool b29), (.string s30)] ∧ Fin B h28 (Q (b29) s30 (0))) ∧ (b12 = false →
 ∃ b14 : Bool, ∃ s15 : ByteArray, CellsAt B h13 A11 0 [(.bool b14), (.string s15)] ∧
 C_attempt_Attempt_note B p1 (1) (i2) h13 (fun i20 h19 =>
 CellsAt B h19 A11 0 [(.bool b14), (.string s15)] ∧
 ∃ h22 : Heap, StoresAt ⟨k6, 0, none⟩ h19 0 [(.bool b14), (.string s15)] h22 ∧
 CellsAt B h22 A11 0 [(.bool b14), (.string s15)] ∧
 ∃ b24 : Bool, ∃ s25 : ByteArray, CellsAt B h22 ⟨k6, 0, none⟩ 0 [(.bool b24), (.string s25)] ∧ Fin B h22 (Q (b24) s25 (i20))))
def S_attempt_Attempt_touch_J3 (B : RO) (p1 : Option Addr) (i2 : Int) (k6 : Nat) (A32 : Addr) (p37 : Option Addr) (A40 : Addr) (p44 : Option Addr) (A46 : Addr) (p50 : Option Addr) (A83 : Addr) (b84 : Bool) (s85 : ByteArray) (b86 : Bool) (h87 : Heap) (Q : Bool → ByteArray → Int → Heap → Prop) : Prop :=
 ∃ h91 : Heap, StoresAt A83 h87 0 [(.bool b84), (.string s85)] h91 ∧
 cellH B h91 (Addr.add (Addr.add A32 2) 1) = some (.pointer p37) ∧ cellH B h91 A40 = some (.pointer p44) ∧ cellH B h91 (Addr.add A46 1) = some (.pointer p50) ∧
 (b86 = true →
 Fin B h91 (fun h' => S_attempt_Attempt_touch_J2 B p1 i2 k6 A83 (true) h' Q)) ∧ (b86 = false →
 Fin B h91 (fun h' => S_attempt_Attempt_touch_J2 B p1 i2 k6 A83 (false) h' Q))
def S_attempt_Attempt_touch_J1 (B : RO) (p1 : Option Addr) (i2 : Int) (k6 : Nat) (h9 : Heap) (Q : Bool → ByteArray → Int → Heap → Prop) : Prop :=
 ∃ A32 : Addr, p1 = some A32 ∧
 ∃ p37 : Option Addr, cellH B h9 (Addr.add (Addr.add A32 2) 1) = some (.pointer p37) ∧
 ∃ A40 : Addr, p1 = some A40 ∧
 ∃ p44 : Option Addr, cellH B h9 A40 = some (.pointer p44) ∧
 ∃ A46 : Addr, p44 = some A46 ∧
 ∃ p50 : Option Addr, cellH B h9 (Addr.add A46 1) = some (.pointer p50) ∧
 (C_sheet_Sheet_Get B p37 p50 (i2) h9 (fun b96 s97 b98 h95 =>
 cellH B h95 (Addr.add (Addr.add A32 2) 1) = some (.pointer p37) ∧ cellH B h95 A40 = some (.pointer p44) ∧ cellH B h95 (Addr.add A46 1) = some (.pointer p50) ∧
 (b98 = true →
 ∀ k107 : Nat, h95 k107 = none → B k107 = none → ∀ h108 : Heap, h108 = Heap.set h95 k107 (.vec 119 (plains [(.bool false), (.string ByteArray.empty)]) 2) →
 cellH B h108 (Addr.add (Addr.add A32 2) 1) = some (.pointer p37) ∧ cellH B h108 A40 = some (.pointer p44) ∧ cellH B h108 (Addr.add A46 1) = some (.pointer p50) ∧
 S_attempt_Attempt_touch_J3 B p1 i2 k6 A32 p37 A40 p44 A46 p50 ⟨k107, 0, none⟩ (b96) s97 (true) h108 Q) ∧ (b98 = false →
 ∀ k102 : Nat, h95 k102 = none → B k102 = none → ∀ h103 : Heap, h103 = Heap.set h95 k102 (.vec 119 (plains [(.bool false), (.string ByteArray.empty)]) 2) →
 cellH B h103 (Addr.add (Addr.add A32 2) 1) = some (.pointer p37) ∧ cellH B h103 A40 = some (.pointer p44) ∧ cellH B h103 (Addr.add A46 1) = some (.pointer p50) ∧
 S_attempt_Attempt_touch_J3 B p1 i2 k6 A32 p37 A40 p44 A46 p50 ⟨k102, 0, none⟩ (b96) s97 (false) h103 Q))) ∧
 (∀ k112 : Nat, h9 k112 = none → B k112 = none → ∀ h113 : Heap, h113 = Heap.set h9 k112 (.vec 119 (plains [(.bool false), (.string ByteArray.empty)]) 2) →
 cellH B h113 (Addr.add (Addr.add A32 2) 1) = some (.pointer p37) ∧ cellH B h113 A40 = some (.pointer p44) ∧ cellH B h113 (Addr.add A46 1) = some (.pointer p50) ∧
 C_sheet_Sheet_Get B p37 p50 (i2) h113 (fun b118 s119 b120 h117 =>
 cellH B h117 (Addr.add (Addr.add A32 2) 1) = some (.pointer p37) ∧ cellH B h117 A40 = some (.pointer p44) ∧ cellH B h117 (Addr.add A46 1) = some (.pointer p50) ∧
 (b120 = true →
 S_attempt_Attempt_touch_J3 B p1 i2 k6 A32 p37 A40 p44 A46 p50 ⟨k112, 0, none⟩ (b118) s119 (true) h117 Q) ∧ (b120 = false →
 S_attempt_Attempt_touch_J3 B p1 i2 k6 A32 p37 A40 p44 A46 p50 ⟨k112, 0, none⟩ (b118) s119 (false) h117 Q)))
def S_attempt_Attempt_touch (B : RO) (p1 : Option Addr) (i2 : Int) (h : Heap) (Q : Bool → ByteArray → Int → Heap → Prop) : Prop :=
 ∀ k6 : Nat, h k6 = none → B k6 = none → ∀ h7 : Heap, h7 = Heap.set h k6 (.vec 119 (plains [(.bool false), (.string ByteArray.empty)]) 2) →
 (p1 = none →
 ∃ h125 : Heap, StoresAt ⟨k6, 0, none⟩ h7 0 [(.bool false), (.string ByteArray.empty)] h125 ∧
 ∃ b126 : Bool, ∃ s127 : ByteArray, CellsAt B h125 ⟨k6, 0, none⟩ 0 [(.bool b126), (.string s127)] ∧ Fin B h125 (Q (b126) s127 (2))) ∧ (¬ (p1 = none) →
 ((i2 : Int) < (0) →
 ∃ h128 : Heap, StoresAt ⟨k6, 0, none⟩ h7 0 [(.bool false), (.string ByteArray.empty)] h128 ∧
 ∃ b129 : Bool, ∃ s130 : ByteArray, CellsAt B h128 ⟨k6, 0, none⟩ 0 [(.bool b129), (.string s130)] ∧ Fin B h128 (Q (b129) s130 (1))) ∧ (¬ ((i2 : Int) < (0)) →
 ((i2 : Int) ≥ (6) →
 ∃ h131 : Heap, StoresAt ⟨k6, 0, none⟩ h7 0 [(.bool false), (.string ByteArray.empty)] h131 ∧
 ∃ b132 : Bool, ∃ s133 : ByteArray, CellsAt B h131 ⟨k6, 0, none⟩ 0 [(.bool b132), (.string s133)] ∧ Fin B h131 (Q (b132) s133 (1))) ∧ (¬ ((i2 : Int) ≥ (6)) →
 Fin B h7 (fun h' => S_attempt_Attempt_touch_J1 B p1 i2 k6 h' Q))))
def S_file_At_J1 (B : RO) (i3 : Int) (k5 : Nat) (b8 : Bool) (h9 : Heap) (Q : Int → Heap → Prop) : Prop :=
 (b8 = true →
 Fin B h9 (Q ((-1)))) ∧ (b8 = false →
 ∃ s10 : ByteArray, cellH B h9 ⟨k5, 1, none⟩ = some (.string s10) ∧
 0 ≤ (i3 : Int) ∧ (i3 : Int) < (ByteArray.size s10 : Nat) ∧
 Fin B h9 (Q (IntKind.wrap .i64 (byteAt s10 (Int.toNat (i3))))))
def S_file_At (B : RO) (b1 : Bool) (s2 : ByteArray) (i3 : Int) (h : Heap) (Q : Int → Heap → Prop) : Prop :=
 ∀ k5 : Nat, h k5 = none → B k5 = none → ∀ h6 : Heap, h6 = Heap.set h k5 (.vec 119 (plains [(.bool b1), (.string s2)]) 2) →
 ((i3 : Int) < (0) →
 Fin B h6 (fun h' => S_file_At_J1 B i3 k5 (true) h' Q)) ∧ (¬ ((i3 : Int) < (0)) →
 ∃ s11 : ByteArray, cellH B h6 ⟨k5, 1, none⟩ = some (.string s11) ∧
 ((i3 : Int) ≥ ((ByteArray.size s11 : Nat)) →
 Fin B h6 (fun h' => S_file_At_J1 B i3 k5 (true) h' Q)) ∧ (¬ ((i3 : Int) ≥ ((ByteArray.size s11 : Nat))) →
 Fin B h6 (fun h' => S_file_At_J1 B i3 k5 (false) h' Q)))
def S_sheet_Sheet_Write (B : RO) (p1 : Option Addr) (p2 : Option Addr) (i3 : Int) (i4 : Int) (i5 : Int) (h : Heap) (Q : Bool → Heap → Prop) : Prop :=
 C_sheet_Sheet_Get B p1 p2 (i3) h (fun b8 s9 b10 h7 =>
 ∀ k11 : Nat, h7 k11 = none → B k11 = none → ∀ h12 : Heap, h12 = Heap.set h7 k11 (.vec 119 (plains [(.bool false), (.string ByteArray.empty)]) 2) →
 ∃ h13 : Heap, StoresAt ⟨k11, 0, none⟩ h12 0 [(.bool b8), (.string s9)] h13 ∧
 ∃ b14 : Bool, ∃ s15 : ByteArray, CellsAt B h13 ⟨k11, 0, none⟩ 0 [(.bool b14), (.string s15)] ∧
 C_file_Put B (b14) s15 (i4) (i5) h13 (fun b17 s18 h16 =>
 C_sheet_Sheet_put B p1 p2 (i3) (b17) s18 h16 (fun b20 h19 =>
 Fin B h19 (Q (b20)))))
def S_sheet_Sheet_Create (B : RO) (p1 : Option Addr) (p2 : Option Addr) (i3 : Int) (h : Heap) (Q : Bool → Heap → Prop) : Prop :=
 C_sheet_Sheet_Get B p1 p2 (i3) h (fun b6 s7 b8 h5 =>
 ∀ k9 : Nat, h5 k9 = none → B k9 = none → ∀ h10 : Heap, h10 = Heap.set h5 k9 (.vec 119 (plains [(.bool false), (.string ByteArray.empty)]) 2) →
 ∃ h11 : Heap, StoresAt ⟨k9, 0, none⟩ h10 0 [(.bool b6), (.string s7)] h11 ∧
 ∃ b12 : Bool, ∃ s13 : ByteArray, CellsAt B h11 ⟨k9, 0, none⟩ 0 [(.bool b12), (.string s13)] ∧
 C_file_Make B (b12) s13 h11 (fun b15 s16 h14 =>
 C_sheet_Sheet_put B p1 p2 (i3) (b15) s16 h14 (fun b18 h17 =>
 Fin B h17 (Q (b18)))))
def S_sheet_Sheet_Remove (B : RO) (p1 : Option Addr) (p2 : Option Addr) (i3 : Int) (h : Heap) (Q : Bool → Heap → Prop) : Prop :=
 C_sheet_Sheet_put B p1 p2 (i3) (false) ByteArray.empty h (fun b6 h5 =>
 Fin B h5 (Q (b6)))
def S_sheet_Sheet_Rename_J1 (B : RO) (p1 : Option Addr) (p2 : Option Addr) (i3 : Int) (i4 : Int) (k10 : Nat) (h14 : Heap) (Q : Bool → Heap → Prop) : Prop :=
 ∃ b15 : Bool, ∃ s16 : ByteArray, CellsAt B h14 ⟨k10, 0, none⟩ 0 [(.bool b15), (.string s16)] ∧
 C_sheet_Sheet_put B p1 p2 (i4) (b15) s16 h14 (fun b18 h17 =>
 C_sheet_Sheet_put B p1 p2 (i3) (false) ByteArray.empty h17 (fun b20 h19 =>
 Fin B h19 (Q (b20))))
def S_sheet_Sheet_Rename_J2 (B : RO) (p1 : Option Addr) (p2 : Option Addr) (i3 : Int) (i4 : Int) (k10 : Nat) (b22 : Bool) (h23 : Heap) (Q : Bool → Heap → Prop) : Prop :=
 (b22 = true →
 Fin B h23 (Q (false))) ∧ (b22 = false →
 ∃ b24 : Bool, cellH B h23 ⟨k10, 0, none⟩ = some (.bool b24) ∧ (b24 = true →
 ((i3 : Int) = i4 →
 Fin B h23 (Q (true))) ∧ (¬ ((i3 : Int) = i4) →
 Fin B h23 (fun h' => S_sheet_Sheet_Rename_J1 B p1 p2 i3 i4 k10 h' Q))) ∧ (b24 = false →
 Fin B h23 (Q (true))))
def S_sheet_Sheet_Rename (B : RO) (p1 : Option Addr) (p2 : Option Addr) (i3 : Int) (i4 : Int) (h : Heap) (Q : Bool → Heap → Prop) : Prop :=
 C_sheet_Sheet_Get B p1 p2 (i3) h (fun b7 s8 b9 h6 =>
 ∀ k10 : Nat, h6 k10 = none → B k10 = none → ∀ h11 : Heap, h11 = Heap.set h6 k10 (.vec 119 (plains [(.bool false), (.string ByteArray.empty)]) 2) →
 ∃ h12 : Heap, StoresAt ⟨k10, 0, none⟩ h11 0 [(.bool b7), (.string s8)] h12 ∧
 (p1 = none →
 Fin B h12 (fun h' => S_sheet_Sheet_Rename_J2 B p1 p2 i3 i4 k10 (true) h' Q)) ∧ (¬ (p1 = none) →
 ((i3 : Int) < (0) →
 Fin B h12 (fun h' => S_sheet_Sheet_Rename_J2 B p1 p2 i3 i4 k10 (true) h' Q)) ∧ (¬ ((i3 : Int) < (0)) →
 ((i3 : Int) ≥ (6) →
 Fin B h12 (fun h' => S_sheet_Sheet_Rename_J2 B p1 p2 i3 i4 k10 (true) h' Q)) ∧ (¬ ((i3 : Int) ≥ (6)) →
 ((i4 : Int) < (0) →
 Fin B h12 (fun h' => S_sheet_Sheet_Rename_J2 B p1 p2 i3 i4 k10 (true) h' Q)) ∧ (¬ ((i4 : Int) < (0)) →
 ((i4 : Int) ≥ (6) →
 Fin B h12 (fun h' => S_sheet_Sheet_Rename_J2 B p1 p2 i3 i4 k10 (true) h' Q)) ∧ (¬ ((i4 : Int) ≥ (6)) →
 Fin B h12 (fun h' => S_sheet_Sheet_Rename_J2 B p1 p2 i3 i4 k10 (false) h' Q)))))))
def S_sheet_Sheet_Cut (B : RO) (p1 : Option Addr) (p2 : Option Addr) (i3 : Int) (i4 : Int) (h : Heap) (Q : Bool → Heap → Prop) : Prop :=
 C_sheet_Sheet_Get B p1 p2 (i3) h (fun b7 s8 b9 h6 =>
 ∀ k10 : Nat, h6 k10 = none → B k10 = none → ∀ h11 : Heap, h11 = Heap.set h6 k10 (.vec 119 (plains [(.bool false), (.string ByteArray.empty)]) 2) →
 ∃ h12 : Heap, StoresAt ⟨k10, 0, none⟩ h11 0 [(.bool b7), (.string s8)] h12 ∧
 ∃ b13 : Bool, ∃ s14 : ByteArray, CellsAt B h12 ⟨k10, 0, none⟩ 0 [(.bool b13), (.string s14)] ∧
 C_file_Cut B (b13) s14 (i4) h12 (fun b16 s17 h15 =>
 C_sheet_Sheet_put B p1 p2 (i3) (b16) s17 h15 (fun b19 h18 =>
 Fin B h18 (Q (b19)))))
def S_feed_Feed_At_J1 (B : RO) (p1 : Option Addr) (i2 : Int) (i3 : Int) (h6 : Heap) (Q : Int → Heap → Prop) : Prop :=
 ∃ A7 : Addr, p1 = some A7 ∧
 0 ≤ (i2 : Int) ∧ (i2 : Int) < (3 : Nat) ∧
 ∃ s9 : ByteArray, cellH B h6 (Addr.add A7 (Int.toNat (i2) * 1)) = some (.string s9) ∧
 0 ≤ (i3 : Int) ∧ (i3 : Int) < (ByteArray.size s9 : Nat) ∧
 Fin B h6 (Q (IntKind.wrap .i64 (byteAt s9 (Int.toNat (i3)))))
def S_feed_Feed_At (B : RO) (p1 : Option Addr) (i2 : Int) (i3 : Int) (h : Heap) (Q : Int → Heap → Prop) : Prop :=
 C_feed_Feed_is B p1 (i2) h (fun b11 h10 =>
 (b11 = true →
 ((i3 : Int) < (0) →
 Fin B h10 (Q ((-1)))) ∧ (¬ ((i3 : Int) < (0)) →
 ∃ A12 : Addr, p1 = some A12 ∧
 0 ≤ (i2 : Int) ∧ (i2 : Int) < (3 : Nat) ∧
 ∃ s14 : ByteArray, cellH B h10 (Addr.add A12 (Int.toNat (i2) * 1)) = some (.string s14) ∧
 ((i3 : Int) ≥ ((ByteArray.size s14 : Nat)) →
 Fin B h10 (Q ((-1)))) ∧ (¬ ((i3 : Int) ≥ ((ByteArray.size s14 : Nat))) →
 Fin B h10 (fun h' => S_feed_Feed_At_J1 B p1 i2 i3 h' Q)))) ∧ (b11 = false →
 Fin B h10 (Q ((-1)))))
def S_cursor_Cursor_At_J1 (B : RO) (p1 : Option Addr) (i2 : Int) (i3 : Int) (h6 : Heap) (Q : Int → Heap → Prop) : Prop :=
 ∃ A7 : Addr, p1 = some A7 ∧
 0 ≤ (i2 : Int) ∧ (i2 : Int) < (3 : Nat) ∧
 ∃ i9 : Int, cellH B h6 (Addr.add A7 (Int.toNat (i2) * 1)) = some (.int .i64 (i9)) ∧
 Fin B h6 (Q (IntKind.wrap .i64 ((i3) + (i9))))
def S_cursor_Cursor_At (B : RO) (p1 : Option Addr) (i2 : Int) (i3 : Int) (h : Heap) (Q : Int → Heap → Prop) : Prop :=
 (p1 = none →
 Fin B h (Q (i3))) ∧ (¬ (p1 = none) →
 C_cursor_is B (i2) h (fun b12 h11 =>
 (b12 = true →
 Fin B h11 (fun h' => S_cursor_Cursor_At_J1 B p1 i2 i3 h' Q)) ∧ (b12 = false →
 Fin B h11 (Q (i3)))))
def S_cursor_Cursor_Step_J1 (B : RO) (p1 : Option Addr) (i2 : Int) (h5 : Heap) (Q : Bool → Heap → Prop) : Prop :=
 ∃ A6 : Addr, p1 = some A6 ∧
 0 ≤ (i2 : Int) ∧ (i2 : Int) < (3 : Nat) ∧
 ∃ i8 : Int, cellH B h5 (Addr.add A6 (Int.toNat (i2) * 1)) = some (.int .i64 (i8)) ∧
 ∃ A9 : Addr, p1 = some A9 ∧
 0 ≤ (i2 : Int) ∧ (i2 : Int) < (3 : Nat) ∧
 ∃ h11 : Heap, storeH h5 (Addr.add A9 (Int.toNat (i2) * 1)) (.int .i64 (IntKind.wrap .i64 ((i8) + (1)))) = some h11 ∧
 Fin B h11 (Q (true))
def S_cursor_Cursor_Step (B : RO) (p1 : Option Addr) (i2 : Int) (h : Heap) (Q : Bool → Heap → Prop) : Prop :=
 (p1 = none →
 Fin B h (Q (false))) ∧ (¬ (p1 = none) →
 C_cursor_is B (i2) h (fun b14 h13 =>
 (b14 = true →
 ∃ A15 : Addr, p1 = some A15 ∧
 0 ≤ (i2 : Int) ∧ (i2 : Int) < (3 : Nat) ∧
 ∃ i17 : Int, cellH B h13 (Addr.add A15 (Int.toNat (i2) * 1)) = some (.int .i64 (i17)) ∧
 ((i17 : Int) ≥ (64) →
 Fin B h13 (Q (false))) ∧ (¬ ((i17 : Int) ≥ (64)) →
 Fin B h13 (fun h' => S_cursor_Cursor_Step_J1 B p1 i2 h' Q))) ∧ (b14 = false →
 Fin B h13 (Q (false)))))
def S_countermandref14_Is (B : RO) (i1 : Int) (h : Heap) (Q : Bool → Heap → Prop) : Prop :=
 ((i1 : Int) ≥ (0) →
 Fin B h (Q ((decide ((i1 : Int) ≤ (5)))))) ∧ (¬ ((i1 : Int) ≥ (0)) →
 Fin B h (Q (false)))
def S_countermandref14_Sheet_put (B : RO) (p1 : Option Addr) (i2 : Int) (b3 : Bool) (s4 : ByteArray) (h : Heap) (Q : Heap → Prop) : Prop :=
 ∀ k5 : Nat, h k5 = none → B k5 = none → ∀ h6 : Heap, h6 = Heap.set h k5 (.vec 51 (plains [(.bool b3), (.string s4)]) 2) →
 ∃ A7 : Addr, p1 = some A7 ∧
 0 ≤ (i2 : Int) ∧ (i2 : Int) < (6 : Nat) ∧
 ∃ b9 : Bool, ∃ s10 : ByteArray, CellsAt B h6 (Addr.add (Addr.add A7 12) (Int.toNat (i2) * 2)) 0 [(.bool b9), (.string s10)] ∧
 ∃ b11 : Bool, ∃ s12 : ByteArray, CellsAt B h6 ⟨k5, 0, none⟩ 0 [(.bool b11), (.string s12)] ∧
 (eqL [(.bool b9), (.string s10)] [(.bool b11), (.string s12)] = true →
 Fin B h6 (Q)) ∧ (¬ (eqL [(.bool b9), (.string s10)] [(.bool b11), (.string s12)] = true) →
 ∃ b14 : Bool, ∃ s15 : ByteArray, CellsAt B h6 ⟨k5, 0, none⟩ 0 [(.bool b14), (.string s15)] ∧
 ∃ A16 : Addr, p1 = some A16 ∧
 0 ≤ (i2 : Int) ∧ (i2 : Int) < (6 : Nat) ∧
 ∃ h18 : Heap, StoresAt (Addr.add (Addr.add A16 12) (Int.toNat (i2) * 2)) h6 0 [(.bool b14), (.string s15)] h18 ∧
 ∃ A19 : Addr, p1 = some A19 ∧
 0 ≤ (i2 : Int) ∧ (i2 : Int) < (6 : Nat) ∧
 ∃ h21 : Heap, storeH h18 (Addr.add (Addr.add A19 24) (Int.toNat (i2) * 1)) (.bool true) = some h21 ∧
 Fin B h21 (Q))
def S_countermandref09_Put_J3 (B : RO) (i3 : Int) (i4 : Int) (k7 : Nat) (k9 : Nat) (s13 : ByteArray) (i14 : Int) (m16 : Nat) (J19 : ByteArray → Int → Nat → Heap → Prop) (i27 : Int) (h28 : Heap) (Q : Bool → ByteArray → Heap → Prop) : Prop :=
 ∀ k29 : Nat, h28 k29 = none → B k29 = none → ∀ h30 : Heap, h30 = Heap.set h28 k29 (.vec 5 (plains [(.int .u8 (IntKind.wrap .u8 (i27)))]) 1) →
 semH PG B (convert 226 9 (.slice (some ⟨k29, 0, none⟩) 1 1)) h30 (fun v h32 => ∃ s31 : ByteArray, v = (.string s31) ∧
 ByteArray.size s13 + ByteArray.size s31 ≤ 4611686018427387904 ∧
 Fin B h32 (fun h' => ∃ m', m' < m16 ∧ J19 (s13 ++ s31) (IntKind.wrap .i64 ((i14) + (1))) m' h'))
def S_countermandref09_Put_J2 (B : RO) (i3 : Int) (i4 : Int) (k7 : Nat) (k9 : Nat) (s13 : ByteArray) (i14 : Int) (m16 : Nat) (J19 : ByteArray → Int → Nat → Heap → Prop) (h21 : Heap) (Q : Bool → ByteArray → Heap → Prop) : Prop :=
 ∃ b22 : Bool, ∃ s23 : ByteArray, CellsAt B h21 ⟨k7, 0, none⟩ 0 [(.bool b22), (.string s23)] ∧
 C_countermandref09_At B (b22) s23 (i14) h21 (fun i25 h24 =>
 ((i14 : Int) = i3 →
 Fin B h24 (fun h' => S_countermandref09_Put_J3 B i3 i4 k7 k9 s13 i14 m16 J19 (IntKind.wrap .i64 (i4)) h' Q)) ∧ (¬ ((i14 : Int) = i3) →
 Fin B h24 (fun h' => S_countermandref09_Put_J3 B i3 i4 k7 k9 s13 i14 m16 J19 (if (0 : Int) > (i25) then (0 : Int) else (i25)) h' Q)))
def S_countermandref09_Put_J1 (B : RO) (i3 : Int) (i4 : Int) (k7 : Nat) (k9 : Nat) (h12 : Heap) (Q : Bool → ByteArray → Heap → Prop) : Prop :=
 ∃ (J19 : ByteArray → Int → Nat → Heap → Prop) (m17 : Nat), Fin B h12 (J19 (ByteArray.mk #[]) (0) m17) ∧
 ∀ (s13 : ByteArray) (i14 : Int) (m16 : Nat) (h15 : Heap), J19 s13 i14 m16 h15 →
 ∃ s33 : ByteArray, cellH B h15 ⟨k7, 1, none⟩ = some (.string s33) ∧
 ((i14 : Int) < ((ByteArray.size s33 : Nat)) →
 Fin B h15 (fun h' => S_countermandref09_Put_J2 B i3 i4 k7 k9 s13 i14 m16 J19 h' Q)) ∧ (¬ ((i14 : Int) < ((ByteArray.size s33 : Nat))) →
 ((i14 : Int) ≤ (i3) →
 Fin B h15 (fun h' => S_countermandref09_Put_J2 B i3 i4 k7 k9 s13 i14 m16 J19 h' Q)) ∧ (¬ ((i14 : Int) ≤ (i3)) →
 ∃ h34 : Heap, StoresAt ⟨k9, 0, none⟩ h15 0 [(.bool true), (.string s13)] h34 ∧
 ∃ b35 : Bool, ∃ s36 : ByteArray, CellsAt B h34 ⟨k9, 0, none⟩ 0 [(.bool b35), (.string s36)] ∧ Fin B h34 (Q (b35) s36)))
def S_countermandref09_Put (B : RO) (b1 : Bool) (s2 : ByteArray) (i3 : Int) (i4 : Int) (h : Heap) (Q : Bool → ByteArray → Heap → Prop) : Prop :=
 ∀ k7 : Nat, h k7 = none → B k7 = none → ∀ h8 : Heap, h8 = Heap.set h k7 (.vec 51 (plains [(.bool b1), (.string s2)]) 2) →
 ∀ k9 : Nat, h8 k9 = none → B k9 = none → ∀ h10 : Heap, h10 = Heap.set h8 k9 (.vec 51 (plains [(.bool false), (.string ByteArray.empty)]) 2) →
 ((i3 : Int) < (0) →
 ∃ b37 : Bool, ∃ s38 : ByteArray, CellsAt B h10 ⟨k7, 0, none⟩ 0 [(.bool b37), (.string s38)] ∧
 ∃ h39 : Heap, StoresAt ⟨k9, 0, none⟩ h10 0 [(.bool b37), (.string s38)] h39 ∧
 ∃ b40 : Bool, ∃ s41 : ByteArray, CellsAt B h39 ⟨k9, 0, none⟩ 0 [(.bool b40), (.string s41)] ∧ Fin B h39 (Q (b40) s41)) ∧ (¬ ((i3 : Int) < (0)) →
 ((i3 : Int) > (31) →
 ∃ b42 : Bool, ∃ s43 : ByteArray, CellsAt B h10 ⟨k7, 0, none⟩ 0 [(.bool b42), (.string s43)] ∧
 ∃ h44 : Heap, StoresAt ⟨k9, 0, none⟩ h10 0 [(.bool b42), (.string s43)] h44 ∧
 ∃ b45 : Bool, ∃ s46 : ByteArray, CellsAt B h44 ⟨k9, 0, none⟩ 0 [(.bool b45), (.string s46)] ∧ Fin B h44 (Q (b45) s46)) ∧ (¬ ((i3 : Int) > (31)) →
 Fin B h10 (fun h' => S_countermandref09_Put_J1 B i3 i4 k7 k9 h' Q)))
def S_countermandref09_Cut_J1 (B : RO) (i3 : Int) (k6 : Nat) (k8 : Nat) (h11 : Heap) (Q : Bool → ByteArray → Heap → Prop) : Prop :=
 ∃ (J18 : ByteArray → Int → Nat → Heap → Prop) (m16 : Nat), Fin B h11 (J18 (ByteArray.mk #[]) (0) m16) ∧
 ∀ (s12 : ByteArray) (i13 : Int) (m15 : Nat) (h14 : Heap), J18 s12 i13 m15 h14 →
 ((i13 : Int) < (i3) →
 ∃ b19 : Bool, ∃ s20 : ByteArray, CellsAt B h14 ⟨k6, 0, none⟩ 0 [(.bool b19), (.string s20)] ∧
 C_countermandref09_At B (b19) s20 (i13) h14 (fun i22 h21 =>
 ∀ k23 : Nat, h21 k23 = none → B k23 = none → ∀ h24 : Heap, h24 = Heap.set h21 k23 (.vec 5 (plains [(.int .u8 (IntKind.wrap .u8 (if (0 : Int) > (i22) then (0 : Int) else (i22))))]) 1) →
 semH PG B (convert 226 9 (.slice (some ⟨k23, 0, none⟩) 1 1)) h24 (fun v h26 => ∃ s25 : ByteArray, v = (.string s25) ∧
 ByteArray.size s12 + ByteArray.size s25 ≤ 4611686018427387904 ∧
 Fin B h26 (fun h' => ∃ m', m' < m15 ∧ J18 (s12 ++ s25) (IntKind.wrap .i64 ((i13) + (1))) m' h')))) ∧ (¬ ((i13 : Int) < (i3)) →
 ∃ h27 : Heap, StoresAt ⟨k8, 0, none⟩ h14 0 [(.bool true), (.string s12)] h27 ∧
 ∃ b28 : Bool, ∃ s29 : ByteArray, CellsAt B h27 ⟨k8, 0, none⟩ 0 [(.bool b28), (.string s29)] ∧ Fin B h27 (Q (b28) s29))
def S_countermandref09_Cut (B : RO) (b1 : Bool) (s2 : ByteArray) (i3 : Int) (h : Heap) (Q : Bool → ByteArray → Heap → Prop) : Prop :=
 ∀ k6 : Nat, h k6 = none → B k6 = none → ∀ h7 : Heap, h7 = Heap.set h k6 (.vec 51 (plains [(.bool b1), (.string s2)]) 2) →
 ∀ k8 : Nat, h7 k8 = none → B k8 = none → ∀ h9 : Heap, h9 = Heap.set h7 k8 (.vec 51 (plains [(.bool false), (.string ByteArray.empty)]) 2) →
 ∃ b30 : Bool, cellH B h9 ⟨k6, 0, none⟩ = some (.bool b30) ∧ (b30 = true →
 ((i3 : Int) < (0) →
 ∃ b36 : Bool, ∃ s37 : ByteArray, CellsAt B h9 ⟨k6, 0, none⟩ 0 [(.bool b36), (.string s37)] ∧
 ∃ h38 : Heap, StoresAt ⟨k8, 0, none⟩ h9 0 [(.bool b36), (.string s37)] h38 ∧
 ∃ b39 : Bool, ∃ s40 : ByteArray, CellsAt B h38 ⟨k8, 0, none⟩ 0 [(.bool b39), (.string s40)] ∧ Fin B h38 (Q (b39) s40)) ∧ (¬ ((i3 : Int) < (0)) →
 ((i3 : Int) > (32) →
 ∃ b41 : Bool, ∃ s42 : ByteArray, CellsAt B h9 ⟨k6, 0, none⟩ 0 [(.bool b41), (.string s42)] ∧
 ∃ h43 : Heap, StoresAt ⟨k8, 0, none⟩ h9 0 [(.bool b41), (.string s42)] h43 ∧
 ∃ b44 : Bool, ∃ s45 : ByteArray, CellsAt B h43 ⟨k8, 0, none⟩ 0 [(.bool b44), (.string s45)] ∧ Fin B h43 (Q (b44) s45)) ∧ (¬ ((i3 : Int) > (32)) →
 Fin B h9 (fun h' => S_countermandref09_Cut_J1 B i3 k6 k8 h' Q)))) ∧ (b30 = false →
 ∃ b31 : Bool, ∃ s32 : ByteArray, CellsAt B h9 ⟨k6, 0, none⟩ 0 [(.bool b31), (.string s32)] ∧
 ∃ h33 : Heap, StoresAt ⟨k8, 0, none⟩ h9 0 [(.bool b31), (.string s32)] h33 ∧
 ∃ b34 : Bool, ∃ s35 : ByteArray, CellsAt B h33 ⟨k8, 0, none⟩ 0 [(.bool b34), (.string s35)] ∧ Fin B h33 (Q (b34) s35))
def S_slices_Insert_s_draft_entry_int_draft_entry_int (B : RO) (a1 : Option Addr) (n2 : Nat) (c3 : Nat) (i4 : Int) (a5 : Option Addr) (n6 : Nat) (c7 : Nat) (h : Heap) (Q : Option Addr → Nat → Nat → Heap → Prop) : Prop :=
 0 ≤ (i4 : Int) ∧ (i4 : Int) ≤ ((n2 : Nat) : Int) ∧ ((n2 : Nat) : Int) ≤ (c3 : Nat) ∧
 (((n6 : Nat) : Int) = 0 →
 Fin B h (Q a1 n2 c3)) ∧ (¬ (((n6 : Nat) : Int) = 0) →
 ((i4 : Int) = (n2 : Nat) →
 semH PG B (Builtin.append_ #[164, 164] 164 #[(.slice a1 n2 c3), (.slice a5 n6 c7)]) h (fun v h11 => ∃ a12 : Option Addr, ∃ n13 : Nat, ∃ c14 : Nat, v = (.slice a12 n13 c14) ∧
 Fin B h11 (Q a12 n13 c14))) ∧ (¬ ((i4 : Int) = (n2 : Nat)) →
 ((IntKind.wrap .i64 (((n2 : Nat)) + ((n6 : Nat))) : Int) > ((c3 : Nat)) →
 0 ≤ (0 : Int) ∧ (0 : Int) ≤ (i4 : Int) ∧ (i4 : Int) ≤ (c3 : Nat) ∧
 semH PG B (Builtin.append_ #[164, 3] 164 #[(.slice (if c3 = Int.toNat (0) then a1 else Option.map (·.add (Int.toNat (0) * 2)) a1) (Int.toNat (i4) - Int.toNat (0)) (c3 - Int.toNat (0))), (.int .i64 (IntKind.wrap .i64 ((IntKind.wrap .i64 (((n2 : Nat)) + ((n6 : Nat)))) - (i4))))]) h (fun v h15 => ∃ a16 : Option Addr, ∃ n17 : Nat, ∃ c18 : Nat, v = (.slice a16 n17 c18) ∧
 0 ≤ (i4 : Int) ∧ (i4 : Int) ≤ ((n17 : Nat) : Int) ∧ ((n17 : Nat) : Int) ≤ (c18 : Nat) ∧
 semH PG B (Builtin.copy_ #[164, 164] 3 #[(.slice (if c18 = Int.toNat (i4) then a16 else Option.map (·.add (Int.toNat (i4) * 2)) a16) (Int.toNat ((n17 : Nat)) - Int.toNat (i4)) (c18 - Int.toNat (i4))), (.slice a5 n6 c7)]) h15 (fun v h19 => ∃ i20 : Int, v = (.int .i64 (i20)) ∧
 0 ≤ (IntKind.wrap .i64 ((i4) + ((n6 : Nat))) : Int) ∧ (IntKind.wrap .i64 ((i4) + ((n6 : Nat))) : Int) ≤ ((n17 : Nat) : Int) ∧ ((n17 : Nat) : Int) ≤ (c18 : Nat) ∧
 0 ≤ (i4 : Int) ∧ (i4 : Int) ≤ ((n2 : Nat) : Int) ∧ ((n2 : Nat) : Int) ≤ (c3 : Nat) ∧
 semH PG B (Builtin.copy_ #[164, 164] 3 #[(.slice (if c18 = Int.toNat (IntKind.wrap .i64 ((i4) + ((n6 : Nat)))) then a16 else Option.map (·.add (Int.toNat (IntKind.wrap .i64 ((i4) + ((n6 : Nat)))) * 2)) a16) (Int.toNat ((n17 : Nat)) - Int.toNat (IntKind.wrap .i64 ((i4) + ((n6 : Nat))))) (c18 - Int.toNat (IntKind.wrap .i64 ((i4) + ((n6 : Nat)))))), (.slice (if c3 = Int.toNat (i4) then a1 else Option.map (·.add (Int.toNat (i4) * 2)) a1) (Int.toNat ((n2 : Nat)) - Int.toNat (i4)) (c3 - Int.toNat (i4)))]) h19 (fun v h21 => ∃ i22 : Int, v = (.int .i64 (i22)) ∧
 Fin B h21 (Q a16 n17 c18))))) ∧ (¬ ((IntKind.wrap .i64 (((n2 : Nat)) + ((n6 : Nat))) : Int) > ((c3 : Nat))) →
 0 ≤ (0 : Int) ∧ (0 : Int) ≤ (IntKind.wrap .i64 (((n2 : Nat)) + ((n6 : Nat))) : Int) ∧ (IntKind.wrap .i64 (((n2 : Nat)) + ((n6 : Nat))) : Int) ≤ (c3 : Nat) ∧
 0 ≤ (IntKind.wrap .i64 ((i4) + ((n6 : Nat))) : Int) ∧ (IntKind.wrap .i64 ((i4) + ((n6 : Nat))) : Int) ≤ (((Int.toNat (IntKind.wrap .i64 (((n2 : Nat)) + ((n6 : Nat)))) - Int.toNat (0)) : Nat) : Int) ∧ (((Int.toNat (IntKind.wrap .i64 (((n2 : Nat)) + ((n6 : Nat)))) - Int.toNat (0)) : Nat) : Int) ≤ ((c3 - Int.toNat (0)) : Nat) ∧
 semH PG B (Extern.SlicesOverlaps.overlaps #[164, 164] #[4] #[(.slice a5 n6 c7), (.slice (if (c3 - Int.toNat (0)) = Int.toNat (IntKind.wrap .i64 ((i4) + ((n6 : Nat)))) then (if c3 = Int.toNat (0) then a1 else Option.map (·.add (Int.toNat (0) * 2)) a1) else Option.map (·.add (Int.toNat (IntKind.wrap .i64 ((i4) + ((n6 : Nat)))) * 2)) (if c3 = Int.toNat (0) then a1 else Option.map (·.add (Int.toNat (0) * 2)) a1)) (Int.toNat (((Int.toNat (IntKind.wrap .i64 (((n2 : Nat)) + ((n6 : Nat)))) - Int.toNat (0)) : Nat)) - Int.toNat (IntKind.wrap .i64 ((i4) + ((n6 : Nat))))) ((c3 - Int.toNat (0)) - Int.toNat (IntKind.wrap .i64 ((i4) + ((n6 : Nat))))))]) h (fun v h23 => ∃ b24 : Bool, v = (.bool b24) ∧
 (b24 = true →
 0 ≤ ((n2 : Nat) : Int) ∧ ((n2 : Nat) : Int) ≤ (((Int.toNat (IntKind.wrap .i64 (((n2 : Nat)) + ((n6 : Nat)))) - Int.toNat (0)) : Nat) : Int) ∧ (((Int.toNat (IntKind.wrap .i64 (((n2 : Nat)) + ((n6 : Nat)))) - Int.toNat (0)) : Nat) : Int) ≤ ((c3 - Int.toNat (0)) : Nat) ∧
 semH PG B (Builtin.copy_ #[164, 164] 3 #[(.slice (if (c3 - Int.toNat (0)) = Int.toNat ((n2 : Nat)) then (if c3 = Int.toNat (0) then a1 else Option.map (·.add (Int.toNat (0) * 2)) a1) else Option.map (·.add (Int.toNat ((n2 : Nat)) * 2)) (if c3 = Int.toNat (0) then a1 else Option.map (·.add (Int.toNat (0) * 2)) a1)) (Int.toNat (((Int.toNat (IntKind.wrap .i64 (((n2 : Nat)) + ((n6 : Nat)))) - Int.toNat (0)) : Nat)) - Int.toNat ((n2 : Nat))) ((c3 - Int.toNat (0)) - Int.toNat ((n2 : Nat)))), (.slice a5 n6 c7)]) h23 (fun v h29 => ∃ i30 : Int, v = (.int .i64 (i30)) ∧
 0 ≤ (i4 : Int) ∧ (i4 : Int) ≤ (((Int.toNat (IntKind.wrap .i64 (((n2 : Nat)) + ((n6 : Nat)))) - Int.toNat (0)) : Nat) : Int) ∧ (((Int.toNat (IntKind.wrap .i64 (((n2 : Nat)) + ((n6 : Nat)))) - Int.toNat (0)) : Nat) : Int) ≤ ((c3 - Int.toNat (0)) : Nat) ∧
 C_slices_rotateRight_draft_entry_int B (if (c3 - Int.toNat (0)) = Int.toNat (i4) then (if c3 = Int.toNat (0) then a1 else Option.map (·.add (Int.toNat (0) * 2)) a1) else Option.map (·.add (Int.toNat (i4) * 2)) (if c3 = Int.toNat (0) then a1 else Option.map (·.add (Int.toNat (0) * 2)) a1)) (Int.toNat (((Int.toNat (IntKind.wrap .i64 (((n2 : Nat)) + ((n6 : Nat)))) - Int.toNat (0)) : Nat)) - Int.toNat (i4)) ((c3 - Int.toNat (0)) - Int.toNat (i4)) ((n6 : Nat)) h29 (fun h31 =>
 Fin B h31 (Q (if c3 = Int.toNat (0) then a1 else Option.map (·.add (Int.toNat (0) * 2)) a1) (Int.toNat (IntKind.wrap .i64 (((n2 : Nat)) + ((n6 : Nat)))) - Int.toNat (0)) (c3 - Int.toNat (0)))))) ∧ (b24 = false →
 0 ≤ (IntKind.wrap .i64 ((i4) + ((n6 : Nat))) : Int) ∧ (IntKind.wrap .i64 ((i4) + ((n6 : Nat))) : Int) ≤ (((Int.toNat (IntKind.wrap .i64 (((n2 : Nat)) + ((n6 : Nat)))) - Int.toNat (0)) : Nat) : Int) ∧ (((Int.toNat (IntKind.wrap .i64 (((n2 : Nat)) + ((n6 : Nat)))) - Int.toNat (0)) : Nat) : Int) ≤ ((c3 - Int.toNat (0)) : Nat) ∧
 0 ≤ (i4 : Int) ∧ (i4 : Int) ≤ (((Int.toNat (IntKind.wrap .i64 (((n2 : Nat)) + ((n6 : Nat)))) - Int.toNat (0)) : Nat) : Int) ∧ (((Int.toNat (IntKind.wrap .i64 (((n2 : Nat)) + ((n6 : Nat)))) - Int.toNat (0)) : Nat) : Int) ≤ ((c3 - Int.toNat (0)) : Nat) ∧
 semH PG B (Builtin.copy_ #[164, 164] 3 #[(.slice (if (c3 - Int.toNat (0)) = Int.toNat (IntKind.wrap .i64 ((i4) + ((n6 : Nat)))) then (if c3 = Int.toNat (0) then a1 else Option.map (·.add (Int.toNat (0) * 2)) a1) else Option.map (·.add (Int.toNat (IntKind.wrap .i64 ((i4) + ((n6 : Nat)))) * 2)) (if c3 = Int.toNat (0) then a1 else Option.map (·.add (Int.toNat (0) * 2)) a1)) (Int.toNat (((Int.toNat (IntKind.wrap .i64 (((n2 : Nat)) + ((n6 : Nat)))) - Int.toNat (0)) : Nat)) - Int.toNat (IntKind.wrap .i64 ((i4) + ((n6 : Nat))))) ((c3 - Int.toNat (0)) - Int.toNat (IntKind.wrap .i64 ((i4) + ((n6 : Nat)))))), (.slice (if (c3 - Int.toNat (0)) = Int.toNat (i4) then (if c3 = Int.toNat (0) then a1 else Option.map (·.add (Int.toNat (0) * 2)) a1) else Option.map (·.add (Int.toNat (i4) * 2)) (if c3 = Int.toNat (0) then a1 else Option.map (·.add (Int.toNat (0) * 2)) a1)) (Int.toNat (((Int.toNat (IntKind.wrap .i64 (((n2 : Nat)) + ((n6 : Nat)))) - Int.toNat (0)) : Nat)) - Int.toNat (i4)) ((c3 - Int.toNat (0)) - Int.toNat (i4)))]) h23 (fun v h25 => ∃ i26 : Int, v = (.int .i64 (i26)) ∧
 0 ≤ (i4 : Int) ∧ (i4 : Int) ≤ (((Int.toNat (IntKind.wrap .i64 (((n2 : Nat)) + ((n6 : Nat)))) - Int.toNat (0)) : Nat) : Int) ∧ (((Int.toNat (IntKind.wrap .i64 (((n2 : Nat)) + ((n6 : Nat)))) - Int.toNat (0)) : Nat) : Int) ≤ ((c3 - Int.toNat (0)) : Nat) ∧
 semH PG B (Builtin.copy_ #[164, 164] 3 #[(.slice (if (c3 - Int.toNat (0)) = Int.toNat (i4) then (if c3 = Int.toNat (0) then a1 else Option.map (·.add (Int.toNat (0) * 2)) a1) else Option.map (·.add (Int.toNat (i4) * 2)) (if c3 = Int.toNat (0) then a1 else Option.map (·.add (Int.toNat (0) * 2)) a1)) (Int.toNat (((Int.toNat (IntKind.wrap .i64 (((n2 : Nat)) + ((n6 : Nat)))) - Int.toNat (0)) : Nat)) - Int.toNat (i4)) ((c3 - Int.toNat (0)) - Int.toNat (i4))), (.slice a5 n6 c7)]) h25 (fun v h27 => ∃ i28 : Int, v = (.int .i64 (i28)) ∧
 Fin B h27 (Q (if c3 = Int.toNat (0) then a1 else Option.map (·.add (Int.toNat (0) * 2)) a1) (Int.toNat (IntKind.wrap .i64 (((n2 : Nat)) + ((n6 : Nat)))) - Int.toNat (0)) (c3 - Int.toNat (0))))))))))
def S_cell_New_file_File (B : RO) (i1 : Int) (b2 : Bool) (s3 : ByteArray) (h : Heap) (Q : Option Addr → Heap → Prop) : Prop :=
 ∀ k5 : Nat, h k5 = none → B k5 = none → ∀ h6 : Heap, h6 = Heap.set h k5 (.vec 119 (plains [(.bool b2), (.string s3)]) 2) →
 ∀ k7 : Nat, h6 k7 = none → B k7 = none → ∀ h8 : Heap, h8 = Heap.set h6 k7 (.vec 219 (plains [(.slice none 0 0)]) 1) →
 ∃ (J14 : Int → Nat → Heap → Prop) (m12 : Nat), Fin B h8 (J14 (0) m12) ∧
 ∀ (i9 : Int) (m11 : Nat) (h10 : Heap), J14 i9 m11 h10 →
 ((i9 : Int) < (i1) →
 ∃ a19 : Option Addr, ∃ n20 : Nat, ∃ c21 : Nat, cellH B h10 ⟨k7, 0, none⟩ = some (.slice a19 n20 c21) ∧
 ∃ b23 : Bool, ∃ s24 : ByteArray, CellsAt B h10 ⟨k5, 0, none⟩ 0 [(.bool b23), (.string s24)] ∧
 ∀ k27 : Nat, h10 k27 = none → B k27 = none → ∀ h28 : Heap, h28 = Heap.set h10 k27 (.vec 216 (plains [(.bool b23), (.string s24), (.int .i64 (0))]) 3) →
 cellH B h28 ⟨k7, 0, none⟩ = some (.slice a19 n20 c21) ∧ CellsAt B h28 ⟨k5, 0, none⟩ 0 [(.bool b23), (.string s24)] ∧
 semH PG B (Builtin.append_ #[217, 217] 217 #[(.slice a19 n20 c21), (.slice (some ⟨k27, 0, none⟩) 1 1)]) h28 (fun v h31 => ∃ a32 : Option Addr, ∃ n33 : Nat, ∃ c34 : Nat, v = (.slice a32 n33 c34) ∧
 cellH B h31 ⟨k7, 0, none⟩ = some (.slice a19 n20 c21) ∧ CellsAt B h31 ⟨k5, 0, none⟩ 0 [(.bool b23), (.string s24)] ∧
 ∃ h37 : Heap, storeH h31 ⟨k7, 0, none⟩ (.slice a32 n33 c34) = some h37 ∧
 Fin B h37 (fun h' => ∃ m', m' < m11 ∧ J14 (IntKind.wrap .i64 ((i9) + (1))) m' h'))) ∧ (¬ ((i9 : Int) < (i1)) →
 Fin B h10 (Q (some ⟨k7, 0, none⟩)))
def S_sheet_New (B : RO) (h : Heap) (Q : Option Addr → Heap → Prop) : Prop :=
 ∀ k2 : Nat, h k2 = none → B k2 = none → ∀ h3 : Heap, h3 = Heap.set h k2 (.vec 207 (plains [(.slice none 0 0)]) 1) →
 ∀ k4 : Nat, h3 k4 = none → B k4 = none → ∀ h5 : Heap, h5 = Heap.set h3 k4 (.vec 204 (plains [(.pointer (some ⟨k2, 0, none⟩))]) 1) →
 Fin B h5 (Q (some ⟨k4, 0, none⟩))
def S_slices_BinarySearchFunc_s_draft_entry_int_draft_entry_int_int_J1 (B : RO) (a1 : Option Addr) (n2 : Nat) (c3 : Nat) (i4 : Int) (v5 : Value) (i9 : Int) (h10 : Heap) (Q : Int → Bool → Heap → Prop) : Prop :=
 ((i9 : Int) < ((n2 : Nat)) →
 ∃ A11 : Addr, a1 = some A11 ∧ 0 ≤ (i9 : Int) ∧ (i9 : Int) < (n2 : Nat) ∧
 ∃ i13 : Int, ∃ i14 : Int, CellsAt B h10 (Addr.add A11 (Int.toNat (i9) * 2)) 0 [(.int .i64 (i13)), (.int .i64 (i14))] ∧
 CallV PG B v5 [(.agg #[(.int .i64 (i13)), (.int .i64 (i14))]), (.int .i64 (i4))] h10 (fun v h15 => ∃ i16 : Int, v = (.int .i64 (i16)) ∧
 Fin B h15 (Q (i9) (((i16 : Int) == (0)))))) ∧ (¬ ((i9 : Int) < ((n2 : Nat))) →
 Fin B h10 (Q (i9) (false)))
def S_slices_BinarySearchFunc_s_draft_entry_int_draft_entry_int_int (B : RO) (a1 : Option Addr) (n2 : Nat) (c3 : Nat) (i4 : Int) (v5 : Value) (h : Heap) (Q : Int → Bool → Heap → Prop) : Prop :=
 ∃ (J23 : Int → Int → Nat → Heap → Prop) (m21 : Nat), Fin B h (J23 (0) ((n2 : Nat)) m21) ∧
 ∀ (i17 : Int) (i18 : Int) (m20 : Nat) (h19 : Heap), J23 i17 i18 m20 h19 →
 ((i17 : Int) < (i18) →
 ¬ ((1 : Int) < 0) ∧
 ∃ A24 : Addr, a1 = some A24 ∧ 0 ≤ (IntKind.wrap .i64 (Int.fdiv (IntKind.wrap .u64 (IntKind.wrap .i64 ((i17) + (i18)))) (2 ^ (min (Int.toNat (1)) (IntKind.bits .u64)))) : Int) ∧ (IntKind.wrap .i64 (Int.fdiv (IntKind.wrap .u64 (IntKind.wrap .i64 ((i17) + (i18)))) (2 ^ (min (Int.toNat (1)) (IntKind.bits .u64)))) : Int) < (n2 : Nat) ∧
 ∃ i26 : Int, ∃ i27 : Int, CellsAt B h19 (Addr.add A24 (Int.toNat (IntKind.wrap .i64 (Int.fdiv (IntKind.wrap .u64 (IntKind.wrap .i64 ((i17) + (i18)))) (2 ^ (min (Int.toNat (1)) (IntKind.bits .u64))))) * 2)) 0 [(.int .i64 (i26)), (.int .i64 (i27))] ∧
 CallV PG B v5 [(.agg #[(.int .i64 (i26)), (.int .i64 (i27))]), (.int .i64 (i4))] h19 (fun v h28 => ∃ i29 : Int, v = (.int .i64 (i29)) ∧
 ((i29 : Int) < (0) →
 Fin B h28 (fun h' => ∃ m', m' < m20 ∧ J23 (IntKind.wrap .i64 ((IntKind.wrap .i64 (Int.fdiv (IntKind.wrap .u64 (IntKind.wrap .i64 ((i17) + (i18)))) (2 ^ (min (Int.toNat (1)) (IntKind.bits .u64))))) + (1))) (i18) m' h')) ∧ (¬ ((i29 : Int) < (0)) →
 Fin B h28 (fun h' => ∃ m', m' < m20 ∧ J23 (i17) (IntKind.wrap .i64 (Int.fdiv (IntKind.wrap .u64 (IntKind.wrap .i64 ((i17) + (i18)))) (2 ^ (min (Int.toNat (1)) (IntKind.bits .u64))))) m' h')))) ∧ (¬ ((i17 : Int) < (i18)) →
 Fin B h19 (fun h' => S_slices_BinarySearchFunc_s_draft_entry_int_draft_entry_int_int_J1 B a1 n2 c3 i4 v5 (i17) h' Q))
def S_draft_by_int (B : RO) (i1 : Int) (i2 : Int) (i3 : Int) (h : Heap) (Q : Int → Heap → Prop) : Prop :=
 ∀ k5 : Nat, h k5 = none → B k5 = none → ∀ h6 : Heap, h6 = Heap.set h k5 (.vec 163 (plains [(.int .i64 (i1)), (.int .i64 (i2))]) 2) →
 ∃ i7 : Int, cellH B h6 ⟨k5, 0, none⟩ = some (.int .i64 (i7)) ∧
 ((i7 : Int) < (i3) →
 Fin B h6 (Q ((-1)))) ∧ (¬ ((i7 : Int) < (i3)) →
 ∃ i8 : Int, cellH B h6 ⟨k5, 0, none⟩ = some (.int .i64 (i8)) ∧
 ((i8 : Int) > (i3) →
 Fin B h6 (Q (1))) ∧ (¬ ((i8 : Int) > (i3)) →
 Fin B h6 (Q (0))))
def S_reads_Set_place (B : RO) (p1 : Option Addr) (i2 : Int) (i3 : Int) (h : Heap) (Q : Int → Heap → Prop) : Prop :=
 ∀ k5 : Nat, h k5 = none → B k5 = none → ∀ h6 : Heap, h6 = Heap.set h k5 (.vec 110 [.plain (.int .i64 (i2))] 1) →
 ∀ k7 : Nat, h6 k7 = none → B k7 = none → ∀ h8 : Heap, h8 = Heap.set h6 k7 (.vec 3 [.plain (.int .i64 (i3))] 1) →
 ∃ A9 : Addr, p1 = some A9 ∧
 LdSl B h8 A9 fun a11 n12 c13 h14 =>
 C_slices_IndexFunc_s_reads_Entry_reads_Entry B a11 n12 c13 (Value.func (.func 133) #[] #[(.pointer (some ⟨k5, 0, none⟩)), (.pointer (some ⟨k7, 0, none⟩))]) h14 (fun i16 h15 =>
 Fin B h15 (Q (i16)))
def S_draft_Draft_file_File_All_1 (B : RO) (v1 : Value) (A2 : Addr) (h : Heap) (Q : Heap → Prop) : Prop :=
 ∃ p3 : Option Addr, cellH B h A2 = some (.pointer p3) ∧
 (p3 = none →
 Fin B h (Q)) ∧ (¬ (p3 = none) →
 ∃ p5 : Option Addr, cellH B h A2 = some (.pointer p5) ∧
 ∃ A6 : Addr, p5 = some A6 ∧
 LdSl B h A6 fun a8 n9 c10 h11 =>
 ∃ (J17 : Int → Nat → Heap → Prop) (m15 : Nat), Fin B h11 (J17 (0) m15) ∧
 ∀ (i12 : Int) (m14 : Nat) (h13 : Heap), J17 i12 m14 h13 →
 ((i12 : Int) < ((n9 : Nat)) →
 ∃ A18 : Addr, a8 = some A18 ∧ 0 ≤ (i12 : Int) ∧ (i12 : Int) < (n9 : Nat) ∧
 ∃ i20 : Int, ∃ b21 : Bool, ∃ s22 : ByteArray, CellsAt B h13 (Addr.add A18 (Int.toNat (i12) * 3)) 0 [(.int .i64 (i20)), (.bool b21), (.string s22)] ∧
 ∀ k23 : Nat, h13 k23 = none → B k23 = none → ∀ h24 : Heap, h24 = Heap.set h13 k23 (.vec 213 (plains [(.int .i64 (0)), (.bool false), (.string ByteArray.empty)]) 3) →
 ∃ h25 : Heap, StoresAt ⟨k23, 0, none⟩ h24 0 [(.int .i64 (i20)), (.bool b21), (.string s22)] h25 ∧
 ∃ i26 : Int, cellH B h25 ⟨k23, 0, none⟩ = some (.int .i64 (i26)) ∧
 ∃ b27 : Bool, ∃ s28 : ByteArray, CellsAt B h25 ⟨k23, 1, none⟩ 0 [(.bool b27), (.string s28)] ∧
 CallV PG B v1 [(.int .i64 (i26)), (.agg #[(.bool b27), (.string s28)])] h25 (fun v h29 => ∃ b30 : Bool, v = (.bool b30) ∧
 (b30 = true →
 Fin B h29 (fun h' => ∃ m', m' < m14 ∧ J17 (IntKind.wrap .i64 ((i12) + (1))) m' h')) ∧ (b30 = false →
 Fin B h29 (Q)))) ∧ (¬ ((i12 : Int) < ((n9 : Nat))) →
 Fin B h13 (Q)))
def S_file_Good (B : RO) (b1 : Bool) (s2 : ByteArray) (h : Heap) (Q : Bool → Heap → Prop) : Prop :=
 ∀ k4 : Nat, h k4 = none → B k4 = none → ∀ h5 : Heap, h5 = Heap.set h k4 (.vec 119 (plains [(.bool b1), (.string s2)]) 2) →
 ∃ s6 : ByteArray, cellH B h5 ⟨k4, 1, none⟩ = some (.string s6) ∧
 (((ByteArray.size s6 : Nat) : Int) ≤ (32) →
 ∃ b7 : Bool, cellH B h5 ⟨k4, 0, none⟩ = some (.bool b7) ∧ (b7 = true →
 Fin B h5 (Q (true))) ∧ (b7 = false →
 ∃ s8 : ByteArray, cellH B h5 ⟨k4, 1, none⟩ = some (.string s8) ∧
 Fin B h5 (Q ((decide (s8 = (ByteArray.mk #[]))))))) ∧ (¬ (((ByteArray.size s6 : Nat) : Int) ≤ (32)) →
 Fin B h5 (Q (false)))
def S_cell_Row_file_File_Set (B : RO) (p1 : Option Addr) (i2 : Int) (b3 : Bool) (s4 : ByteArray) (i5 : Int) (h : Heap) (Q : Bool → Heap → Prop) : Prop :=
 ∀ k7 : Nat, h k7 = none → B k7 = none → ∀ h8 : Heap, h8 = Heap.set h k7 (.vec 119 (plains [(.bool b3), (.string s4)]) 2) →
 C_cell_Row_file_File_is B p1 (i2) h8 (fun b10 h9 =>
 (b10 = true →
 ∃ A11 : Addr, p1 = some A11 ∧
 ∃ a13 : Option Addr, ∃ n14 : Nat, ∃ c15 : Nat, cellH B h9 A11 = some (.slice a13 n14 c15) ∧
 ∃ b16 : Bool, ∃ s17 : ByteArray, CellsAt B h9 ⟨k7, 0, none⟩ 0 [(.bool b16), (.string s17)] ∧
 ∃ A18 : Addr, a13 = some A18 ∧ 0 ≤ (i2 : Int) ∧ (i2 : Int) < (n14 : Nat) ∧
 ∃ h20 : Heap, StoresAt (Addr.add A18 (Int.toNat (i2) * 3)) h9 0 [(.bool b16), (.string s17), (.int .i64 (i5))] h20 ∧
 Fin B h20 (Q (true))) ∧ (b10 = false →
 Fin B h9 (Q (false))))
def S_cell_Row_file_File_is (B : RO) (p1 : Option Addr) (i2 : Int) (h : Heap) (Q : Bool → Heap → Prop) : Prop :=
 (p1 = none →
 Fin B h (Q (false))) ∧ (¬ (p1 = none) →
 ((i2 : Int) ≥ (0) →
 ∃ A5 : Addr, p1 = some A5 ∧
 LdSl B h A5 fun a7 n8 c9 h10 =>
 Fin B h10 (Q ((decide ((i2 : Int) < ((n8 : Nat))))))) ∧ (¬ ((i2 : Int) ≥ (0)) →
 Fin B h (Q (false))))
def S_sheet_Sheet_Get_J1 (B : RO) (p2 : Option Addr) (i3 : Int) (k7 : Nat) (h10 : Heap) (Q : Bool → ByteArray → Bool → Heap → Prop) : Prop :=
 C_tome_Tome_Get B p2 (i3) h10 (fun b12 s13 i14 h11 =>
 ∀ k15 : Nat, h11 k15 = none → B k15 = none → ∀ h16 : Heap, h16 = Heap.set h11 k15 (.vec 119 (plains [(.bool false), (.string ByteArray.empty)]) 2) →
 ∃ h17 : Heap, StoresAt ⟨k15, 0, none⟩ h16 0 [(.bool b12), (.string s13)] h17 ∧
 ∃ b18 : Bool, ∃ s19 : ByteArray, CellsAt B h17 ⟨k15, 0, none⟩ 0 [(.bool b18), (.string s19)] ∧
 ∃ h20 : Heap, StoresAt ⟨k7, 0, none⟩ h17 0 [(.bool b18), (.string s19)] h20 ∧
 ∃ b21 : Bool, ∃ s22 : ByteArray, CellsAt B h20 ⟨k7, 0, none⟩ 0 [(.bool b21), (.string s22)] ∧ Fin B h20 (Q (b21) s22 (false)))
def S_sheet_Sheet_Get (B : RO) (p1 : Option Addr) (p2 : Option Addr) (i3 : Int) (h : Heap) (Q : Bool → ByteArray → Bool → Heap → Prop) : Prop :=
 ∀ k7 : Nat, h k7 = none → B k7 = none → ∀ h8 : Heap, h8 = Heap.set h k7 (.vec 119 (plains [(.bool false), (.string ByteArray.empty)]) 2) →
 (p1 = none →
 Fin B h8 (fun h' => S_sheet_Sheet_Get_J1 B p2 i3 k7 h' Q)) ∧ (¬ (p1 = none) →
 ∃ A24 : Addr, p1 = some A24 ∧
 ∃ p26 : Option Addr, cellH B h8 A24 = some (.pointer p26) ∧
 C_draft_Draft_file_File_Get B p26 (i3) h8 (fun b28 s29 b30 h27 =>
 (b30 = true →
 ∀ k34 : Nat, h27 k34 = none → B k34 = none → ∀ h35 : Heap, h35 = Heap.set h27 k34 (.vec 119 (plains [(.bool false), (.string ByteArray.empty)]) 2) →
 ∃ h36 : Heap, StoresAt ⟨k34, 0, none⟩ h35 0 [(.bool b28), (.string s29)] h36 ∧
 ∃ b37 : Bool, ∃ s38 : ByteArray, CellsAt B h36 ⟨k34, 0, none⟩ 0 [(.bool b37), (.string s38)] ∧
 ∃ h39 : Heap, StoresAt ⟨k7, 0, none⟩ h36 0 [(.bool b37), (.string s38)] h39 ∧
 ∃ b40 : Bool, ∃ s41 : ByteArray, CellsAt B h39 ⟨k7, 0, none⟩ 0 [(.bool b40), (.string s41)] ∧ Fin B h39 (Q (b40) s41 (true))) ∧ (b30 = false →
 ∀ k31 : Nat, h27 k31 = none → B k31 = none → ∀ h32 : Heap, h32 = Heap.set h27 k31 (.vec 119 (plains [(.bool false), (.string ByteArray.empty)]) 2) →
 ∃ h33 : Heap, StoresAt ⟨k31, 0, none⟩ h32 0 [(.bool b28), (.string s29)] h33 ∧
 Fin B h33 (fun h' => S_sheet_Sheet_Get_J1 B p2 i3 k7 h' Q))))
def S_sheet_Sheet_put_J1 (B : RO) (p1 : Option Addr) (p2 : Option Addr) (i3 : Int) (k7 : Nat) (h10 : Heap) (Q : Bool → Heap → Prop) : Prop :=
 C_sheet_Sheet_Get B p1 p2 (i3) h10 (fun b12 s13 b14 h11 =>
 ∀ k15 : Nat, h11 k15 = none → B k15 = none → ∀ h16 : Heap, h16 = Heap.set h11 k15 (.vec 119 (plains [(.bool false), (.string ByteArray.empty)]) 2) →
 ∃ h17 : Heap, StoresAt ⟨k15, 0, none⟩ h16 0 [(.bool b12), (.string s13)] h17 ∧
 ∃ b18 : Bool, ∃ s19 : ByteArray, CellsAt B h17 ⟨k15, 0, none⟩ 0 [(.bool b18), (.string s19)] ∧
 ∃ b20 : Bool, ∃ s21 : ByteArray, CellsAt B h17 ⟨k7, 0, none⟩ 0 [(.bool b20), (.string s21)] ∧
 (eqL [(.bool b18), (.string s19)] [(.bool b20), (.string s21)] = true →
 Fin B h17 (Q (true))) ∧ (¬ (eqL [(.bool b18), (.string s19)] [(.bool b20), (.string s21)] = true) →
 ∃ A24 : Addr, p1 = some A24 ∧
 ∃ p28 : Option Addr, cellH B h17 A24 = some (.pointer p28) ∧
 ∃ b31 : Bool, ∃ s32 : ByteArray, CellsAt B h17 ⟨k7, 0, none⟩ 0 [(.bool b31), (.string s32)] ∧
 C_draft_Draft_file_File_Put B p28 (i3) (b31) s32 h17 (fun b35 h34 =>
 cellH B h34 A24 = some (.pointer p28) ∧ CellsAt B h34 ⟨k7, 0, none⟩ 0 [(.bool b31), (.string s32)] ∧
 Fin B h34 (Q (b35)))))
def S_sheet_Sheet_put (B : RO) (p1 : Option Addr) (p2 : Option Addr) (i3 : Int) (b4 : Bool) (s5 : ByteArray) (h : Heap) (Q : Bool → Heap → Prop) : Prop :=
 ∀ k7 : Nat, h k7 = none → B k7 = none → ∀ h8 : Heap, h8 = Heap.set h k7 (.vec 119 (plains [(.bool b4), (.string s5)]) 2) →
 (p1 = none →
 Fin B h8 (Q (false))) ∧ (¬ (p1 = none) →
 ((i3 : Int) < (0) →
 Fin B h8 (Q (false))) ∧ (¬ ((i3 : Int) < (0)) →
 ((i3 : Int) ≥ (6) →
 Fin B h8 (Q (false))) ∧ (¬ ((i3 : Int) ≥ (6)) →
 Fin B h8 (fun h' => S_sheet_Sheet_put_J1 B p1 p2 i3 k7 h' Q))))
def S_file_Put_J2 (B : RO) (i3 : Int) (i4 : Int) (k9 : Nat) (a19 : Option Addr) (n20 : Nat) (c21 : Nat) (h22 : Heap) (Q : Bool → ByteArray → Heap → Prop) : Prop :=
 ∃ A23 : Addr, a19 = some A23 ∧ 0 ≤ (i3 : Int) ∧ (i3 : Int) < (n20 : Nat) ∧
 ∃ h25 : Heap, storeH h22 (Addr.add A23 (Int.toNat (i3) * 1)) (.int .u8 (i4)) = some h25 ∧
 semH PG B (convert 226 9 (.slice a19 n20 c21)) h25 (fun v h27 => ∃ s26 : ByteArray, v = (.string s26) ∧
 ∃ h28 : Heap, StoresAt ⟨k9, 0, none⟩ h27 0 [(.bool true), (.string s26)] h28 ∧
 ∃ b29 : Bool, ∃ s30 : ByteArray, CellsAt B h28 ⟨k9, 0, none⟩ 0 [(.bool b29), (.string s30)] ∧ Fin B h28 (Q (b29) s30))
def S_file_Put_J1 (B : RO) (i3 : Int) (i4 : Int) (k7 : Nat) (k9 : Nat) (h12 : Heap) (Q : Bool → ByteArray → Heap → Prop) : Prop :=
 ∃ s13 : ByteArray, cellH B h12 ⟨k7, 1, none⟩ = some (.string s13) ∧
 semH PG B (convert 9 226 (.string s13)) h12 (fun v h17 => ∃ a14 : Option Addr, ∃ n15 : Nat, ∃ c16 : Nat, v = (.slice a14 n15 c16) ∧
 ∃ (J38 : Option Addr → Nat → Nat → Nat → Heap → Prop) (m36 : Nat), Fin B h17 (J38 a14 n15 c16 m36) ∧
 ∀ (a31 : Option Addr) (n32 : Nat) (c33 : Nat) (m35 : Nat) (h34 : Heap), J38 a31 n32 c33 m35 h34 →
 (((n32 : Nat) : Int) ≤ (i3) →
 ∀ k39 : Nat, h34 k39 = none → B k39 = none → ∀ h40 : Heap, h40 = Heap.set h34 k39 (.vec 5 (plains [(.int .u8 (0))]) 1) →
 semH PG B (Builtin.append_ #[226, 226] 226 #[(.slice a31 n32 c33), (.slice (some ⟨k39, 0, none⟩) 1 1)]) h40 (fun v h41 => ∃ a42 : Option Addr, ∃ n43 : Nat, ∃ c44 : Nat, v = (.slice a42 n43 c44) ∧
 Fin B h41 (fun h' => ∃ m', m' < m35 ∧ J38 a42 n43 c44 m' h'))) ∧ (¬ (((n32 : Nat) : Int) ≤ (i3)) →
 Fin B h34 (fun h' => S_file_Put_J2 B i3 i4 k9 a31 n32 c33 h' Q)))
def S_file_Put (B : RO) (b1 : Bool) (s2 : ByteArray) (i3 : Int) (i4 : Int) (h : Heap) (Q : Bool → ByteArray → Heap → Prop) : Prop :=
 ∀ k7 : Nat, h k7 = none → B k7 = none → ∀ h8 : Heap, h8 = Heap.set h k7 (.vec 119 (plains [(.bool b1), (.string s2)]) 2) →
 ∀ k9 : Nat, h8 k9 = none → B k9 = none → ∀ h10 : Heap, h10 = Heap.set h8 k9 (.vec 119 (plains [(.bool false), (.string ByteArray.empty)]) 2) →
 ((i3 : Int) < (0) →
 ∃ b45 : Bool, ∃ s46 : ByteArray, CellsAt B h10 ⟨k7, 0, none⟩ 0 [(.bool b45), (.string s46)] ∧
 ∃ h47 : Heap, StoresAt ⟨k9, 0, none⟩ h10 0 [(.bool b45), (.string s46)] h47 ∧
 ∃ b48 : Bool, ∃ s49 : ByteArray, CellsAt B h47 ⟨k9, 0, none⟩ 0 [(.bool b48), (.string s49)] ∧ Fin B h47 (Q (b48) s49)) ∧ (¬ ((i3 : Int) < (0)) →
 ((i3 : Int) ≥ (32) →
 ∃ b50 : Bool, ∃ s51 : ByteArray, CellsAt B h10 ⟨k7, 0, none⟩ 0 [(.bool b50), (.string s51)] ∧
 ∃ h52 : Heap, StoresAt ⟨k9, 0, none⟩ h10 0 [(.bool b50), (.string s51)] h52 ∧
 ∃ b53 : Bool, ∃ s54 : ByteArray, CellsAt B h52 ⟨k9, 0, none⟩ 0 [(.bool b53), (.string s54)] ∧ Fin B h52 (Q (b53) s54)) ∧ (¬ ((i3 : Int) ≥ (32)) →
 Fin B h10 (fun h' => S_file_Put_J1 B i3 i4 k7 k9 h' Q)))
def S_file_Make (B : RO) (b1 : Bool) (s2 : ByteArray) (h : Heap) (Q : Bool → ByteArray → Heap → Prop) : Prop :=
 ∀ k5 : Nat, h k5 = none → B k5 = none → ∀ h6 : Heap, h6 = Heap.set h k5 (.vec 119 (plains [(.bool b1), (.string s2)]) 2) →
 ∀ k7 : Nat, h6 k7 = none → B k7 = none → ∀ h8 : Heap, h8 = Heap.set h6 k7 (.vec 119 (plains [(.bool false), (.string ByteArray.empty)]) 2) →
 ∃ s9 : ByteArray, cellH B h8 ⟨k5, 1, none⟩ = some (.string s9) ∧
 ∃ h10 : Heap, StoresAt ⟨k7, 0, none⟩ h8 0 [(.bool true), (.string s9)] h10 ∧
 ∃ b11 : Bool, ∃ s12 : ByteArray, CellsAt B h10 ⟨k7, 0, none⟩ 0 [(.bool b11), (.string s12)] ∧ Fin B h10 (Q (b11) s12)
def S_file_Cut_J1 (B : RO) (i3 : Int) (k6 : Nat) (k8 : Nat) (h11 : Heap) (Q : Bool → ByteArray → Heap → Prop) : Prop :=
 ∃ s12 : ByteArray, cellH B h11 ⟨k6, 1, none⟩ = some (.string s12) ∧
 ((i3 : Int) ≤ ((ByteArray.size s12 : Nat)) →
 ∃ s13 : ByteArray, cellH B h11 ⟨k6, 1, none⟩ = some (.string s13) ∧
 0 ≤ (0 : Int) ∧ (0 : Int) ≤ (i3 : Int) ∧ (i3 : Int) ≤ (ByteArray.size s13 : Nat) ∧
 ∃ h14 : Heap, StoresAt ⟨k8, 0, none⟩ h11 0 [(.bool true), (.string (ByteArray.extract s13 (Int.toNat (0)) (Int.toNat (i3))))] h14 ∧
 ∃ b15 : Bool, ∃ s16 : ByteArray, CellsAt B h14 ⟨k8, 0, none⟩ 0 [(.bool b15), (.string s16)] ∧ Fin B h14 (Q (b15) s16)) ∧ (¬ ((i3 : Int) ≤ ((ByteArray.size s12 : Nat))) →
 ∃ s18 : ByteArray, cellH B h11 ⟨k6, 1, none⟩ = some (.string s18) ∧
 ∃ s22 : ByteArray, cellH B h11 ⟨k6, 1, none⟩ = some (.string s22) ∧
 C_strings_Repeat B (ByteArray.mk #[0]) (IntKind.wrap .i64 ((i3) - ((ByteArray.size s22 : Nat)))) h11 (fun s27 h26 =>
 cellH B h26 ⟨k6, 1, none⟩ = some (.string s18) ∧ cellH B h26 ⟨k6, 1, none⟩ = some (.string s22) ∧
 ByteArray.size s18 + ByteArray.size s27 ≤ 4611686018427387904 ∧
 ∃ h30 : Heap, StoresAt ⟨k8, 0, none⟩ h26 0 [(.bool true), (.string (s18 ++ s27))] h30 ∧
 ∃ b31 : Bool, ∃ s32 : ByteArray, CellsAt B h30 ⟨k8, 0, none⟩ 0 [(.bool b31), (.string s32)] ∧ Fin B h30 (Q (b31) s32)))
def S_file_Cut (B : RO) (b1 : Bool) (s2 : ByteArray) (i3 : Int) (h : Heap) (Q : Bool → ByteArray → Heap → Prop) : Prop :=
 ∀ k6 : Nat, h k6 = none → B k6 = none → ∀ h7 : Heap, h7 = Heap.set h k6 (.vec 119 (plains [(.bool b1), (.string s2)]) 2) →
 ∀ k8 : Nat, h7 k8 = none → B k8 = none → ∀ h9 : Heap, h9 = Heap.set h7 k8 (.vec 119 (plains [(.bool false), (.string ByteArray.empty)]) 2) →
 ∃ b33 : Bool, cellH B h9 ⟨k6, 0, none⟩ = some (.bool b33) ∧ (b33 = true →
 ((i3 : Int) < (0) →
 ∃ b39 : Bool, ∃ s40 : ByteArray, CellsAt B h9 ⟨k6, 0, none⟩ 0 [(.bool b39), (.string s40)] ∧
 ∃ h41 : Heap, StoresAt ⟨k8, 0, none⟩ h9 0 [(.bool b39), (.string s40)] h41 ∧
 ∃ b42 : Bool, ∃ s43 : ByteArray, CellsAt B h41 ⟨k8, 0, none⟩ 0 [(.bool b42), (.string s43)] ∧ Fin B h41 (Q (b42) s43)) ∧ (¬ ((i3 : Int) < (0)) →
 ((i3 : Int) > (32) →
 ∃ b44 : Bool, ∃ s45 : ByteArray, CellsAt B h9 ⟨k6, 0, none⟩ 0 [(.bool b44), (.string s45)] ∧
 ∃ h46 : Heap, StoresAt ⟨k8, 0, none⟩ h9 0 [(.bool b44), (.string s45)] h46 ∧
 ∃ b47 : Bool, ∃ s48 : ByteArray, CellsAt B h46 ⟨k8, 0, none⟩ 0 [(.bool b47), (.string s48)] ∧ Fin B h46 (Q (b47) s48)) ∧ (¬ ((i3 : Int) > (32)) →
 Fin B h9 (fun h' => S_file_Cut_J1 B i3 k6 k8 h' Q)))) ∧ (b33 = false →
 ∃ b34 : Bool, ∃ s35 : ByteArray, CellsAt B h9 ⟨k6, 0, none⟩ 0 [(.bool b34), (.string s35)] ∧
 ∃ h36 : Heap, StoresAt ⟨k8, 0, none⟩ h9 0 [(.bool b34), (.string s35)] h36 ∧
 ∃ b37 : Bool, ∃ s38 : ByteArray, CellsAt B h36 ⟨k8, 0, none⟩ 0 [(.bool b37), (.string s38)] ∧ Fin B h36 (Q (b37) s38))
def S_slices_IndexFunc_s_reads_Entry_reads_Entry (B : RO) (a1 : Option Addr) (n2 : Nat) (c3 : Nat) (v4 : Value) (h : Heap) (Q : Int → Heap → Prop) : Prop :=
 ∃ (J11 : Int → Nat → Heap → Prop) (m9 : Nat), Fin B h (J11 (0) m9) ∧
 ∀ (i6 : Int) (m8 : Nat) (h7 : Heap), J11 i6 m8 h7 →
 ((i6 : Int) < ((n2 : Nat)) →
 ∃ A12 : Addr, a1 = some A12 ∧ 0 ≤ (i6 : Int) ∧ (i6 : Int) < (n2 : Nat) ∧
 ∃ i14 : Int, ∃ i15 : Int, ∃ i16 : Int, CellsAt B h7 (Addr.add A12 (Int.toNat (i6) * 3)) 0 [(.int .i64 (i14)), (.int .i64 (i15)), (.int .i64 (i16))] ∧
 CallV PG B v4 [(.agg #[(.int .i64 (i14)), (.int .i64 (i15)), (.int .i64 (i16))])] h7 (fun v h17 => ∃ b18 : Bool, v = (.bool b18) ∧
 (b18 = true →
 Fin B h17 (Q (i6))) ∧ (b18 = false →
 Fin B h17 (fun h' => ∃ m', m' < m8 ∧ J11 (IntKind.wrap .i64 ((i6) + (1))) m' h')))) ∧ (¬ ((i6 : Int) < ((n2 : Nat))) →
 Fin B h7 (Q ((-1))))
def S_reads_Set_place_1 (B : RO) (i1 : Int) (i2 : Int) (i3 : Int) (A4 : Addr) (A5 : Addr) (h : Heap) (Q : Bool → Heap → Prop) : Prop :=
 ∀ k7 : Nat, h k7 = none → B k7 = none → ∀ h8 : Heap, h8 = Heap.set h k7 (.vec 174 (plains [(.int .i64 (i1)), (.int .i64 (i2)), (.int .i64 (i3))]) 3) →
 ∃ i9 : Int, cellH B h8 ⟨k7, 0, none⟩ = some (.int .i64 (i9)) ∧
 ∃ i10 : Int, cellH B h8 A4 = some (.int .i64 (i10)) ∧
 ((i9 : Int) = i10 →
 ∃ i11 : Int, cellH B h8 ⟨k7, 1, none⟩ = some (.int .i64 (i11)) ∧
 ∃ i12 : Int, cellH B h8 A5 = some (.int .i64 (i12)) ∧
 Fin B h8 (Q (((i11 : Int) == (i12))))) ∧ (¬ ((i9 : Int) = i10) →
 Fin B h8 (Q (false)))
def S_draft_Draft_file_File_Get (B : RO) (p1 : Option Addr) (i2 : Int) (h : Heap) (Q : Bool → ByteArray → Bool → Heap → Prop) : Prop :=
 ∀ k6 : Nat, h k6 = none → B k6 = none → ∀ h7 : Heap, h7 = Heap.set h k6 (.vec 119 (plains [(.bool false), (.string ByteArray.empty)]) 2) →
 ∀ k8 : Nat, h7 k8 = none → B k8 = none → ∀ h9 : Heap, h9 = Heap.set h7 k8 (.vec 119 (plains [(.bool false), (.string ByteArray.empty)]) 2) →
 (p1 = none →
 ∃ b11 : Bool, ∃ s12 : ByteArray, CellsAt B h9 ⟨k8, 0, none⟩ 0 [(.bool b11), (.string s12)] ∧
 ∃ h13 : Heap, StoresAt ⟨k6, 0, none⟩ h9 0 [(.bool b11), (.string s12)] h13 ∧
 ∃ b14 : Bool, ∃ s15 : ByteArray, CellsAt B h13 ⟨k6, 0, none⟩ 0 [(.bool b14), (.string s15)] ∧ Fin B h13 (Q (b14) s15 (false))) ∧ (¬ (p1 = none) →
 C_draft_Draft_file_File_find B p1 (i2) h9 (fun i17 b18 h16 =>
 (b18 = true →
 ∃ A24 : Addr, p1 = some A24 ∧
 LdSl B h16 A24 fun a26 n27 c28 h29 =>
 ∃ A30 : Addr, a26 = some A30 ∧ 0 ≤ (i17 : Int) ∧ (i17 : Int) < (n27 : Nat) ∧
 ∃ b32 : Bool, ∃ s33 : ByteArray, CellsAt B h29 (Addr.add (Addr.add A30 (Int.toNat (i17) * 3)) 1) 0 [(.bool b32), (.string s33)] ∧
 ∃ h34 : Heap, StoresAt ⟨k6, 0, none⟩ h29 0 [(.bool b32), (.string s33)] h34 ∧
 ∃ b35 : Bool, ∃ s36 : ByteArray, CellsAt B h34 ⟨k6, 0, none⟩ 0 [(.bool b35), (.string s36)] ∧ Fin B h34 (Q (b35) s36 (true))) ∧ (b18 = false →
 ∃ b19 : Bool, ∃ s20 : ByteArray, CellsAt B h16 ⟨k8, 0, none⟩ 0 [(.bool b19), (.string s20)] ∧
 ∃ h21 : Heap, StoresAt ⟨k6, 0, none⟩ h16 0 [(.bool b19), (.string s20)] h21 ∧
 ∃ b22 : Bool, ∃ s23 : ByteArray, CellsAt B h21 ⟨k6, 0, none⟩ 0 [(.bool b22), (.string s23)] ∧ Fin B h21 (Q (b22) s23 (false)))))
def S_draft_Draft_file_File_Put (B : RO) (p1 : Option Addr) (i2 : Int) (b3 : Bool) (s4 : ByteArray) (h : Heap) (Q : Bool → Heap → Prop) : Prop :=
 ∀ k6 : Nat, h k6 = none → B k6 = none → ∀ h7 : Heap, h7 = Heap.set h k6 (.vec 119 (plains [(.bool b3), (.string s4)]) 2) →
 (p1 = none →
 Fin B h7 (Q (false))) ∧ (¬ (p1 = none) →
 C_draft_Draft_file_File_find B p1 (i2) h7 (fun i10 b11 h9 =>
 (b11 = true →
 ∃ A41 : Addr, p1 = some A41 ∧
 ∃ a43 : Option Addr, ∃ n44 : Nat, ∃ c45 : Nat, cellH B h9 A41 = some (.slice a43 n44 c45) ∧
 ∃ b46 : Bool, ∃ s47 : ByteArray, CellsAt B h9 ⟨k6, 0, none⟩ 0 [(.bool b46), (.string s47)] ∧
 ∃ A48 : Addr, a43 = some A48 ∧ 0 ≤ (i10 : Int) ∧ (i10 : Int) < (n44 : Nat) ∧
 ∃ h50 : Heap, StoresAt (Addr.add (Addr.add A48 (Int.toNat (i10) * 3)) 1) h9 0 [(.bool b46), (.string s47)] h50 ∧
 Fin B h50 (Q (true))) ∧ (b11 = false →
 ∃ A14 : Addr, p1 = some A14 ∧
 ∃ a18 : Option Addr, ∃ n19 : Nat, ∃ c20 : Nat, cellH B h9 A14 = some (.slice a18 n19 c20) ∧
 ∃ b24 : Bool, ∃ s25 : ByteArray, CellsAt B h9 ⟨k6, 0, none⟩ 0 [(.bool b24), (.string s25)] ∧
 ∀ k28 : Nat, h9 k28 = none → B k28 = none → ∀ h29 : Heap, h29 = Heap.set h9 k28 (.vec 213 (plains [(.int .i64 (i2)), (.bool b24), (.string s25)]) 3) →
 cellH B h29 A14 = some (.slice a18 n19 c20) ∧ CellsAt B h29 ⟨k6, 0, none⟩ 0 [(.bool b24), (.string s25)] ∧
 C_slices_Insert_s_draft_entry_file_File_draft_entry_file_File B a18 n19 c20 (i10) (some ⟨k28, 0, none⟩) 1 1 h29 (fun a33 n34 c35 h32 =>
 cellH B h32 A14 = some (.slice a18 n19 c20) ∧ CellsAt B h32 ⟨k6, 0, none⟩ 0 [(.bool b24), (.string s25)] ∧
 ∃ A38 : Addr, p1 = some A38 ∧
 ∃ h40 : Heap, storeH h32 A38 (.slice a33 n34 c35) = some h40 ∧
 Fin B h40 (Q (true))))))
def S_draft_Draft_file_File_find (B : RO) (p1 : Option Addr) (i2 : Int) (h : Heap) (Q : Int → Bool → Heap → Prop) : Prop :=
 ∃ A5 : Addr, p1 = some A5 ∧
 LdSl B h A5 fun a7 n8 c9 h10 =>
 C_slices_BinarySearchFunc_s_draft_entry_file_File_draft_entry_file_File_int B a7 n8 c9 (i2) (Value.func (.func 152) #[] #[]) h10 (fun i12 b13 h11 =>
 Fin B h11 (Q (i12) (b13)))
def S_slices_Insert_s_draft_entry_file_File_draft_entry_file_File (B : RO) (a1 : Option Addr) (n2 : Nat) (c3 : Nat) (i4 : Int) (a5 : Option Addr) (n6 : Nat) (c7 : Nat) (h : Heap) (Q : Option Addr → Nat → Nat → Heap → Prop) : Prop :=
 0 ≤ (i4 : Int) ∧ (i4 : Int) ≤ ((n2 : Nat) : Int) ∧ ((n2 : Nat) : Int) ≤ (c3 : Nat) ∧
 (((n6 : Nat) : Int) = 0 →
 Fin B h (Q a1 n2 c3)) ∧ (¬ (((n6 : Nat) : Int) = 0) →
 ((i4 : Int) = (n2 : Nat) →
 semH PG B (Builtin.append_ #[205, 205] 205 #[(.slice a1 n2 c3), (.slice a5 n6 c7)]) h (fun v h11 => ∃ a12 : Option Addr, ∃ n13 : Nat, ∃ c14 : Nat, v = (.slice a12 n13 c14) ∧
 Fin B h11 (Q a12 n13 c14))) ∧ (¬ ((i4 : Int) = (n2 : Nat)) →
 ((IntKind.wrap .i64 (((n2 : Nat)) + ((n6 : Nat))) : Int) > ((c3 : Nat)) →
 0 ≤ (0 : Int) ∧ (0 : Int) ≤ (i4 : Int) ∧ (i4 : Int) ≤ (c3 : Nat) ∧
 semH PG B (Builtin.append_ #[205, 3] 205 #[(.slice (if c3 = Int.toNat (0) then a1 else Option.map (·.add (Int.toNat (0) * 3)) a1) (Int.toNat (i4) - Int.toNat (0)) (c3 - Int.toNat (0))), (.int .i64 (IntKind.wrap .i64 ((IntKind.wrap .i64 (((n2 : Nat)) + ((n6 : Nat)))) - (i4))))]) h (fun v h15 => ∃ a16 : Option Addr, ∃ n17 : Nat, ∃ c18 : Nat, v = (.slice a16 n17 c18) ∧
 0 ≤ (i4 : Int) ∧ (i4 : Int) ≤ ((n17 : Nat) : Int) ∧ ((n17 : Nat) : Int) ≤ (c18 : Nat) ∧
 semH PG B (Builtin.copy_ #[205, 205] 3 #[(.slice (if c18 = Int.toNat (i4) then a16 else Option.map (·.add (Int.toNat (i4) * 3)) a16) (Int.toNat ((n17 : Nat)) - Int.toNat (i4)) (c18 - Int.toNat (i4))), (.slice a5 n6 c7)]) h15 (fun v h19 => ∃ i20 : Int, v = (.int .i64 (i20)) ∧
 0 ≤ (IntKind.wrap .i64 ((i4) + ((n6 : Nat))) : Int) ∧ (IntKind.wrap .i64 ((i4) + ((n6 : Nat))) : Int) ≤ ((n17 : Nat) : Int) ∧ ((n17 : Nat) : Int) ≤ (c18 : Nat) ∧
 0 ≤ (i4 : Int) ∧ (i4 : Int) ≤ ((n2 : Nat) : Int) ∧ ((n2 : Nat) : Int) ≤ (c3 : Nat) ∧
 semH PG B (Builtin.copy_ #[205, 205] 3 #[(.slice (if c18 = Int.toNat (IntKind.wrap .i64 ((i4) + ((n6 : Nat)))) then a16 else Option.map (·.add (Int.toNat (IntKind.wrap .i64 ((i4) + ((n6 : Nat)))) * 3)) a16) (Int.toNat ((n17 : Nat)) - Int.toNat (IntKind.wrap .i64 ((i4) + ((n6 : Nat))))) (c18 - Int.toNat (IntKind.wrap .i64 ((i4) + ((n6 : Nat)))))), (.slice (if c3 = Int.toNat (i4) then a1 else Option.map (·.add (Int.toNat (i4) * 3)) a1) (Int.toNat ((n2 : Nat)) - Int.toNat (i4)) (c3 - Int.toNat (i4)))]) h19 (fun v h21 => ∃ i22 : Int, v = (.int .i64 (i22)) ∧
 Fin B h21 (Q a16 n17 c18))))) ∧ (¬ ((IntKind.wrap .i64 (((n2 : Nat)) + ((n6 : Nat))) : Int) > ((c3 : Nat))) →
 0 ≤ (0 : Int) ∧ (0 : Int) ≤ (IntKind.wrap .i64 (((n2 : Nat)) + ((n6 : Nat))) : Int) ∧ (IntKind.wrap .i64 (((n2 : Nat)) + ((n6 : Nat))) : Int) ≤ (c3 : Nat) ∧
 0 ≤ (IntKind.wrap .i64 ((i4) + ((n6 : Nat))) : Int) ∧ (IntKind.wrap .i64 ((i4) + ((n6 : Nat))) : Int) ≤ (((Int.toNat (IntKind.wrap .i64 (((n2 : Nat)) + ((n6 : Nat)))) - Int.toNat (0)) : Nat) : Int) ∧ (((Int.toNat (IntKind.wrap .i64 (((n2 : Nat)) + ((n6 : Nat)))) - Int.toNat (0)) : Nat) : Int) ≤ ((c3 - Int.toNat (0)) : Nat) ∧
 semH PG B (Extern.SlicesOverlaps.overlaps #[205, 205] #[4] #[(.slice a5 n6 c7), (.slice (if (c3 - Int.toNat (0)) = Int.toNat (IntKind.wrap .i64 ((i4) + ((n6 : Nat)))) then (if c3 = Int.toNat (0) then a1 else Option.map (·.add (Int.toNat (0) * 3)) a1) else Option.map (·.add (Int.toNat (IntKind.wrap .i64 ((i4) + ((n6 : Nat)))) * 3)) (if c3 = Int.toNat (0) then a1 else Option.map (·.add (Int.toNat (0) * 3)) a1)) (Int.toNat (((Int.toNat (IntKind.wrap .i64 (((n2 : Nat)) + ((n6 : Nat)))) - Int.toNat (0)) : Nat)) - Int.toNat (IntKind.wrap .i64 ((i4) + ((n6 : Nat))))) ((c3 - Int.toNat (0)) - Int.toNat (IntKind.wrap .i64 ((i4) + ((n6 : Nat))))))]) h (fun v h23 => ∃ b24 : Bool, v = (.bool b24) ∧
 (b24 = true →
 0 ≤ ((n2 : Nat) : Int) ∧ ((n2 : Nat) : Int) ≤ (((Int.toNat (IntKind.wrap .i64 (((n2 : Nat)) + ((n6 : Nat)))) - Int.toNat (0)) : Nat) : Int) ∧ (((Int.toNat (IntKind.wrap .i64 (((n2 : Nat)) + ((n6 : Nat)))) - Int.toNat (0)) : Nat) : Int) ≤ ((c3 - Int.toNat (0)) : Nat) ∧
 semH PG B (Builtin.copy_ #[205, 205] 3 #[(.slice (if (c3 - Int.toNat (0)) = Int.toNat ((n2 : Nat)) then (if c3 = Int.toNat (0) then a1 else Option.map (·.add (Int.toNat (0) * 3)) a1) else Option.map (·.add (Int.toNat ((n2 : Nat)) * 3)) (if c3 = Int.toNat (0) then a1 else Option.map (·.add (Int.toNat (0) * 3)) a1)) (Int.toNat (((Int.toNat (IntKind.wrap .i64 (((n2 : Nat)) + ((n6 : Nat)))) - Int.toNat (0)) : Nat)) - Int.toNat ((n2 : Nat))) ((c3 - Int.toNat (0)) - Int.toNat ((n2 : Nat)))), (.slice a5 n6 c7)]) h23 (fun v h29 => ∃ i30 : Int, v = (.int .i64 (i30)) ∧
 0 ≤ (i4 : Int) ∧ (i4 : Int) ≤ (((Int.toNat (IntKind.wrap .i64 (((n2 : Nat)) + ((n6 : Nat)))) - Int.toNat (0)) : Nat) : Int) ∧ (((Int.toNat (IntKind.wrap .i64 (((n2 : Nat)) + ((n6 : Nat)))) - Int.toNat (0)) : Nat) : Int) ≤ ((c3 - Int.toNat (0)) : Nat) ∧
 C_slices_rotateRight_draft_entry_file_File B (if (c3 - Int.toNat (0)) = Int.toNat (i4) then (if c3 = Int.toNat (0) then a1 else Option.map (·.add (Int.toNat (0) * 3)) a1) else Option.map (·.add (Int.toNat (i4) * 3)) (if c3 = Int.toNat (0) then a1 else Option.map (·.add (Int.toNat (0) * 3)) a1)) (Int.toNat (((Int.toNat (IntKind.wrap .i64 (((n2 : Nat)) + ((n6 : Nat)))) - Int.toNat (0)) : Nat)) - Int.toNat (i4)) ((c3 - Int.toNat (0)) - Int.toNat (i4)) ((n6 : Nat)) h29 (fun h31 =>
 Fin B h31 (Q (if c3 = Int.toNat (0) then a1 else Option.map (·.add (Int.toNat (0) * 3)) a1) (Int.toNat (IntKind.wrap .i64 (((n2 : Nat)) + ((n6 : Nat)))) - Int.toNat (0)) (c3 - Int.toNat (0)))))) ∧ (b24 = false →
 0 ≤ (IntKind.wrap .i64 ((i4) + ((n6 : Nat))) : Int) ∧ (IntKind.wrap .i64 ((i4) + ((n6 : Nat))) : Int) ≤ (((Int.toNat (IntKind.wrap .i64 (((n2 : Nat)) + ((n6 : Nat)))) - Int.toNat (0)) : Nat) : Int) ∧ (((Int.toNat (IntKind.wrap .i64 (((n2 : Nat)) + ((n6 : Nat)))) - Int.toNat (0)) : Nat) : Int) ≤ ((c3 - Int.toNat (0)) : Nat) ∧
 0 ≤ (i4 : Int) ∧ (i4 : Int) ≤ (((Int.toNat (IntKind.wrap .i64 (((n2 : Nat)) + ((n6 : Nat)))) - Int.toNat (0)) : Nat) : Int) ∧ (((Int.toNat (IntKind.wrap .i64 (((n2 : Nat)) + ((n6 : Nat)))) - Int.toNat (0)) : Nat) : Int) ≤ ((c3 - Int.toNat (0)) : Nat) ∧
 semH PG B (Builtin.copy_ #[205, 205] 3 #[(.slice (if (c3 - Int.toNat (0)) = Int.toNat (IntKind.wrap .i64 ((i4) + ((n6 : Nat)))) then (if c3 = Int.toNat (0) then a1 else Option.map (·.add (Int.toNat (0) * 3)) a1) else Option.map (·.add (Int.toNat (IntKind.wrap .i64 ((i4) + ((n6 : Nat)))) * 3)) (if c3 = Int.toNat (0) then a1 else Option.map (·.add (Int.toNat (0) * 3)) a1)) (Int.toNat (((Int.toNat (IntKind.wrap .i64 (((n2 : Nat)) + ((n6 : Nat)))) - Int.toNat (0)) : Nat)) - Int.toNat (IntKind.wrap .i64 ((i4) + ((n6 : Nat))))) ((c3 - Int.toNat (0)) - Int.toNat (IntKind.wrap .i64 ((i4) + ((n6 : Nat)))))), (.slice (if (c3 - Int.toNat (0)) = Int.toNat (i4) then (if c3 = Int.toNat (0) then a1 else Option.map (·.add (Int.toNat (0) * 3)) a1) else Option.map (·.add (Int.toNat (i4) * 3)) (if c3 = Int.toNat (0) then a1 else Option.map (·.add (Int.toNat (0) * 3)) a1)) (Int.toNat (((Int.toNat (IntKind.wrap .i64 (((n2 : Nat)) + ((n6 : Nat)))) - Int.toNat (0)) : Nat)) - Int.toNat (i4)) ((c3 - Int.toNat (0)) - Int.toNat (i4)))]) h23 (fun v h25 => ∃ i26 : Int, v = (.int .i64 (i26)) ∧
 0 ≤ (i4 : Int) ∧ (i4 : Int) ≤ (((Int.toNat (IntKind.wrap .i64 (((n2 : Nat)) + ((n6 : Nat)))) - Int.toNat (0)) : Nat) : Int) ∧ (((Int.toNat (IntKind.wrap .i64 (((n2 : Nat)) + ((n6 : Nat)))) - Int.toNat (0)) : Nat) : Int) ≤ ((c3 - Int.toNat (0)) : Nat) ∧
 semH PG B (Builtin.copy_ #[205, 205] 3 #[(.slice (if (c3 - Int.toNat (0)) = Int.toNat (i4) then (if c3 = Int.toNat (0) then a1 else Option.map (·.add (Int.toNat (0) * 3)) a1) else Option.map (·.add (Int.toNat (i4) * 3)) (if c3 = Int.toNat (0) then a1 else Option.map (·.add (Int.toNat (0) * 3)) a1)) (Int.toNat (((Int.toNat (IntKind.wrap .i64 (((n2 : Nat)) + ((n6 : Nat)))) - Int.toNat (0)) : Nat)) - Int.toNat (i4)) ((c3 - Int.toNat (0)) - Int.toNat (i4))), (.slice a5 n6 c7)]) h25 (fun v h27 => ∃ i28 : Int, v = (.int .i64 (i28)) ∧
 Fin B h27 (Q (if c3 = Int.toNat (0) then a1 else Option.map (·.add (Int.toNat (0) * 3)) a1) (Int.toNat (IntKind.wrap .i64 (((n2 : Nat)) + ((n6 : Nat)))) - Int.toNat (0)) (c3 - Int.toNat (0))))))))))
def S_slices_BinarySearchFunc_s_draft_entry_file_File_draft_entry_file_File_int_J1 (B : RO) (a1 : Option Addr) (n2 : Nat) (c3 : Nat) (i4 : Int) (v5 : Value) (i9 : Int) (h10 : Heap) (Q : Int → Bool → Heap → Prop) : Prop :=
 ((i9 : Int) < ((n2 : Nat)) →
 ∃ A11 : Addr, a1 = some A11 ∧ 0 ≤ (i9 : Int) ∧ (i9 : Int) < (n2 : Nat) ∧
 ∃ i13 : Int, ∃ b14 : Bool, ∃ s15 : ByteArray, CellsAt B h10 (Addr.add A11 (Int.toNat (i9) * 3)) 0 [(.int .i64 (i13)), (.bool b14), (.string s15)] ∧
 CallV PG B v5 [(.agg #[(.int .i64 (i13)), (.bool b14), (.string s15)]), (.int .i64 (i4))] h10 (fun v h16 => ∃ i17 : Int, v = (.int .i64 (i17)) ∧
 Fin B h16 (Q (i9) (((i17 : Int) == (0)))))) ∧ (¬ ((i9 : Int) < ((n2 : Nat))) →
 Fin B h10 (Q (i9) (false)))
def S_slices_BinarySearchFunc_s_draft_entry_file_File_draft_entry_file_File_int (B : RO) (a1 : Option Addr) (n2 : Nat) (c3 : Nat) (i4 : Int) (v5 : Value) (h : Heap) (Q : Int → Bool → Heap → Prop) : Prop :=
 ∃ (J24 : Int → Int → Nat → Heap → Prop) (m22 : Nat), Fin B h (J24 (0) ((n2 : Nat)) m22) ∧
 ∀ (i18 : Int) (i19 : Int) (m21 : Nat) (h20 : Heap), J24 i18 i19 m21 h20 →
 ((i18 : Int) < (i19) →
 ¬ ((1 : Int) < 0) ∧
 ∃ A25 : Addr, a1 = some A25 ∧ 0 ≤ (IntKind.wrap .i64 (Int.fdiv (IntKind.wrap .u64 (IntKind.wrap .i64 ((i18) + (i19)))) (2 ^ (min (Int.toNat (1)) (IntKind.bits .u64)))) : Int) ∧ (IntKind.wrap .i64 (Int.fdiv (IntKind.wrap .u64 (IntKind.wrap .i64 ((i18) + (i19)))) (2 ^ (min (Int.toNat (1)) (IntKind.bits .u64)))) : Int) < (n2 : Nat) ∧
 ∃ i27 : Int, ∃ b28 : Bool, ∃ s29 : ByteArray, CellsAt B h20 (Addr.add A25 (Int.toNat (IntKind.wrap .i64 (Int.fdiv (IntKind.wrap .u64 (IntKind.wrap .i64 ((i18) + (i19)))) (2 ^ (min (Int.toNat (1)) (IntKind.bits .u64))))) * 3)) 0 [(.int .i64 (i27)), (.bool b28), (.string s29)] ∧
 CallV PG B v5 [(.agg #[(.int .i64 (i27)), (.bool b28), (.string s29)]), (.int .i64 (i4))] h20 (fun v h30 => ∃ i31 : Int, v = (.int .i64 (i31)) ∧
 ((i31 : Int) < (0) →
 Fin B h30 (fun h' => ∃ m', m' < m21 ∧ J24 (IntKind.wrap .i64 ((IntKind.wrap .i64 (Int.fdiv (IntKind.wrap .u64 (IntKind.wrap .i64 ((i18) + (i19)))) (2 ^ (min (Int.toNat (1)) (IntKind.bits .u64))))) + (1))) (i19) m' h')) ∧ (¬ ((i31 : Int) < (0)) →
 Fin B h30 (fun h' => ∃ m', m' < m21 ∧ J24 (i18) (IntKind.wrap .i64 (Int.fdiv (IntKind.wrap .u64 (IntKind.wrap .i64 ((i18) + (i19)))) (2 ^ (min (Int.toNat (1)) (IntKind.bits .u64))))) m' h')))) ∧ (¬ ((i18 : Int) < (i19)) →
 Fin B h20 (fun h' => S_slices_BinarySearchFunc_s_draft_entry_file_File_draft_entry_file_File_int_J1 B a1 n2 c3 i4 v5 (i18) h' Q))
def S_draft_by_file_File (B : RO) (i1 : Int) (b2 : Bool) (s3 : ByteArray) (i4 : Int) (h : Heap) (Q : Int → Heap → Prop) : Prop :=
 ∀ k6 : Nat, h k6 = none → B k6 = none → ∀ h7 : Heap, h7 = Heap.set h k6 (.vec 213 (plains [(.int .i64 (i1)), (.bool b2), (.string s3)]) 3) →
 ∃ i8 : Int, cellH B h7 ⟨k6, 0, none⟩ = some (.int .i64 (i8)) ∧
 ((i8 : Int) < (i4) →
 Fin B h7 (Q ((-1)))) ∧ (¬ ((i8 : Int) < (i4)) →
 ∃ i9 : Int, cellH B h7 ⟨k6, 0, none⟩ = some (.int .i64 (i9)) ∧
 ((i9 : Int) > (i4) →
 Fin B h7 (Q (1))) ∧ (¬ ((i9 : Int) > (i4)) →
 Fin B h7 (Q (0))))
end Go.Proofs.YtgldgabefiialaaGreat.H
