/- Calls and facts. No condition. -/
import Derived.Test.YtoajfmmomgpjcaaHs
import Derived.Test.YtoajfmmomgpjcaaProg
import Derived.KernelRfl
namespace Go.Proofs.Ytoajfmmomgpjcaa.H
open Go
set_option linter.unusedVariables false
set_option maxRecDepth 100000

noncomputable abbrev PG : Program := Go.Proofs.Try.prog
abbrev TY.int64 : TypeId := 2
abbrev TY.int : TypeId := 3
abbrev TY.bool : TypeId := 4
abbrev TY.uint8 : TypeId := 5
abbrev TY.abi_BoundsErrorCode : TypeId := 6
abbrev TY.runtime_boundsError : TypeId := 8
abbrev TY.string : TypeId := 9
abbrev TY.runtime_errorString : TypeId := 10
abbrev TY.runtime_plainError : TypeId := 11
abbrev TY.uintptr : TypeId := 12
abbrev TY.runtime_errorAddressString : TypeId := 14
abbrev TY.p_runtime_TypeAssertionError : TypeId := 15
abbrev TY.p_runtime_PanicNilError : TypeId := 16
abbrev TY.p_abi_Type : TypeId := 17
abbrev TY.maps_unhashableTypeError : TypeId := 19
abbrev TY.int32 : TypeId := 21
abbrev TY.s_countermandlaw01_Ask : TypeId := 22
abbrev TY.p_stylus_Reader : TypeId := 24
abbrev TY.countermandlaw01_Ask : TypeId := 27
abbrev TY.uint64 : TypeId := 28
abbrev TY.s_string : TypeId := 36
abbrev TY.p_stylus_Stylus : TypeId := 37
abbrev TY.s_uint8 : TypeId := 38
abbrev TY.stylus_Stylus : TypeId := 40
abbrev TY.uint : TypeId := 43
abbrev TY.s_countermandlaw01_Item : TypeId := 45
abbrev TY.countermandlaw01_Item : TypeId := 50
abbrev TY.s_countermandlaw10_Set : TypeId := 51
abbrev TY.file_File : TypeId := 54
abbrev TY.countermandlaw10_Set : TypeId := 56
abbrev TY.p_tome_Tome : TypeId := 57
abbrev TY.p_countermandref10_Tome : TypeId := 62
abbrev TY.countermandref09_File : TypeId := 63
abbrev TY.a_6_countermandref09_File : TypeId := 64
abbrev TY.a_6_int : TypeId := 65
abbrev TY.countermandref10_Tome : TypeId := 67
abbrev TY.iter_Seq2_int_file_File : TypeId := 72
abbrev TY.s_countermandref16_Act : TypeId := 81
abbrev TY.p_acts_Acts : TypeId := 82
abbrev TY.s_acts_Out : TypeId := 83
abbrev TY.s_int : TypeId := 84
abbrev TY.s_acts_Open : TypeId := 85
abbrev TY.acts_Acts : TypeId := 87
abbrev TY.countermandref16_Act : TypeId := 89
abbrev TY.a_4_int : TypeId := 91
abbrev TY.acts_Mark : TypeId := 92
abbrev TY.acts_Out : TypeId := 98
abbrev TY.acts_Open : TypeId := 100
abbrev TY.s_countermandlaw16_Step : TypeId := 102
abbrev TY.countermandlaw16_Step : TypeId := 104
abbrev TY.s_countermandref13_Put : TypeId := 118
abbrev TY.p_draft_Draft_int : TypeId := 119
abbrev TY.s_draft_entry_int : TypeId := 120
abbrev TY.draft_Draft_int : TypeId := 122
abbrev TY.iter_Seq2_int_int : TypeId := 127
abbrev TY.countermandref13_Put : TypeId := 132
abbrev TY.stylus_Reader : TypeId := 137
abbrev TY.p_cell_Row_file_File : TypeId := 142
abbrev TY.tome_Tome : TypeId := 145
abbrev TY.s_countermandref09_File : TypeId := 148
abbrev TY.p_draft_Draft_string : TypeId := 155
abbrev TY.s_draft_entry_string : TypeId := 156
abbrev TY.draft_Draft_string : TypeId := 158
abbrev TY.draft_entry_int : TypeId := 163
abbrev TY.s_cell_slot_file_File : TypeId := 166
abbrev TY.cell_Row_file_File : TypeId := 168
abbrev TY.cell_slot_file_File : TypeId := 170
abbrev TY.iter_Seq2_int_acts_Open : TypeId := 172
abbrev TY.s_s_acts_Out : TypeId := 174
abbrev TY.draft_entry_string : TypeId := 176
abbrev TY.runtime_TypeAssertionError : TypeId := 190
abbrev TY.a_0_p_runtime_PanicNilError : TypeId := 191
abbrev TY.runtime_PanicNilError : TypeId := 193
abbrev TY.uint32 : TypeId := 194
abbrev TY.abi_TFlag : TypeId := 195
abbrev TY.abi_Kind : TypeId := 196
abbrev TY.p_uint8 : TypeId := 198
abbrev TY.abi_NameOff : TypeId := 199
abbrev TY.abi_TypeOff : TypeId := 200
abbrev TY.abi_Type : TypeId := 202
abbrev TY.iter_Seq2_int_string : TypeId := 207
theorem TF.agg_100 : aggB PG 100 = some true := by kernel_rfl
theorem TF.agg_104 : aggB PG 104 = some true := by kernel_rfl
theorem TF.agg_3 : aggB PG 3 = some false := by kernel_rfl
theorem TF.agg_5 : aggB PG 5 = some false := by kernel_rfl
theorem TF.agg_83 : aggB PG 83 = some false := by kernel_rfl
theorem TF.agg_84 : aggB PG 84 = some false := by kernel_rfl
theorem TF.agg_85 : aggB PG 85 = some false := by kernel_rfl
theorem TF.agg_89 : aggB PG 89 = some true := by kernel_rfl
theorem TF.agg_91 : aggB PG 91 = some true := by kernel_rfl
theorem TF.agg_92 : aggB PG 92 = some true := by kernel_rfl
theorem TF.agg_98 : aggB PG 98 = some true := by kernel_rfl
theorem TF.arr_91 : arrB PG 91 = some (4, 3, 1, false) := by kernel_rfl
theorem TF.arr_92 : arrB PG 92 = some (4, 3, 1, false) := by kernel_rfl
theorem TF.bool_4 : boolT PG 4 = true := by kernel_rfl
theorem TF.eqg_100 : eqGB PG 100 = false := by kernel_rfl
theorem TF.eqg_92 : eqGB PG 92 = false := by kernel_rfl
theorem TF.eqg_98 : eqGB PG 98 = false := by kernel_rfl
theorem TF.flat_100 : flat6B PG 100 = some [.int .i64, .int .i64] := by kernel_rfl
theorem TF.flat_92 : flat6B PG 92 = some [.int .i64, .int .i64, .int .i64, .int .i64] := by kernel_rfl
theorem TF.flat_98 : flat6B PG 98 = some [.int .i64, .int .u8] := by kernel_rfl
theorem TF.fld_100_0 : fldB PG 100 0 = some 0 := by kernel_rfl
theorem TF.fld_100_1 : fldB PG 100 1 = some 1 := by kernel_rfl
theorem TF.fld_104_0 : fldB PG 104 0 = some 0 := by kernel_rfl
theorem TF.fld_104_1 : fldB PG 104 1 = some 3 := by kernel_rfl
theorem TF.fld_87_0 : fldB PG 87 0 = some 0 := by kernel_rfl
theorem TF.fld_87_1 : fldB PG 87 1 = some 1 := by kernel_rfl
theorem TF.fld_87_2 : fldB PG 87 2 = some 2 := by kernel_rfl
theorem TF.fld_87_3 : fldB PG 87 3 = some 3 := by kernel_rfl
theorem TF.fld_89_0 : fldB PG 89 0 = some 0 := by kernel_rfl
theorem TF.fld_89_1 : fldB PG 89 1 = some 1 := by kernel_rfl
theorem TF.fld_89_2 : fldB PG 89 2 = some 2 := by kernel_rfl
theorem TF.fld_98_0 : fldB PG 98 0 = some 0 := by kernel_rfl
theorem TF.fld_98_1 : fldB PG 98 1 = some 1 := by kernel_rfl
theorem TF.goes_10 : Goes PG 10 := ⟨Try.f10, Try.func10, by kernel_rfl, by kernel_rfl⟩
theorem TF.goes_100 : Goes PG 100 := ⟨Try.f100, Try.func100, by kernel_rfl, by kernel_rfl⟩
theorem TF.goes_107 : Goes PG 107 := ⟨Try.f107, Try.func107, by kernel_rfl, by kernel_rfl⟩
theorem TF.goes_11 : Goes PG 11 := ⟨Try.f11, Try.func11, by kernel_rfl, by kernel_rfl⟩
theorem TF.goes_43 : Goes PG 43 := ⟨Try.f43, Try.func43, by kernel_rfl, by kernel_rfl⟩
theorem TF.goes_44 : Goes PG 44 := ⟨Try.f44, Try.func44, by kernel_rfl, by kernel_rfl⟩
theorem TF.goes_45 : Goes PG 45 := ⟨Try.f45, Try.func45, by kernel_rfl, by kernel_rfl⟩
theorem TF.goes_46 : Goes PG 46 := ⟨Try.f46, Try.func46, by kernel_rfl, by kernel_rfl⟩
theorem TF.goes_47 : Goes PG 47 := ⟨Try.f47, Try.func47, by kernel_rfl, by kernel_rfl⟩
theorem TF.goes_48 : Goes PG 48 := ⟨Try.f48, Try.func48, by kernel_rfl, by kernel_rfl⟩
theorem TF.goes_49 : Goes PG 49 := ⟨Try.f49, Try.func49, by kernel_rfl, by kernel_rfl⟩
theorem TF.goes_50 : Goes PG 50 := ⟨Try.f50, Try.func50, by kernel_rfl, by kernel_rfl⟩
theorem TF.goes_51 : Goes PG 51 := ⟨Try.f51, Try.func51, by kernel_rfl, by kernel_rfl⟩
theorem TF.goes_52 : Goes PG 52 := ⟨Try.f52, Try.func52, by kernel_rfl, by kernel_rfl⟩
theorem TF.goes_53 : Goes PG 53 := ⟨Try.f53, Try.func53, by kernel_rfl, by kernel_rfl⟩
theorem TF.goes_54 : Goes PG 54 := ⟨Try.f54, Try.func54, by kernel_rfl, by kernel_rfl⟩
theorem TF.goes_55 : Goes PG 55 := ⟨Try.f55, Try.func55, by kernel_rfl, by kernel_rfl⟩
theorem TF.goes_56 : Goes PG 56 := ⟨Try.f56, Try.func56, by kernel_rfl, by kernel_rfl⟩
theorem TF.goes_57 : Goes PG 57 := ⟨Try.f57, Try.func57, by kernel_rfl, by kernel_rfl⟩
theorem TF.goes_58 : Goes PG 58 := ⟨Try.f58, Try.func58, by kernel_rfl, by kernel_rfl⟩
theorem TF.goes_59 : Goes PG 59 := ⟨Try.f59, Try.func59, by kernel_rfl, by kernel_rfl⟩
theorem TF.goes_60 : Goes PG 60 := ⟨Try.f60, Try.func60, by kernel_rfl, by kernel_rfl⟩
theorem TF.goes_61 : Goes PG 61 := ⟨Try.f61, Try.func61, by kernel_rfl, by kernel_rfl⟩
theorem TF.goes_84 : Goes PG 84 := ⟨Try.f84, Try.func84, by kernel_rfl, by kernel_rfl⟩
theorem TF.goes_85 : Goes PG 85 := ⟨Try.f85, Try.func85, by kernel_rfl, by kernel_rfl⟩
theorem TF.goes_86 : Goes PG 86 := ⟨Try.f86, Try.func86, by kernel_rfl, by kernel_rfl⟩
theorem TF.goes_87 : Goes PG 87 := ⟨Try.f87, Try.func87, by kernel_rfl, by kernel_rfl⟩
theorem TF.goes_88 : Goes PG 88 := ⟨Try.f88, Try.func88, by kernel_rfl, by kernel_rfl⟩
theorem TF.goes_89 : Goes PG 89 := ⟨Try.f89, Try.func89, by kernel_rfl, by kernel_rfl⟩
theorem TF.goes_99 : Goes PG 99 := ⟨Try.f99, Try.func99, by kernel_rfl, by kernel_rfl⟩
theorem TF.int_3 : intB PG 3 = some .i64 := by kernel_rfl
theorem TF.int_5 : intB PG 5 = some .u8 := by kernel_rfl
theorem TF.mixed : PG.follows .mixedOrders = true := by kernel_rfl
theorem TF.places_100 : strPlaces PG 100 = some [(0, 1), (1, 1)] := by kernel_rfl
theorem TF.places_87 : strPlaces PG 87 = some [(0, 1), (1, 1), (2, 1), (3, 1)] := by kernel_rfl
theorem TF.places_89 : strPlaces PG 89 = some [(0, 1), (1, 1), (2, 1)] := by kernel_rfl
theorem TF.places_98 : strPlaces PG 98 = some [(0, 1), (1, 1)] := by kernel_rfl
theorem TF.ptr_82 : ptrB PG 82 = true := by kernel_rfl
theorem TF.sl_102 : slT PG 102 = true := by kernel_rfl
theorem TF.sl_174 : slT PG 174 = true := by kernel_rfl
theorem TF.sl_81 : slT PG 81 = true := by kernel_rfl
theorem TF.sl_83 : slT PG 83 = true := by kernel_rfl
theorem TF.sl_84 : slT PG 84 = true := by kernel_rfl
theorem TF.sl_85 : slT PG 85 = true := by kernel_rfl
theorem TF.slc_102 : slcB PG 102 = some (104, 7, 56) := by kernel_rfl
theorem TF.slc_174 : slcB PG 174 = some (83, 1, 24) := by kernel_rfl
theorem TF.slc_81 : slcB PG 81 = some (89, 3, 24) := by kernel_rfl
theorem TF.slc_83 : slcB PG 83 = some (98, 2, 16) := by kernel_rfl
theorem TF.slc_84 : slcB PG 84 = some (3, 1, 8) := by kernel_rfl
theorem TF.slc_85 : slcB PG 85 = some (100, 2, 16) := by kernel_rfl
theorem TF.sz_100 : szB PG 100 = some 2 := by kernel_rfl
theorem TF.sz_104 : szB PG 104 = some 7 := by kernel_rfl
theorem TF.sz_3 : szB PG 3 = some 1 := by kernel_rfl
theorem TF.sz_83 : szB PG 83 = some 1 := by kernel_rfl
theorem TF.sz_84 : szB PG 84 = some 1 := by kernel_rfl
theorem TF.sz_85 : szB PG 85 = some 1 := by kernel_rfl
theorem TF.sz_89 : szB PG 89 = some 3 := by kernel_rfl
theorem TF.sz_91 : szB PG 91 = some 4 := by kernel_rfl
theorem TF.sz_92 : szB PG 92 = some 4 := by kernel_rfl
theorem TF.sz_98 : szB PG 98 = some 2 := by kernel_rfl
theorem TF.zero_100 : zeroB PG 100 = some [(Value.int .i64 (0)), (Value.int .i64 (0))] := by kernel_rfl
theorem TF.zero_104 : zeroB PG 104 = some [(Value.int .i64 (0)), (Value.int .i64 (0)), (Value.int .i64 (0)), (Value.int .i64 (0)), (Value.int .i64 (0)), (Value.int .i64 (0)), (Value.int .i64 (0))] := by kernel_rfl
theorem TF.zero_3 : zeroB PG 3 = some [(Value.int .i64 (0))] := by kernel_rfl
theorem TF.zero_83 : zeroB PG 83 = some [(Value.slice none 0 0)] := by kernel_rfl
theorem TF.zero_85 : zeroB PG 85 = some [(Value.slice none 0 0)] := by kernel_rfl
theorem TF.zero_87 : zeroB PG 87 = some [(Value.slice none 0 0), (Value.slice none 0 0), (Value.slice none 0 0), (Value.slice none 0 0)] := by kernel_rfl
theorem TF.zero_89 : zeroB PG 89 = some [(Value.int .i64 (0)), (Value.int .i64 (0)), (Value.int .i64 (0))] := by kernel_rfl
theorem TF.zero_91 : zeroB PG 91 = some [(Value.int .i64 (0)), (Value.int .i64 (0)), (Value.int .i64 (0)), (Value.int .i64 (0))] := by kernel_rfl
theorem TF.zero_92 : zeroB PG 92 = some [(Value.int .i64 (0)), (Value.int .i64 (0)), (Value.int .i64 (0)), (Value.int .i64 (0))] := by kernel_rfl
theorem TF.zero_98 : zeroB PG 98 = some [(Value.int .i64 (0)), (Value.int .u8 (0))] := by kernel_rfl
abbrev FN.countermandlaw16_ActsMarks : FuncId := 10
abbrev FN.countermandlaw16_ActsDoes : FuncId := 11
abbrev FN.countermandlaw16_alive : FuncId := 43
abbrev FN.countermandlaw16_does : FuncId := 44
abbrev FN.acts_Acts_Mark : FuncId := 45
abbrev FN.acts_Acts_Back : FuncId := 46
abbrev FN.acts_Acts_Output : FuncId := 47
abbrev FN.acts_Acts_Undo : FuncId := 48
abbrev FN.countermandlaw16_good : FuncId := 49
abbrev FN.countermandref16_First : FuncId := 50
abbrev FN.countermandlaw16_opens : FuncId := 51
abbrev FN.countermandref16_Undo : FuncId := 52
abbrev FN.countermandlaw16_outs : FuncId := 53
abbrev FN.acts_Acts_Flush : FuncId := 54
abbrev FN.countermandref16_Of : FuncId := 55
abbrev FN.acts_Acts_Notes : FuncId := 56
abbrev FN.countermandref16_Count : FuncId := 57
abbrev FN.acts_Acts_Send : FuncId := 58
abbrev FN.acts_Acts_Later : FuncId := 59
abbrev FN.acts_Acts_Note : FuncId := 60
abbrev FN.acts_Acts_Opened : FuncId := 61
abbrev FN.acts_first_acts_Out : FuncId := 84
abbrev FN.acts_first_int : FuncId := 85
abbrev FN.acts_first_acts_Open : FuncId := 86
abbrev FN.acts_undo : FuncId := 87
abbrev FN.slices_Concat_s_acts_Out_acts_Out : FuncId := 88
abbrev FN.slices_Clone_s_int_int : FuncId := 89
abbrev FN.slices_Backward_s_acts_Open_acts_Open : FuncId := 99
abbrev FN.slices_Grow_s_acts_Out_acts_Out : FuncId := 100
abbrev FN.slices_Backward_s_acts_Open_acts_Open_1 : FuncId := 107
theorem TG.countermandlaw16_ActsMarks : Goes PG FN.countermandlaw16_ActsMarks := TF.goes_10
theorem TG.countermandlaw16_ActsDoes : Goes PG FN.countermandlaw16_ActsDoes := TF.goes_11
theorem TG.countermandlaw16_alive : Goes PG FN.countermandlaw16_alive := TF.goes_43
theorem TG.countermandlaw16_does : Goes PG FN.countermandlaw16_does := TF.goes_44
theorem TG.acts_Acts_Mark : Goes PG FN.acts_Acts_Mark := TF.goes_45
theorem TG.acts_Acts_Back : Goes PG FN.acts_Acts_Back := TF.goes_46
theorem TG.acts_Acts_Output : Goes PG FN.acts_Acts_Output := TF.goes_47
theorem TG.acts_Acts_Undo : Goes PG FN.acts_Acts_Undo := TF.goes_48
theorem TG.countermandlaw16_good : Goes PG FN.countermandlaw16_good := TF.goes_49
theorem TG.countermandref16_First : Goes PG FN.countermandref16_First := TF.goes_50
theorem TG.countermandlaw16_opens : Goes PG FN.countermandlaw16_opens := TF.goes_51
theorem TG.countermandref16_Undo : Goes PG FN.countermandref16_Undo := TF.goes_52
theorem TG.countermandlaw16_outs : Goes PG FN.countermandlaw16_outs := TF.goes_53
theorem TG.acts_Acts_Flush : Goes PG FN.acts_Acts_Flush := TF.goes_54
theorem TG.countermandref16_Of : Goes PG FN.countermandref16_Of := TF.goes_55
theorem TG.acts_Acts_Notes : Goes PG FN.acts_Acts_Notes := TF.goes_56
theorem TG.countermandref16_Count : Goes PG FN.countermandref16_Count := TF.goes_57
theorem TG.acts_Acts_Send : Goes PG FN.acts_Acts_Send := TF.goes_58
theorem TG.acts_Acts_Later : Goes PG FN.acts_Acts_Later := TF.goes_59
theorem TG.acts_Acts_Note : Goes PG FN.acts_Acts_Note := TF.goes_60
theorem TG.acts_Acts_Opened : Goes PG FN.acts_Acts_Opened := TF.goes_61
theorem TG.acts_first_acts_Out : Goes PG FN.acts_first_acts_Out := TF.goes_84
theorem TG.acts_first_int : Goes PG FN.acts_first_int := TF.goes_85
theorem TG.acts_first_acts_Open : Goes PG FN.acts_first_acts_Open := TF.goes_86
theorem TG.acts_undo : Goes PG FN.acts_undo := TF.goes_87
theorem TG.slices_Concat_s_acts_Out_acts_Out : Goes PG FN.slices_Concat_s_acts_Out_acts_Out := TF.goes_88
theorem TG.slices_Clone_s_int_int : Goes PG FN.slices_Clone_s_int_int := TF.goes_89
theorem TG.slices_Backward_s_acts_Open_acts_Open : Goes PG FN.slices_Backward_s_acts_Open_acts_Open := TF.goes_99
theorem TG.slices_Grow_s_acts_Out_acts_Out : Goes PG FN.slices_Grow_s_acts_Out_acts_Out := TF.goes_100
theorem TG.slices_Backward_s_acts_Open_acts_Open_1 : Goes PG FN.slices_Backward_s_acts_Open_acts_Open_1 := TF.goes_107
def C_countermandlaw16_ActsMarks (B : RO) (a1 : Option Addr) (n2 : Nat) (c3 : Nat) (a4 : Option Addr) (n5 : Nat) (c6 : Nat) (h : Heap) (Q : Bool → Heap → Prop) : Prop :=
  Spec PG B 10 #[(Value.slice a1 n2 c3), (Value.slice a4 n5 c6)] h (fun v h' => ∃ b7 : Bool, v = (Value.bool b7) ∧ Q b7 h')
def C_countermandlaw16_ActsDoes (B : RO) (a1 : Option Addr) (n2 : Nat) (c3 : Nat) (h : Heap) (Q : Bool → Heap → Prop) : Prop :=
  Spec PG B 11 #[(Value.slice a1 n2 c3)] h (fun v h' => ∃ b4 : Bool, v = (Value.bool b4) ∧ Q b4 h')
def C_countermandlaw16_alive (B : RO) (h : Heap) (Q : Bool → Heap → Prop) : Prop :=
  Spec PG B 43 #[] h (fun v h' => ∃ b1 : Bool, v = (Value.bool b1) ∧ Q b1 h')
def C_countermandlaw16_does (B : RO) (p1 : Option Addr) (i2 : Int) (i3 : Int) (i4 : Int) (h : Heap) (Q : Bool → Heap → Prop) : Prop :=
  Spec PG B 44 #[(Value.pointer p1), (Value.agg #[(Value.int .i64 (i2)), (Value.int .i64 (i3)), (Value.int .i64 (i4))])] h (fun v h' => ∃ b5 : Bool, v = (Value.bool b5) ∧ Q b5 h')
def C_acts_Acts_Mark (B : RO) (p1 : Option Addr) (h : Heap) (Q : Int → Int → Int → Int → Heap → Prop) : Prop :=
  Spec PG B 45 #[(Value.pointer p1)] h (fun v h' => ∃ i2 : Int, ∃ i3 : Int, ∃ i4 : Int, ∃ i5 : Int, v = (Value.agg #[(Value.int .i64 (i2)), (Value.int .i64 (i3)), (Value.int .i64 (i4)), (Value.int .i64 (i5))]) ∧ Q i2 i3 i4 i5 h')
def C_acts_Acts_Back (B : RO) (p1 : Option Addr) (i2 : Int) (i3 : Int) (i4 : Int) (i5 : Int) (h : Heap) (Q : Option Addr → Nat → Nat → Heap → Prop) : Prop :=
  Spec PG B 46 #[(Value.pointer p1), (Value.agg #[(Value.int .i64 (i2)), (Value.int .i64 (i3)), (Value.int .i64 (i4)), (Value.int .i64 (i5))])] h (fun v h' => ∃ a6 : Option Addr, ∃ n7 : Nat, ∃ c8 : Nat, v = (Value.slice a6 n7 c8) ∧ Q a6 n7 c8 h')
def C_acts_Acts_Output (B : RO) (p1 : Option Addr) (h : Heap) (Q : Option Addr → Nat → Nat → Heap → Prop) : Prop :=
  Spec PG B 47 #[(Value.pointer p1)] h (fun v h' => ∃ a2 : Option Addr, ∃ n3 : Nat, ∃ c4 : Nat, v = (Value.slice a2 n3 c4) ∧ Q a2 n3 c4 h')
def C_acts_Acts_Undo (B : RO) (p1 : Option Addr) (h : Heap) (Q : Option Addr → Nat → Nat → Heap → Prop) : Prop :=
  Spec PG B 48 #[(Value.pointer p1)] h (fun v h' => ∃ a2 : Option Addr, ∃ n3 : Nat, ∃ c4 : Nat, v = (Value.slice a2 n3 c4) ∧ Q a2 n3 c4 h')
def C_countermandlaw16_good (B : RO) (i1 : Int) (i2 : Int) (i3 : Int) (h : Heap) (Q : Bool → Heap → Prop) : Prop :=
  Spec PG B 49 #[(Value.agg #[(Value.int .i64 (i1)), (Value.int .i64 (i2)), (Value.int .i64 (i3))])] h (fun v h' => ∃ b4 : Bool, v = (Value.bool b4) ∧ Q b4 h')
def C_countermandref16_First (B : RO) (a1 : Option Addr) (n2 : Nat) (c3 : Nat) (i4 : Int) (i5 : Int) (i6 : Int) (i7 : Int) (h : Heap) (Q : Option Addr → Nat → Nat → Option Addr → Nat → Nat → Heap → Prop) : Prop :=
  Spec PG B 50 #[(Value.slice a1 n2 c3), (Value.agg #[(Value.int .i64 (i4)), (Value.int .i64 (i5)), (Value.int .i64 (i6)), (Value.int .i64 (i7))])] h (fun v h' => ∃ a8 : Option Addr, ∃ n9 : Nat, ∃ c10 : Nat, ∃ a11 : Option Addr, ∃ n12 : Nat, ∃ c13 : Nat, v = Value.tuple #[(Value.slice a8 n9 c10), (Value.slice a11 n12 c13)] ∧ Q a8 n9 c10 a11 n12 c13 h')
def C_countermandlaw16_opens (B : RO) (a1 : Option Addr) (n2 : Nat) (c3 : Nat) (a4 : Option Addr) (n5 : Nat) (c6 : Nat) (h : Heap) (Q : Bool → Heap → Prop) : Prop :=
  Spec PG B 51 #[(Value.slice a1 n2 c3), (Value.slice a4 n5 c6)] h (fun v h' => ∃ b7 : Bool, v = (Value.bool b7) ∧ Q b7 h')
def C_countermandref16_Undo (B : RO) (a1 : Option Addr) (n2 : Nat) (c3 : Nat) (h : Heap) (Q : Option Addr → Nat → Nat → Heap → Prop) : Prop :=
  Spec PG B 52 #[(Value.slice a1 n2 c3)] h (fun v h' => ∃ a4 : Option Addr, ∃ n5 : Nat, ∃ c6 : Nat, v = (Value.slice a4 n5 c6) ∧ Q a4 n5 c6 h')
def C_countermandlaw16_outs (B : RO) (a1 : Option Addr) (n2 : Nat) (c3 : Nat) (a4 : Option Addr) (n5 : Nat) (c6 : Nat) (h : Heap) (Q : Bool → Heap → Prop) : Prop :=
  Spec PG B 53 #[(Value.slice a1 n2 c3), (Value.slice a4 n5 c6)] h (fun v h' => ∃ b7 : Bool, v = (Value.bool b7) ∧ Q b7 h')
def C_acts_Acts_Flush (B : RO) (p1 : Option Addr) (h : Heap) (Q : Option Addr → Nat → Nat → Heap → Prop) : Prop :=
  Spec PG B 54 #[(Value.pointer p1)] h (fun v h' => ∃ a2 : Option Addr, ∃ n3 : Nat, ∃ c4 : Nat, v = (Value.slice a2 n3 c4) ∧ Q a2 n3 c4 h')
def C_countermandref16_Of (B : RO) (a1 : Option Addr) (n2 : Nat) (c3 : Nat) (i4 : Int) (h : Heap) (Q : Option Addr → Nat → Nat → Heap → Prop) : Prop :=
  Spec PG B 55 #[(Value.slice a1 n2 c3), (Value.int .i64 (i4))] h (fun v h' => ∃ a5 : Option Addr, ∃ n6 : Nat, ∃ c7 : Nat, v = (Value.slice a5 n6 c7) ∧ Q a5 n6 c7 h')
def C_acts_Acts_Notes (B : RO) (p1 : Option Addr) (h : Heap) (Q : Option Addr → Nat → Nat → Heap → Prop) : Prop :=
  Spec PG B 56 #[(Value.pointer p1)] h (fun v h' => ∃ a2 : Option Addr, ∃ n3 : Nat, ∃ c4 : Nat, v = (Value.slice a2 n3 c4) ∧ Q a2 n3 c4 h')
def C_countermandref16_Count (B : RO) (a1 : Option Addr) (n2 : Nat) (c3 : Nat) (h : Heap) (Q : Int → Int → Int → Int → Heap → Prop) : Prop :=
  Spec PG B 57 #[(Value.slice a1 n2 c3)] h (fun v h' => ∃ i4 : Int, ∃ i5 : Int, ∃ i6 : Int, ∃ i7 : Int, v = (Value.agg #[(Value.int .i64 (i4)), (Value.int .i64 (i5)), (Value.int .i64 (i6)), (Value.int .i64 (i7))]) ∧ Q i4 i5 i6 i7 h')
def C_acts_Acts_Send (B : RO) (p1 : Option Addr) (i2 : Int) (i3 : Int) (h : Heap) (Q : Bool → Heap → Prop) : Prop :=
  Spec PG B 58 #[(Value.pointer p1), (Value.int .i64 (i2)), (Value.int .u8 (i3))] h (fun v h' => ∃ b4 : Bool, v = (Value.bool b4) ∧ Q b4 h')
def C_acts_Acts_Later (B : RO) (p1 : Option Addr) (i2 : Int) (i3 : Int) (h : Heap) (Q : Bool → Heap → Prop) : Prop :=
  Spec PG B 59 #[(Value.pointer p1), (Value.int .i64 (i2)), (Value.int .u8 (i3))] h (fun v h' => ∃ b4 : Bool, v = (Value.bool b4) ∧ Q b4 h')
def C_acts_Acts_Note (B : RO) (p1 : Option Addr) (i2 : Int) (h : Heap) (Q : Bool → Heap → Prop) : Prop :=
  Spec PG B 60 #[(Value.pointer p1), (Value.int .i64 (i2))] h (fun v h' => ∃ b3 : Bool, v = (Value.bool b3) ∧ Q b3 h')
def C_acts_Acts_Opened (B : RO) (p1 : Option Addr) (i2 : Int) (i3 : Int) (h : Heap) (Q : Bool → Heap → Prop) : Prop :=
  Spec PG B 61 #[(Value.pointer p1), (Value.int .i64 (i2)), (Value.int .i64 (i3))] h (fun v h' => ∃ b4 : Bool, v = (Value.bool b4) ∧ Q b4 h')
def C_acts_first_acts_Out (B : RO) (a1 : Option Addr) (n2 : Nat) (c3 : Nat) (i4 : Int) (h : Heap) (Q : Option Addr → Nat → Nat → Heap → Prop) : Prop :=
  Spec PG B 84 #[(Value.slice a1 n2 c3), (Value.int .i64 (i4))] h (fun v h' => ∃ a5 : Option Addr, ∃ n6 : Nat, ∃ c7 : Nat, v = (Value.slice a5 n6 c7) ∧ Q a5 n6 c7 h')
def C_acts_first_int (B : RO) (a1 : Option Addr) (n2 : Nat) (c3 : Nat) (i4 : Int) (h : Heap) (Q : Option Addr → Nat → Nat → Heap → Prop) : Prop :=
  Spec PG B 85 #[(Value.slice a1 n2 c3), (Value.int .i64 (i4))] h (fun v h' => ∃ a5 : Option Addr, ∃ n6 : Nat, ∃ c7 : Nat, v = (Value.slice a5 n6 c7) ∧ Q a5 n6 c7 h')
def C_acts_first_acts_Open (B : RO) (a1 : Option Addr) (n2 : Nat) (c3 : Nat) (i4 : Int) (h : Heap) (Q : Option Addr → Nat → Nat → Heap → Prop) : Prop :=
  Spec PG B 86 #[(Value.slice a1 n2 c3), (Value.int .i64 (i4))] h (fun v h' => ∃ a5 : Option Addr, ∃ n6 : Nat, ∃ c7 : Nat, v = (Value.slice a5 n6 c7) ∧ Q a5 n6 c7 h')
def C_acts_undo (B : RO) (a1 : Option Addr) (n2 : Nat) (c3 : Nat) (h : Heap) (Q : Option Addr → Nat → Nat → Heap → Prop) : Prop :=
  Spec PG B 87 #[(Value.slice a1 n2 c3)] h (fun v h' => ∃ a4 : Option Addr, ∃ n5 : Nat, ∃ c6 : Nat, v = (Value.slice a4 n5 c6) ∧ Q a4 n5 c6 h')
def C_slices_Concat_s_acts_Out_acts_Out (B : RO) (a1 : Option Addr) (n2 : Nat) (c3 : Nat) (h : Heap) (Q : Option Addr → Nat → Nat → Heap → Prop) : Prop :=
  Spec PG B 88 #[(Value.slice a1 n2 c3)] h (fun v h' => ∃ a4 : Option Addr, ∃ n5 : Nat, ∃ c6 : Nat, v = (Value.slice a4 n5 c6) ∧ Q a4 n5 c6 h')
def C_slices_Clone_s_int_int (B : RO) (a1 : Option Addr) (n2 : Nat) (c3 : Nat) (h : Heap) (Q : Option Addr → Nat → Nat → Heap → Prop) : Prop :=
  Spec PG B 89 #[(Value.slice a1 n2 c3)] h (fun v h' => ∃ a4 : Option Addr, ∃ n5 : Nat, ∃ c6 : Nat, v = (Value.slice a4 n5 c6) ∧ Q a4 n5 c6 h')
def C_slices_Backward_s_acts_Open_acts_Open (B : RO) (a1 : Option Addr) (n2 : Nat) (c3 : Nat) (h : Heap) (Q : Value → Heap → Prop) : Prop :=
  Spec PG B 99 #[(Value.slice a1 n2 c3)] h (fun v h' => ∃ v4 : Value, v = v4 ∧ Q v4 h')
def C_slices_Grow_s_acts_Out_acts_Out (B : RO) (a1 : Option Addr) (n2 : Nat) (c3 : Nat) (i4 : Int) (h : Heap) (Q : Option Addr → Nat → Nat → Heap → Prop) : Prop :=
  Spec PG B 100 #[(Value.slice a1 n2 c3), (Value.int .i64 (i4))] h (fun v h' => ∃ a5 : Option Addr, ∃ n6 : Nat, ∃ c7 : Nat, v = (Value.slice a5 n6 c7) ∧ Q a5 n6 c7 h')
def C_slices_Backward_s_acts_Open_acts_Open_1 (B : RO) (v1 : Value) (A2 : Addr) (h : Heap) (Q : Heap → Prop) : Prop :=
  Spec PG B 107 #[v1, (Value.pointer (some A2))] h (fun v h' => v = Value.tuple #[] ∧ Q  h')
end Go.Proofs.Ytoajfmmomgpjcaa.H
