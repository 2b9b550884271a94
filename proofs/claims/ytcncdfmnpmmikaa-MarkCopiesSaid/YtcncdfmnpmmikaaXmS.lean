/- What each function asks. No condition. -/
import Derived.Test.YtcncdfmnpmmikaaXmF
namespace Go.Proofs.Ytcncdfmnpmmikaa.H
open Go
set_option linter.unusedVariables false
set_option maxRecDepth 100000

def S_countermandlaw17_MarkCopies_J1 (B : RO) (i5 : Int) (i6 : Int) (i7 : Int) (i8 : Int) (k10 : Nat) (p15 : Option Addr) (k28 : Nat) (k52 : Nat) (h60 : Heap) (Q : Bool → Heap → Prop) : Prop :=
 ∃ p61 : Option Addr, cellH B h60 ⟨k52, 0, none⟩ = some (Value.pointer p61) ∧
 C_draft_Draft_int_Put B p61 (i5) (IntKind.wrap .i64 ((BitVec.ofInt (IntKind.bits .i64) (i6) ^^^ BitVec.ofInt (IntKind.bits .i64) (1)).toNat : Int)) h60 (fun b63 h62 =>
 ∃ p64 : Option Addr, cellH B h62 ⟨k52, 1, none⟩ = some (Value.pointer p64) ∧
 C_sheet_Sheet_Create B p64 p15 (i7) h62 (fun b66 h65 =>
 ∃ p67 : Option Addr, cellH B h65 ⟨k52, 2, none⟩ = some (Value.pointer p67) ∧
 C_cursor_Cursor_Step B p67 (1) h65 (fun b69 h68 =>
 0 ≤ (IntKind.wrap .i64 ((BitVec.ofInt (IntKind.bits .i64) (i8) &&& BitVec.ofInt (IntKind.bits .i64) (3)).toNat : Int) : Int) ∧ (IntKind.wrap .i64 ((BitVec.ofInt (IntKind.bits .i64) (i8) &&& BitVec.ofInt (IntKind.bits .i64) (3)).toNat : Int) : Int) < (4 : Nat) ∧
 ∃ h70 : Heap, storeH h68 (Addr.add ⟨k52, 3, none⟩ (Int.toNat (IntKind.wrap .i64 ((BitVec.ofInt (IntKind.bits .i64) (i8) &&& BitVec.ofInt (IntKind.bits .i64) (3)).toNat : Int)) * 1)) (Value.int .i64 (i8)) = some h70 ∧
 ∃ p71 : Option Addr, cellH B h70 ⟨k28, 0, none⟩ = some (Value.pointer p71) ∧
 C_draft_Draft_int_Get B p71 (i5) h70 (fun i73 b74 h72 =>
 ∃ p75 : Option Addr, cellH B h72 ⟨k28, 1, none⟩ = some (Value.pointer p75) ∧
 C_sheet_Sheet_Get B p75 p15 (i7) h72 (fun b77 s78 b79 h76 =>
 (b79 = true →
 ∀ k96 : Nat, h76 k96 = none → B k96 = none → ∀ h97 : Heap, h97 = Heap.set h76 k96 (.vec 41 (plains [(Value.bool false), (Value.string ByteArray.empty)]) 2) →
 ∃ h98 : Heap, StoresAt ⟨k96, 0, none⟩ h97 0 [(Value.bool b77), (Value.string s78)] h98 ∧
 ((i73 : Int) = i6 →
 Fin B h98 (Q (false))) ∧ (¬ ((i73 : Int) = i6) →
 Fin B h98 (Q (false)))) ∧ (b79 = false →
 ∀ k80 : Nat, h76 k80 = none → B k80 = none → ∀ h81 : Heap, h81 = Heap.set h76 k80 (.vec 41 (plains [(Value.bool false), (Value.string ByteArray.empty)]) 2) →
 ∃ h82 : Heap, StoresAt ⟨k80, 0, none⟩ h81 0 [(Value.bool b77), (Value.string s78)] h82 ∧
 ((i73 : Int) = i6 →
 ∃ p84 : Option Addr, cellH B h82 ⟨k28, 2, none⟩ = some (Value.pointer p84) ∧
 C_cursor_Cursor_Read B p84 (1) h82 (fun i86 h85 =>
 ((i86 : Int) = 1 →
 ∃ i88 : Int, ∃ i89 : Int, ∃ i90 : Int, ∃ i91 : Int, CellsAt B h85 ⟨k28, 3, none⟩ 0 [(Value.int .i64 (i88)), (Value.int .i64 (i89)), (Value.int .i64 (i90)), (Value.int .i64 (i91))] ∧
 ∃ i92 : Int, ∃ i93 : Int, ∃ i94 : Int, ∃ i95 : Int, CellsAt B h85 ⟨k10, 0, none⟩ 0 [(Value.int .i64 (i92)), (Value.int .i64 (i93)), (Value.int .i64 (i94)), (Value.int .i64 (i95))] ∧
 Fin B h85 (Q ((decide (eqL [(Value.int .i64 (i88)), (Value.int .i64 (i89)), (Value.int .i64 (i90)), (Value.int .i64 (i91))] [(Value.int .i64 (i92)), (Value.int .i64 (i93)), (Value.int .i64 (i94)), (Value.int .i64 (i95))] = true))))) ∧ (¬ ((i86 : Int) = 1) →
 Fin B h85 (Q (false))))) ∧ (¬ ((i73 : Int) = i6) →
 Fin B h82 (Q (false)))))))))
def S_countermandlaw17_MarkCopies (B : RO) (i1 : Int) (i2 : Int) (i3 : Int) (i4 : Int) (i5 : Int) (i6 : Int) (i7 : Int) (i8 : Int) (h : Heap) (Q : Bool → Heap → Prop) : Prop :=
 ∀ k10 : Nat, h k10 = none → B k10 = none → ∀ h11 : Heap, h11 = Heap.set h k10 (.vec 23 (plains [(Value.int .i64 (i1)), (Value.int .i64 (i2)), (Value.int .i64 (i3)), (Value.int .i64 (i4))]) 4) →
 C_countermandlaw17_alive B h11 (fun b13 h12 =>
 (b13 = true →
 C_tome_New B h12 (fun p15 h14 =>
 ∃ i16 : Int, ∃ i17 : Int, ∃ i18 : Int, ∃ i19 : Int, CellsAt B h14 ⟨k10, 0, none⟩ 0 [(Value.int .i64 (i16)), (Value.int .i64 (i17)), (Value.int .i64 (i18)), (Value.int .i64 (i19))] ∧
 C_mark_Fresh B (i16) (i17) (i18) (i19) h14 (fun p21 p22 p23 i24 i25 i26 i27 h20 =>
 ∀ k28 : Nat, h20 k28 = none → B k28 = none → ∀ h29 : Heap, h29 = Heap.set h20 k28 (.vec 31 (plains [(Value.pointer none), (Value.pointer none), (Value.pointer none), (Value.int .i64 (0)), (Value.int .i64 (0)), (Value.int .i64 (0)), (Value.int .i64 (0))]) 7) →
 ∃ h30 : Heap, StoresAt ⟨k28, 0, none⟩ h29 0 [(Value.pointer p21), (Value.pointer p22), (Value.pointer p23), (Value.int .i64 (i24)), (Value.int .i64 (i25)), (Value.int .i64 (i26)), (Value.int .i64 (i27))] h30 ∧
 ∃ p31 : Option Addr, cellH B h30 ⟨k28, 0, none⟩ = some (Value.pointer p31) ∧
 C_draft_Draft_int_Put B p31 (i5) (i6) h30 (fun b33 h32 =>
 ∃ p34 : Option Addr, cellH B h32 ⟨k28, 2, none⟩ = some (Value.pointer p34) ∧
 C_cursor_Cursor_Step B p34 (1) h32 (fun b36 h35 =>
 ∃ p37 : Option Addr, ∃ p38 : Option Addr, ∃ p39 : Option Addr, ∃ i40 : Int, ∃ i41 : Int, ∃ i42 : Int, ∃ i43 : Int, CellsAt B h35 ⟨k28, 0, none⟩ 0 [(Value.pointer p37), (Value.pointer p38), (Value.pointer p39), (Value.int .i64 (i40)), (Value.int .i64 (i41)), (Value.int .i64 (i42)), (Value.int .i64 (i43))] ∧
 C_mark_State_Copy B p37 p38 p39 (i40) (i41) (i42) (i43) h35 (fun p45 p46 p47 i48 i49 i50 i51 h44 =>
 ∀ k52 : Nat, h44 k52 = none → B k52 = none → ∀ h53 : Heap, h53 = Heap.set h44 k52 (.vec 31 (plains [(Value.pointer none), (Value.pointer none), (Value.pointer none), (Value.int .i64 (0)), (Value.int .i64 (0)), (Value.int .i64 (0)), (Value.int .i64 (0))]) 7) →
 ∃ h54 : Heap, StoresAt ⟨k52, 0, none⟩ h53 0 [(Value.pointer p45), (Value.pointer p46), (Value.pointer p47), (Value.int .i64 (i48)), (Value.int .i64 (i49)), (Value.int .i64 (i50)), (Value.int .i64 (i51))] h54 ∧
 ∃ p55 : Option Addr, cellH B h54 ⟨k52, 0, none⟩ = some (Value.pointer p55) ∧
 C_draft_Draft_int_Get B p55 (i5) h54 (fun i57 b58 h56 =>
 ((i57 : Int) = i6 →
 ∃ p101 : Option Addr, cellH B h56 ⟨k52, 2, none⟩ = some (Value.pointer p101) ∧
 C_cursor_Cursor_Read B p101 (1) h56 (fun i103 h102 =>
 ((i103 : Int) = 1 →
 ∃ i105 : Int, ∃ i106 : Int, ∃ i107 : Int, ∃ i108 : Int, CellsAt B h102 ⟨k52, 3, none⟩ 0 [(Value.int .i64 (i105)), (Value.int .i64 (i106)), (Value.int .i64 (i107)), (Value.int .i64 (i108))] ∧
 ∃ i109 : Int, ∃ i110 : Int, ∃ i111 : Int, ∃ i112 : Int, CellsAt B h102 ⟨k10, 0, none⟩ 0 [(Value.int .i64 (i109)), (Value.int .i64 (i110)), (Value.int .i64 (i111)), (Value.int .i64 (i112))] ∧
 (eqL [(Value.int .i64 (i105)), (Value.int .i64 (i106)), (Value.int .i64 (i107)), (Value.int .i64 (i108))] [(Value.int .i64 (i109)), (Value.int .i64 (i110)), (Value.int .i64 (i111)), (Value.int .i64 (i112))] = true →
 Fin B h102 (fun h' => S_countermandlaw17_MarkCopies_J1 B i5 i6 i7 i8 k10 p15 k28 k52 h' Q)) ∧ (¬ (eqL [(Value.int .i64 (i105)), (Value.int .i64 (i106)), (Value.int .i64 (i107)), (Value.int .i64 (i108))] [(Value.int .i64 (i109)), (Value.int .i64 (i110)), (Value.int .i64 (i111)), (Value.int .i64 (i112))] = true) →
 Fin B h102 (Q (false)))) ∧ (¬ ((i103 : Int) = 1) →
 Fin B h102 (Q (false))))) ∧ (¬ ((i57 : Int) = i6) →
 Fin B h56 (Q (false)))))))))) ∧ (b13 = false →
 Fin B h12 (Q (false))))
def S_countermandlaw17_alive_J1 (B : RO) (k2 : Nat) (h16 : Heap) (Q : Bool → Heap → Prop) : Prop :=
 C_mark_Stack_Pop B (some ⟨k2, 0, none⟩) h16 (fun p18 p19 p20 i21 i22 i23 i24 i25 i26 i27 i28 i29 b30 h17 =>
 (b30 = true →
 ∀ k34 : Nat, h17 k34 = none → B k34 = none → ∀ h35 : Heap, h35 = Heap.set h17 k34 (.vec 107 (plains [(Value.pointer none), (Value.pointer none), (Value.pointer none), (Value.int .i64 (0)), (Value.int .i64 (0)), (Value.int .i64 (0)), (Value.int .i64 (0)), (Value.int .i64 (0)), (Value.int .i64 (0)), (Value.int .i64 (0)), (Value.int .i64 (0)), (Value.int .i64 (0))]) 12) →
 ∃ h36 : Heap, StoresAt ⟨k34, 0, none⟩ h35 0 [(Value.pointer p18), (Value.pointer p19), (Value.pointer p20), (Value.int .i64 (i21)), (Value.int .i64 (i22)), (Value.int .i64 (i23)), (Value.int .i64 (i24)), (Value.int .i64 (i25)), (Value.int .i64 (i26)), (Value.int .i64 (i27)), (Value.int .i64 (i28)), (Value.int .i64 (i29))] h36 ∧
 ∃ i37 : Int, cellH B h36 ⟨k34, 11, none⟩ = some (Value.int .i64 (i37)) ∧
 ((i37 : Int) = 5 →
 0 ≤ (0 : Int) ∧ (0 : Int) < (4 : Nat) ∧
 ∃ i39 : Int, cellH B h36 ⟨k34, 3, none⟩ = some (Value.int .i64 (i39)) ∧
 Fin B h36 (Q (((i39 : Int) == (1))))) ∧ (¬ ((i37 : Int) = 5) →
 Fin B h36 (Q (false)))) ∧ (b30 = false →
 ∀ k31 : Nat, h17 k31 = none → B k31 = none → ∀ h32 : Heap, h32 = Heap.set h17 k31 (.vec 107 (plains [(Value.pointer none), (Value.pointer none), (Value.pointer none), (Value.int .i64 (0)), (Value.int .i64 (0)), (Value.int .i64 (0)), (Value.int .i64 (0)), (Value.int .i64 (0)), (Value.int .i64 (0)), (Value.int .i64 (0)), (Value.int .i64 (0)), (Value.int .i64 (0))]) 12) →
 ∃ h33 : Heap, StoresAt ⟨k31, 0, none⟩ h32 0 [(Value.pointer p18), (Value.pointer p19), (Value.pointer p20), (Value.int .i64 (i21)), (Value.int .i64 (i22)), (Value.int .i64 (i23)), (Value.int .i64 (i24)), (Value.int .i64 (i25)), (Value.int .i64 (i26)), (Value.int .i64 (i27)), (Value.int .i64 (i28)), (Value.int .i64 (i29))] h33 ∧
 Fin B h33 (Q (false))))
def S_countermandlaw17_alive (B : RO) (h : Heap) (Q : Bool → Heap → Prop) : Prop :=
 ∀ k2 : Nat, h k2 = none → B k2 = none → ∀ h3 : Heap, h3 = Heap.set h k2 (.vec 103 (plains [(Value.slice none 0 0)]) 1) →
 C_mark_Fresh B (1) (0) (0) (0) h3 (fun p5 p6 p7 i8 i9 i10 i11 h4 =>
 ∀ k12 : Nat, h4 k12 = none → B k12 = none → ∀ h13 : Heap, h13 = Heap.set h4 k12 (.vec 31 (plains [(Value.pointer none), (Value.pointer none), (Value.pointer none), (Value.int .i64 (0)), (Value.int .i64 (0)), (Value.int .i64 (0)), (Value.int .i64 (0))]) 7) →
 ∃ h14 : Heap, StoresAt ⟨k12, 0, none⟩ h13 0 [(Value.pointer p5), (Value.pointer p6), (Value.pointer p7), (Value.int .i64 (i8)), (Value.int .i64 (i9)), (Value.int .i64 (i10)), (Value.int .i64 (i11))] h14 ∧
 ∃ p40 : Option Addr, ∃ p41 : Option Addr, ∃ p42 : Option Addr, ∃ i43 : Int, ∃ i44 : Int, ∃ i45 : Int, ∃ i46 : Int, CellsAt B h14 ⟨k12, 0, none⟩ 0 [(Value.pointer p40), (Value.pointer p41), (Value.pointer p42), (Value.int .i64 (i43)), (Value.int .i64 (i44)), (Value.int .i64 (i45)), (Value.int .i64 (i46))] ∧
 C_mark_Stack_Push B (some ⟨k2, 0, none⟩) p40 p41 p42 (i43) (i44) (i45) (i46) (0) (0) (0) (0) (5) h14 (fun b48 h47 =>
 (b48 = true →
 C_mark_Stack_Len B (some ⟨k2, 0, none⟩) h47 (fun i50 h49 =>
 ((i50 : Int) = 1 →
 Fin B h49 (fun h' => S_countermandlaw17_alive_J1 B k2 h' Q)) ∧ (¬ ((i50 : Int) = 1) →
 Fin B h49 (Q (false))))) ∧ (b48 = false →
 Fin B h47 (Q (false)))))
def S_tome_New (B : RO) (h : Heap) (Q : Option Addr → Heap → Prop) : Prop :=
 C_cell_New_file_File B (6) (false) ByteArray.empty h (fun p3 h2 =>
 ∀ k4 : Nat, h2 k4 = none → B k4 = none → ∀ h5 : Heap, h5 = Heap.set h2 k4 (.vec 113 (plains [(Value.pointer p3)]) 1) →
 Fin B h5 (Q (some ⟨k4, 0, none⟩)))
def S_mark_Fresh_J1 (B : RO) (k12 : Nat) (k14 : Nat) (i18 : Int) (i19 : Int) (i20 : Int) (i21 : Int) (A69 : Addr) (p70 : Option Addr) (A71 : Addr) (h72 : Heap) (Q : Option Addr → Option Addr → Option Addr → Int → Int → Int → Int → Heap → Prop) : Prop :=
 ∃ h74 : Heap, StoresAt ⟨k14, 0, none⟩ h72 0 [(Value.pointer (some A69)), (Value.pointer p70), (Value.pointer (some A71)), (Value.int .i64 (i18)), (Value.int .i64 (i19)), (Value.int .i64 (i20)), (Value.int .i64 (i21))] h74 ∧
 ∃ p75 : Option Addr, ∃ p76 : Option Addr, ∃ p77 : Option Addr, ∃ i78 : Int, ∃ i79 : Int, ∃ i80 : Int, ∃ i81 : Int, CellsAt B h74 ⟨k14, 0, none⟩ 0 [(Value.pointer p75), (Value.pointer p76), (Value.pointer p77), (Value.int .i64 (i78)), (Value.int .i64 (i79)), (Value.int .i64 (i80)), (Value.int .i64 (i81))] ∧ Fin B h74 (Q p75 p76 p77 (i78) (i79) (i80) (i81))
def S_mark_Fresh (B : RO) (i1 : Int) (i2 : Int) (i3 : Int) (i4 : Int) (h : Heap) (Q : Option Addr → Option Addr → Option Addr → Int → Int → Int → Int → Heap → Prop) : Prop :=
 ∀ k12 : Nat, h k12 = none → B k12 = none → ∀ h13 : Heap, h13 = Heap.set h k12 (.vec 23 (plains [(Value.int .i64 (i1)), (Value.int .i64 (i2)), (Value.int .i64 (i3)), (Value.int .i64 (i4))]) 4) →
 ∀ k14 : Nat, h13 k14 = none → B k14 = none → ∀ h15 : Heap, h15 = Heap.set h13 k14 (.vec 31 (plains [(Value.pointer none), (Value.pointer none), (Value.pointer none), (Value.int .i64 (0)), (Value.int .i64 (0)), (Value.int .i64 (0)), (Value.int .i64 (0))]) 7) →
 ∃ i18 : Int, ∃ i19 : Int, ∃ i20 : Int, ∃ i21 : Int, CellsAt B h15 ⟨k12, 0, none⟩ 0 [(Value.int .i64 (i18)), (Value.int .i64 (i19)), (Value.int .i64 (i20)), (Value.int .i64 (i21))] ∧
 (∀ k82 : Nat, h15 k82 = none → B k82 = none → ∀ h83 : Heap, h83 = Heap.set h15 k82 (.vec 116 (plains [(Value.slice none 0 0)]) 1) →
 CellsAt B h83 ⟨k12, 0, none⟩ 0 [(Value.int .i64 (i18)), (Value.int .i64 (i19)), (Value.int .i64 (i20)), (Value.int .i64 (i21))] ∧
 (C_sheet_New B h83 (fun p86 h85 =>
 CellsAt B h85 ⟨k12, 0, none⟩ 0 [(Value.int .i64 (i18)), (Value.int .i64 (i19)), (Value.int .i64 (i20)), (Value.int .i64 (i21))] ∧
 ∀ k88 : Nat, h85 k88 = none → B k88 = none → ∀ h89 : Heap, h89 = Heap.set h85 k88 (.vec 119 (plains [(Value.int .i64 (0)), (Value.int .i64 (0)), (Value.int .i64 (0))]) 3) →
 CellsAt B h89 ⟨k12, 0, none⟩ 0 [(Value.int .i64 (i18)), (Value.int .i64 (i19)), (Value.int .i64 (i20)), (Value.int .i64 (i21))] ∧
 S_mark_Fresh_J1 B k12 k14 i18 i19 i20 i21 ⟨k82, 0, none⟩ p86 ⟨k88, 0, none⟩ h89 Q)) ∧
 (∀ k91 : Nat, h83 k91 = none → B k91 = none → ∀ h92 : Heap, h92 = Heap.set h83 k91 (.vec 119 (plains [(Value.int .i64 (0)), (Value.int .i64 (0)), (Value.int .i64 (0))]) 3) →
 CellsAt B h92 ⟨k12, 0, none⟩ 0 [(Value.int .i64 (i18)), (Value.int .i64 (i19)), (Value.int .i64 (i20)), (Value.int .i64 (i21))] ∧
 C_sheet_New B h92 (fun p95 h94 =>
 CellsAt B h94 ⟨k12, 0, none⟩ 0 [(Value.int .i64 (i18)), (Value.int .i64 (i19)), (Value.int .i64 (i20)), (Value.int .i64 (i21))] ∧
 S_mark_Fresh_J1 B k12 k14 i18 i19 i20 i21 ⟨k82, 0, none⟩ p95 ⟨k91, 0, none⟩ h94 Q))) ∧
 (C_sheet_New B h15 (fun p98 h97 =>
 CellsAt B h97 ⟨k12, 0, none⟩ 0 [(Value.int .i64 (i18)), (Value.int .i64 (i19)), (Value.int .i64 (i20)), (Value.int .i64 (i21))] ∧
 (∀ k100 : Nat, h97 k100 = none → B k100 = none → ∀ h101 : Heap, h101 = Heap.set h97 k100 (.vec 116 (plains [(Value.slice none 0 0)]) 1) →
 CellsAt B h101 ⟨k12, 0, none⟩ 0 [(Value.int .i64 (i18)), (Value.int .i64 (i19)), (Value.int .i64 (i20)), (Value.int .i64 (i21))] ∧
 ∀ k103 : Nat, h101 k103 = none → B k103 = none → ∀ h104 : Heap, h104 = Heap.set h101 k103 (.vec 119 (plains [(Value.int .i64 (0)), (Value.int .i64 (0)), (Value.int .i64 (0))]) 3) →
 CellsAt B h104 ⟨k12, 0, none⟩ 0 [(Value.int .i64 (i18)), (Value.int .i64 (i19)), (Value.int .i64 (i20)), (Value.int .i64 (i21))] ∧
 S_mark_Fresh_J1 B k12 k14 i18 i19 i20 i21 ⟨k100, 0, none⟩ p98 ⟨k103, 0, none⟩ h104 Q) ∧
 (∀ k106 : Nat, h97 k106 = none → B k106 = none → ∀ h107 : Heap, h107 = Heap.set h97 k106 (.vec 119 (plains [(Value.int .i64 (0)), (Value.int .i64 (0)), (Value.int .i64 (0))]) 3) →
 CellsAt B h107 ⟨k12, 0, none⟩ 0 [(Value.int .i64 (i18)), (Value.int .i64 (i19)), (Value.int .i64 (i20)), (Value.int .i64 (i21))] ∧
 ∀ k109 : Nat, h107 k109 = none → B k109 = none → ∀ h110 : Heap, h110 = Heap.set h107 k109 (.vec 116 (plains [(Value.slice none 0 0)]) 1) →
 CellsAt B h110 ⟨k12, 0, none⟩ 0 [(Value.int .i64 (i18)), (Value.int .i64 (i19)), (Value.int .i64 (i20)), (Value.int .i64 (i21))] ∧
 S_mark_Fresh_J1 B k12 k14 i18 i19 i20 i21 ⟨k109, 0, none⟩ p98 ⟨k106, 0, none⟩ h110 Q))) ∧
 (∀ k112 : Nat, h15 k112 = none → B k112 = none → ∀ h113 : Heap, h113 = Heap.set h15 k112 (.vec 119 (plains [(Value.int .i64 (0)), (Value.int .i64 (0)), (Value.int .i64 (0))]) 3) →
 CellsAt B h113 ⟨k12, 0, none⟩ 0 [(Value.int .i64 (i18)), (Value.int .i64 (i19)), (Value.int .i64 (i20)), (Value.int .i64 (i21))] ∧
 (∀ k115 : Nat, h113 k115 = none → B k115 = none → ∀ h116 : Heap, h116 = Heap.set h113 k115 (.vec 116 (plains [(Value.slice none 0 0)]) 1) →
 CellsAt B h116 ⟨k12, 0, none⟩ 0 [(Value.int .i64 (i18)), (Value.int .i64 (i19)), (Value.int .i64 (i20)), (Value.int .i64 (i21))] ∧
 C_sheet_New B h116 (fun p119 h118 =>
 CellsAt B h118 ⟨k12, 0, none⟩ 0 [(Value.int .i64 (i18)), (Value.int .i64 (i19)), (Value.int .i64 (i20)), (Value.int .i64 (i21))] ∧
 S_mark_Fresh_J1 B k12 k14 i18 i19 i20 i21 ⟨k115, 0, none⟩ p119 ⟨k112, 0, none⟩ h118 Q)) ∧
 (C_sheet_New B h113 (fun p122 h121 =>
 CellsAt B h121 ⟨k12, 0, none⟩ 0 [(Value.int .i64 (i18)), (Value.int .i64 (i19)), (Value.int .i64 (i20)), (Value.int .i64 (i21))] ∧
 ∀ k124 : Nat, h121 k124 = none → B k124 = none → ∀ h125 : Heap, h125 = Heap.set h121 k124 (.vec 116 (plains [(Value.slice none 0 0)]) 1) →
 CellsAt B h125 ⟨k12, 0, none⟩ 0 [(Value.int .i64 (i18)), (Value.int .i64 (i19)), (Value.int .i64 (i20)), (Value.int .i64 (i21))] ∧
 S_mark_Fresh_J1 B k12 k14 i18 i19 i20 i21 ⟨k124, 0, none⟩ p122 ⟨k112, 0, none⟩ h125 Q)))
def S_draft_Draft_int_Put (B : RO) (p1 : Option Addr) (i2 : Int) (i3 : Int) (h : Heap) (Q : Bool → Heap → Prop) : Prop :=
 (p1 = none →
 Fin B h (Q (false))) ∧ (¬ (p1 = none) →
 C_draft_Draft_int_find B p1 (i2) h (fun i7 b8 h6 =>
 (b8 = true →
 ∃ A24 : Addr, p1 = some A24 ∧
 LdSl B h6 A24 fun a26 n27 c28 h29 =>
 ∃ A30 : Addr, a26 = some A30 ∧ 0 ≤ (i7 : Int) ∧ (i7 : Int) < (n27 : Nat) ∧
 ∃ h32 : Heap, storeH h29 (Addr.add (Addr.add A30 (Int.toNat (i7) * 2)) 1) (Value.int .i64 (i3)) = some h32 ∧
 Fin B h32 (Q (true))) ∧ (b8 = false →
 ∃ A9 : Addr, p1 = some A9 ∧
 LdSl B h6 A9 fun a11 n12 c13 h14 =>
 ∀ k15 : Nat, h14 k15 = none → B k15 = none → ∀ h16 : Heap, h16 = Heap.set h14 k15 (.vec 121 (plains [(Value.int .i64 (i2)), (Value.int .i64 (i3))]) 2) →
 C_slices_Insert_s_draft_entry_int_draft_entry_int B a11 n12 c13 (i7) (some ⟨k15, 0, none⟩) 1 1 h16 (fun a18 n19 c20 h17 =>
 ∃ A21 : Addr, p1 = some A21 ∧
 ∃ h23 : Heap, storeH h17 A21 (Value.slice a18 n19 c20) = some h23 ∧
 Fin B h23 (Q (true))))))
def S_cursor_Cursor_Step_J1 (B : RO) (p1 : Option Addr) (i2 : Int) (h5 : Heap) (Q : Bool → Heap → Prop) : Prop :=
 ∃ A6 : Addr, p1 = some A6 ∧
 0 ≤ (i2 : Int) ∧ (i2 : Int) < (3 : Nat) ∧
 ∃ i8 : Int, cellH B h5 (Addr.add A6 (Int.toNat (i2) * 1)) = some (Value.int .i64 (i8)) ∧
 ∃ A9 : Addr, p1 = some A9 ∧
 0 ≤ (i2 : Int) ∧ (i2 : Int) < (3 : Nat) ∧
 ∃ h11 : Heap, storeH h5 (Addr.add A9 (Int.toNat (i2) * 1)) (Value.int .i64 (IntKind.wrap .i64 ((i8) + (1)))) = some h11 ∧
 Fin B h11 (Q (true))
def S_cursor_Cursor_Step (B : RO) (p1 : Option Addr) (i2 : Int) (h : Heap) (Q : Bool → Heap → Prop) : Prop :=
 (p1 = none →
 Fin B h (Q (false))) ∧ (¬ (p1 = none) →
 C_cursor_is B (i2) h (fun b14 h13 =>
 (b14 = true →
 ∃ A15 : Addr, p1 = some A15 ∧
 0 ≤ (i2 : Int) ∧ (i2 : Int) < (3 : Nat) ∧
 ∃ i17 : Int, cellH B h13 (Addr.add A15 (Int.toNat (i2) * 1)) = some (Value.int .i64 (i17)) ∧
 ((i17 : Int) ≥ (64) →
 Fin B h13 (Q (false))) ∧ (¬ ((i17 : Int) ≥ (64)) →
 Fin B h13 (fun h' => S_cursor_Cursor_Step_J1 B p1 i2 h' Q))) ∧ (b14 = false →
 Fin B h13 (Q (false)))))
def S_mark_State_Copy (B : RO) (p1 : Option Addr) (p2 : Option Addr) (p3 : Option Addr) (i4 : Int) (i5 : Int) (i6 : Int) (i7 : Int) (h : Heap) (Q : Option Addr → Option Addr → Option Addr → Int → Int → Int → Int → Heap → Prop) : Prop :=
 ∀ k15 : Nat, h k15 = none → B k15 = none → ∀ h16 : Heap, h16 = Heap.set h k15 (.vec 31 (plains [(Value.pointer p1), (Value.pointer p2), (Value.pointer p3), (Value.int .i64 (i4)), (Value.int .i64 (i5)), (Value.int .i64 (i6)), (Value.int .i64 (i7))]) 7) →
 ∀ k17 : Nat, h16 k17 = none → B k17 = none → ∀ h18 : Heap, h18 = Heap.set h16 k17 (.vec 31 (plains [(Value.pointer none), (Value.pointer none), (Value.pointer none), (Value.int .i64 (0)), (Value.int .i64 (0)), (Value.int .i64 (0)), (Value.int .i64 (0))]) 7) →
 ∃ p20 : Option Addr, cellH B h18 ⟨k15, 0, none⟩ = some (Value.pointer p20) ∧
 ∃ p23 : Option Addr, cellH B h18 ⟨k15, 1, none⟩ = some (Value.pointer p23) ∧
 ∃ p26 : Option Addr, cellH B h18 ⟨k15, 2, none⟩ = some (Value.pointer p26) ∧
 ∃ i29 : Int, ∃ i30 : Int, ∃ i31 : Int, ∃ i32 : Int, CellsAt B h18 ⟨k15, 3, none⟩ 0 [(Value.int .i64 (i29)), (Value.int .i64 (i30)), (Value.int .i64 (i31)), (Value.int .i64 (i32))] ∧
 C_draft_Draft_int_Copy B p20 h18 (fun p35 h34 =>
 cellH B h34 ⟨k15, 0, none⟩ = some (Value.pointer p20) ∧ cellH B h34 ⟨k15, 1, none⟩ = some (Value.pointer p23) ∧ cellH B h34 ⟨k15, 2, none⟩ = some (Value.pointer p26) ∧ CellsAt B h34 ⟨k15, 3, none⟩ 0 [(Value.int .i64 (i29)), (Value.int .i64 (i30)), (Value.int .i64 (i31)), (Value.int .i64 (i32))] ∧
 C_sheet_Sheet_Copy B p23 h34 (fun p41 h40 =>
 cellH B h40 ⟨k15, 0, none⟩ = some (Value.pointer p20) ∧ cellH B h40 ⟨k15, 1, none⟩ = some (Value.pointer p23) ∧ cellH B h40 ⟨k15, 2, none⟩ = some (Value.pointer p26) ∧ CellsAt B h40 ⟨k15, 3, none⟩ 0 [(Value.int .i64 (i29)), (Value.int .i64 (i30)), (Value.int .i64 (i31)), (Value.int .i64 (i32))] ∧
 C_cursor_Cursor_Copy B p26 h40 (fun p47 h46 =>
 cellH B h46 ⟨k15, 0, none⟩ = some (Value.pointer p20) ∧ cellH B h46 ⟨k15, 1, none⟩ = some (Value.pointer p23) ∧ cellH B h46 ⟨k15, 2, none⟩ = some (Value.pointer p26) ∧ CellsAt B h46 ⟨k15, 3, none⟩ 0 [(Value.int .i64 (i29)), (Value.int .i64 (i30)), (Value.int .i64 (i31)), (Value.int .i64 (i32))] ∧
 ∃ h52 : Heap, StoresAt ⟨k17, 0, none⟩ h46 0 [(Value.pointer p35), (Value.pointer p41), (Value.pointer p47), (Value.int .i64 (i29)), (Value.int .i64 (i30)), (Value.int .i64 (i31)), (Value.int .i64 (i32))] h52 ∧
 ∃ p53 : Option Addr, ∃ p54 : Option Addr, ∃ p55 : Option Addr, ∃ i56 : Int, ∃ i57 : Int, ∃ i58 : Int, ∃ i59 : Int, CellsAt B h52 ⟨k17, 0, none⟩ 0 [(Value.pointer p53), (Value.pointer p54), (Value.pointer p55), (Value.int .i64 (i56)), (Value.int .i64 (i57)), (Value.int .i64 (i58)), (Value.int .i64 (i59))] ∧ Fin B h52 (Q p53 p54 p55 (i56) (i57) (i58) (i59)))))
def S_draft_Draft_int_Get (B : RO) (p1 : Option Addr) (i2 : Int) (h : Heap) (Q : Int → Bool → Heap → Prop) : Prop :=
 (p1 = none →
 Fin B h (Q (0) (false))) ∧ (¬ (p1 = none) →
 C_draft_Draft_int_find B p1 (i2) h (fun i7 b8 h6 =>
 (b8 = true →
 ∃ A9 : Addr, p1 = some A9 ∧
 LdSl B h6 A9 fun a11 n12 c13 h14 =>
 ∃ A15 : Addr, a11 = some A15 ∧ 0 ≤ (i7 : Int) ∧ (i7 : Int) < (n12 : Nat) ∧
 ∃ i17 : Int, cellH B h14 (Addr.add (Addr.add A15 (Int.toNat (i7) * 2)) 1) = some (Value.int .i64 (i17)) ∧
 Fin B h14 (Q (i17) (true))) ∧ (b8 = false →
 Fin B h6 (Q (0) (false)))))
def S_cursor_Cursor_Read_J1 (B : RO) (p1 : Option Addr) (i2 : Int) (h5 : Heap) (Q : Int → Heap → Prop) : Prop :=
 ∃ A6 : Addr, p1 = some A6 ∧
 0 ≤ (i2 : Int) ∧ (i2 : Int) < (3 : Nat) ∧
 ∃ i8 : Int, cellH B h5 (Addr.add A6 (Int.toNat (i2) * 1)) = some (Value.int .i64 (i8)) ∧
 Fin B h5 (Q (i8))
def S_cursor_Cursor_Read (B : RO) (p1 : Option Addr) (i2 : Int) (h : Heap) (Q : Int → Heap → Prop) : Prop :=
 (p1 = none →
 Fin B h (Q (0))) ∧ (¬ (p1 = none) →
 C_cursor_is B (i2) h (fun b11 h10 =>
 (b11 = true →
 Fin B h10 (fun h' => S_cursor_Cursor_Read_J1 B p1 i2 h' Q)) ∧ (b11 = false →
 Fin B h10 (Q (0)))))
def S_sheet_Sheet_Create (B : RO) (p1 : Option Addr) (p2 : Option Addr) (i3 : Int) (h : Heap) (Q : Bool → Heap → Prop) : Prop :=
 C_sheet_Sheet_Get B p1 p2 (i3) h (fun b6 s7 b8 h5 =>
 ∀ k9 : Nat, h5 k9 = none → B k9 = none → ∀ h10 : Heap, h10 = Heap.set h5 k9 (.vec 41 (plains [(Value.bool false), (Value.string ByteArray.empty)]) 2) →
 ∃ h11 : Heap, StoresAt ⟨k9, 0, none⟩ h10 0 [(Value.bool b6), (Value.string s7)] h11 ∧
 ∃ b12 : Bool, ∃ s13 : ByteArray, CellsAt B h11 ⟨k9, 0, none⟩ 0 [(Value.bool b12), (Value.string s13)] ∧
 C_file_Make B (b12) s13 h11 (fun b15 s16 h14 =>
 C_sheet_Sheet_put B p1 p2 (i3) (b15) s16 h14 (fun b18 h17 =>
 Fin B h17 (Q (b18)))))
def S_sheet_Sheet_Get_J1 (B : RO) (p2 : Option Addr) (i3 : Int) (k7 : Nat) (h10 : Heap) (Q : Bool → ByteArray → Bool → Heap → Prop) : Prop :=
 C_tome_Tome_Get B p2 (i3) h10 (fun b12 s13 i14 h11 =>
 ∀ k15 : Nat, h11 k15 = none → B k15 = none → ∀ h16 : Heap, h16 = Heap.set h11 k15 (.vec 41 (plains [(Value.bool false), (Value.string ByteArray.empty)]) 2) →
 ∃ h17 : Heap, StoresAt ⟨k15, 0, none⟩ h16 0 [(Value.bool b12), (Value.string s13)] h17 ∧
 ∃ b18 : Bool, ∃ s19 : ByteArray, CellsAt B h17 ⟨k15, 0, none⟩ 0 [(Value.bool b18), (Value.string s19)] ∧
 ∃ h20 : Heap, StoresAt ⟨k7, 0, none⟩ h17 0 [(Value.bool b18), (Value.string s19)] h20 ∧
 ∃ b21 : Bool, ∃ s22 : ByteArray, CellsAt B h20 ⟨k7, 0, none⟩ 0 [(Value.bool b21), (Value.string s22)] ∧ Fin B h20 (Q (b21) s22 (false)))
def S_sheet_Sheet_Get (B : RO) (p1 : Option Addr) (p2 : Option Addr) (i3 : Int) (h : Heap) (Q : Bool → ByteArray → Bool → Heap → Prop) : Prop :=
 ∀ k7 : Nat, h k7 = none → B k7 = none → ∀ h8 : Heap, h8 = Heap.set h k7 (.vec 41 (plains [(Value.bool false), (Value.string ByteArray.empty)]) 2) →
 (p1 = none →
 Fin B h8 (fun h' => S_sheet_Sheet_Get_J1 B p2 i3 k7 h' Q)) ∧ (¬ (p1 = none) →
 ∃ A24 : Addr, p1 = some A24 ∧
 ∃ p26 : Option Addr, cellH B h8 A24 = some (Value.pointer p26) ∧
 C_draft_Draft_file_File_Get B p26 (i3) h8 (fun b28 s29 b30 h27 =>
 (b30 = true →
 ∀ k34 : Nat, h27 k34 = none → B k34 = none → ∀ h35 : Heap, h35 = Heap.set h27 k34 (.vec 41 (plains [(Value.bool false), (Value.string ByteArray.empty)]) 2) →
 ∃ h36 : Heap, StoresAt ⟨k34, 0, none⟩ h35 0 [(Value.bool b28), (Value.string s29)] h36 ∧
 ∃ b37 : Bool, ∃ s38 : ByteArray, CellsAt B h36 ⟨k34, 0, none⟩ 0 [(Value.bool b37), (Value.string s38)] ∧
 ∃ h39 : Heap, StoresAt ⟨k7, 0, none⟩ h36 0 [(Value.bool b37), (Value.string s38)] h39 ∧
 ∃ b40 : Bool, ∃ s41 : ByteArray, CellsAt B h39 ⟨k7, 0, none⟩ 0 [(Value.bool b40), (Value.string s41)] ∧ Fin B h39 (Q (b40) s41 (true))) ∧ (b30 = false →
 ∀ k31 : Nat, h27 k31 = none → B k31 = none → ∀ h32 : Heap, h32 = Heap.set h27 k31 (.vec 41 (plains [(Value.bool false), (Value.string ByteArray.empty)]) 2) →
 ∃ h33 : Heap, StoresAt ⟨k31, 0, none⟩ h32 0 [(Value.bool b28), (Value.string s29)] h33 ∧
 Fin B h33 (fun h' => S_sheet_Sheet_Get_J1 B p2 i3 k7 h' Q))))
def S_sheet_Sheet_Copy (B : RO) (p1 : Option Addr) (h : Heap) (Q : Option Addr → Heap → Prop) : Prop :=
 (p1 = none →
 Fin B h (Q none)) ∧ (¬ (p1 = none) →
 ∃ A4 : Addr, p1 = some A4 ∧
 ∃ p6 : Option Addr, cellH B h A4 = some (Value.pointer p6) ∧
 C_draft_Draft_file_File_Copy B p6 h (fun p8 h7 =>
 ∀ k9 : Nat, h7 k9 = none → B k9 = none → ∀ h10 : Heap, h10 = Heap.set h7 k9 (.vec 128 (plains [(Value.pointer p8)]) 1) →
 Fin B h10 (Q (some ⟨k9, 0, none⟩))))
def S_tome_Tome_Get (B : RO) (p1 : Option Addr) (i2 : Int) (h : Heap) (Q : Bool → ByteArray → Int → Heap → Prop) : Prop :=
 ∀ k6 : Nat, h k6 = none → B k6 = none → ∀ h7 : Heap, h7 = Heap.set h k6 (.vec 41 (plains [(Value.bool false), (Value.string ByteArray.empty)]) 2) →
 (p1 = none →
 ∃ h9 : Heap, StoresAt ⟨k6, 0, none⟩ h7 0 [(Value.bool false), (Value.string ByteArray.empty)] h9 ∧
 ∃ b10 : Bool, ∃ s11 : ByteArray, CellsAt B h9 ⟨k6, 0, none⟩ 0 [(Value.bool b10), (Value.string s11)] ∧ Fin B h9 (Q (b10) s11 (0))) ∧ (¬ (p1 = none) →
 ∃ A12 : Addr, p1 = some A12 ∧
 ∃ p14 : Option Addr, cellH B h7 A12 = some (Value.pointer p14) ∧
 C_cell_Row_file_File_Get B p14 (i2) h7 (fun b16 s17 i18 h15 =>
 ∃ h19 : Heap, StoresAt ⟨k6, 0, none⟩ h15 0 [(Value.bool b16), (Value.string s17)] h19 ∧
 ∃ b20 : Bool, ∃ s21 : ByteArray, CellsAt B h19 ⟨k6, 0, none⟩ 0 [(Value.bool b20), (Value.string s21)] ∧ Fin B h19 (Q (b20) s21 (i18))))
def S_mark_Stack_Push (B : RO) (p1 : Option Addr) (p2 : Option Addr) (p3 : Option Addr) (p4 : Option Addr) (i5 : Int) (i6 : Int) (i7 : Int) (i8 : Int) (i9 : Int) (i10 : Int) (i11 : Int) (i12 : Int) (i13 : Int) (h : Heap) (Q : Bool → Heap → Prop) : Prop :=
 ∀ k15 : Nat, h k15 = none → B k15 = none → ∀ h16 : Heap, h16 = Heap.set h k15 (.vec 107 (plains [(Value.pointer p2), (Value.pointer p3), (Value.pointer p4), (Value.int .i64 (i5)), (Value.int .i64 (i6)), (Value.int .i64 (i7)), (Value.int .i64 (i8)), (Value.int .i64 (i9)), (Value.int .i64 (i10)), (Value.int .i64 (i11)), (Value.int .i64 (i12)), (Value.int .i64 (i13))]) 12) →
 (p1 = none →
 Fin B h16 (Q (false))) ∧ (¬ (p1 = none) →
 ∃ p18 : Option Addr, ∃ p19 : Option Addr, ∃ p20 : Option Addr, ∃ i21 : Int, ∃ i22 : Int, ∃ i23 : Int, ∃ i24 : Int, CellsAt B h16 ⟨k15, 0, none⟩ 0 [(Value.pointer p18), (Value.pointer p19), (Value.pointer p20), (Value.int .i64 (i21)), (Value.int .i64 (i22)), (Value.int .i64 (i23)), (Value.int .i64 (i24))] ∧
 C_mark_State_Copy B p18 p19 p20 (i21) (i22) (i23) (i24) h16 (fun p26 p27 p28 i29 i30 i31 i32 h25 =>
 ∃ h33 : Heap, StoresAt ⟨k15, 0, none⟩ h25 0 [(Value.pointer p26), (Value.pointer p27), (Value.pointer p28), (Value.int .i64 (i29)), (Value.int .i64 (i30)), (Value.int .i64 (i31)), (Value.int .i64 (i32))] h33 ∧
 ∃ A36 : Addr, p1 = some A36 ∧
 ∃ a40 : Option Addr, ∃ n41 : Nat, ∃ c42 : Nat, cellH B h33 A36 = some (Value.slice a40 n41 c42) ∧
 ∃ p44 : Option Addr, ∃ p45 : Option Addr, ∃ p46 : Option Addr, ∃ i47 : Int, ∃ i48 : Int, ∃ i49 : Int, ∃ i50 : Int, ∃ i51 : Int, ∃ i52 : Int, ∃ i53 : Int, ∃ i54 : Int, ∃ i55 : Int, CellsAt B h33 ⟨k15, 0, none⟩ 0 [(Value.pointer p44), (Value.pointer p45), (Value.pointer p46), (Value.int .i64 (i47)), (Value.int .i64 (i48)), (Value.int .i64 (i49)), (Value.int .i64 (i50)), (Value.int .i64 (i51)), (Value.int .i64 (i52)), (Value.int .i64 (i53)), (Value.int .i64 (i54)), (Value.int .i64 (i55))] ∧
 ∀ k57 : Nat, h33 k57 = none → B k57 = none → ∀ h58 : Heap, h58 = Heap.set h33 k57 (.vec 107 (plains [(Value.pointer p44), (Value.pointer p45), (Value.pointer p46), (Value.int .i64 (i47)), (Value.int .i64 (i48)), (Value.int .i64 (i49)), (Value.int .i64 (i50)), (Value.int .i64 (i51)), (Value.int .i64 (i52)), (Value.int .i64 (i53)), (Value.int .i64 (i54)), (Value.int .i64 (i55))]) 12) →
 cellH B h58 A36 = some (Value.slice a40 n41 c42) ∧ CellsAt B h58 ⟨k15, 0, none⟩ 0 [(Value.pointer p44), (Value.pointer p45), (Value.pointer p46), (Value.int .i64 (i47)), (Value.int .i64 (i48)), (Value.int .i64 (i49)), (Value.int .i64 (i50)), (Value.int .i64 (i51)), (Value.int .i64 (i52)), (Value.int .i64 (i53)), (Value.int .i64 (i54)), (Value.int .i64 (i55))] ∧
 semH PG B (Builtin.append_ #[101, 101] 101 #[(Value.slice a40 n41 c42), (Value.slice (some ⟨k57, 0, none⟩) 1 1)]) h58 (fun v h61 => ∃ a62 : Option Addr, ∃ n63 : Nat, ∃ c64 : Nat, v = (Value.slice a62 n63 c64) ∧
 cellH B h61 A36 = some (Value.slice a40 n41 c42) ∧ CellsAt B h61 ⟨k15, 0, none⟩ 0 [(Value.pointer p44), (Value.pointer p45), (Value.pointer p46), (Value.int .i64 (i47)), (Value.int .i64 (i48)), (Value.int .i64 (i49)), (Value.int .i64 (i50)), (Value.int .i64 (i51)), (Value.int .i64 (i52)), (Value.int .i64 (i53)), (Value.int .i64 (i54)), (Value.int .i64 (i55))] ∧
 ∃ A67 : Addr, p1 = some A67 ∧
 ∃ h69 : Heap, storeH h61 A67 (Value.slice a62 n63 c64) = some h69 ∧
 Fin B h69 (Q (true)))))
def S_mark_Stack_Len (B : RO) (p1 : Option Addr) (h : Heap) (Q : Int → Heap → Prop) : Prop :=
 (p1 = none →
 Fin B h (Q (0))) ∧ (¬ (p1 = none) →
 ∃ A4 : Addr, p1 = some A4 ∧
 LdSl B h A4 fun a6 n7 c8 h9 =>
 Fin B h9 (Q ((n7 : Nat))))
def S_mark_Stack_Pop_J1 (B : RO) (p1 : Option Addr) (k15 : Nat) (h18 : Heap) (Q : Option Addr → Option Addr → Option Addr → Int → Int → Int → Int → Int → Int → Int → Int → Int → Bool → Heap → Prop) : Prop :=
 ∃ A19 : Addr, p1 = some A19 ∧
 LdSl B h18 A19 fun a21 n22 c23 h24 =>
 ∃ A25 : Addr, p1 = some A25 ∧
 LdSl B h24 A25 fun a27 n28 c29 h30 =>
 ∃ A31 : Addr, a27 = some A31 ∧ 0 ≤ (IntKind.wrap .i64 (((n22 : Nat)) - (1)) : Int) ∧ (IntKind.wrap .i64 (((n22 : Nat)) - (1)) : Int) < (n28 : Nat) ∧
 ∃ p33 : Option Addr, ∃ p34 : Option Addr, ∃ p35 : Option Addr, ∃ i36 : Int, ∃ i37 : Int, ∃ i38 : Int, ∃ i39 : Int, ∃ i40 : Int, ∃ i41 : Int, ∃ i42 : Int, ∃ i43 : Int, ∃ i44 : Int, CellsAt B h30 (Addr.add A31 (Int.toNat (IntKind.wrap .i64 (((n22 : Nat)) - (1))) * 12)) 0 [(Value.pointer p33), (Value.pointer p34), (Value.pointer p35), (Value.int .i64 (i36)), (Value.int .i64 (i37)), (Value.int .i64 (i38)), (Value.int .i64 (i39)), (Value.int .i64 (i40)), (Value.int .i64 (i41)), (Value.int .i64 (i42)), (Value.int .i64 (i43)), (Value.int .i64 (i44))] ∧
 ∀ k45 : Nat, h30 k45 = none → B k45 = none → ∀ h46 : Heap, h46 = Heap.set h30 k45 (.vec 107 (plains [(Value.pointer none), (Value.pointer none), (Value.pointer none), (Value.int .i64 (0)), (Value.int .i64 (0)), (Value.int .i64 (0)), (Value.int .i64 (0)), (Value.int .i64 (0)), (Value.int .i64 (0)), (Value.int .i64 (0)), (Value.int .i64 (0)), (Value.int .i64 (0))]) 12) →
 ∃ h47 : Heap, StoresAt ⟨k45, 0, none⟩ h46 0 [(Value.pointer p33), (Value.pointer p34), (Value.pointer p35), (Value.int .i64 (i36)), (Value.int .i64 (i37)), (Value.int .i64 (i38)), (Value.int .i64 (i39)), (Value.int .i64 (i40)), (Value.int .i64 (i41)), (Value.int .i64 (i42)), (Value.int .i64 (i43)), (Value.int .i64 (i44))] h47 ∧
 ∃ A48 : Addr, p1 = some A48 ∧
 LdSl B h47 A48 fun a50 n51 c52 h53 =>
 C_slices_Delete_s_mark_Mark_mark_Mark B a50 n51 c52 (IntKind.wrap .i64 (((n22 : Nat)) - (1))) (IntKind.wrap .i64 ((IntKind.wrap .i64 (((n22 : Nat)) - (1))) + (1))) h53 (fun a55 n56 c57 h54 =>
 ∃ A58 : Addr, p1 = some A58 ∧
 ∃ h60 : Heap, storeH h54 A58 (Value.slice a55 n56 c57) = some h60 ∧
 ∃ p61 : Option Addr, ∃ p62 : Option Addr, ∃ p63 : Option Addr, ∃ i64 : Int, ∃ i65 : Int, ∃ i66 : Int, ∃ i67 : Int, ∃ i68 : Int, ∃ i69 : Int, ∃ i70 : Int, ∃ i71 : Int, ∃ i72 : Int, CellsAt B h60 ⟨k45, 0, none⟩ 0 [(Value.pointer p61), (Value.pointer p62), (Value.pointer p63), (Value.int .i64 (i64)), (Value.int .i64 (i65)), (Value.int .i64 (i66)), (Value.int .i64 (i67)), (Value.int .i64 (i68)), (Value.int .i64 (i69)), (Value.int .i64 (i70)), (Value.int .i64 (i71)), (Value.int .i64 (i72))] ∧
 ∃ h73 : Heap, StoresAt ⟨k15, 0, none⟩ h60 0 [(Value.pointer p61), (Value.pointer p62), (Value.pointer p63), (Value.int .i64 (i64)), (Value.int .i64 (i65)), (Value.int .i64 (i66)), (Value.int .i64 (i67)), (Value.int .i64 (i68)), (Value.int .i64 (i69)), (Value.int .i64 (i70)), (Value.int .i64 (i71)), (Value.int .i64 (i72))] h73 ∧
 ∃ p74 : Option Addr, ∃ p75 : Option Addr, ∃ p76 : Option Addr, ∃ i77 : Int, ∃ i78 : Int, ∃ i79 : Int, ∃ i80 : Int, ∃ i81 : Int, ∃ i82 : Int, ∃ i83 : Int, ∃ i84 : Int, ∃ i85 : Int, CellsAt B h73 ⟨k15, 0, none⟩ 0 [(Value.pointer p74), (Value.pointer p75), (Value.pointer p76), (Value.int .i64 (i77)), (Value.int .i64 (i78)), (Value.int .i64 (i79)), (Value.int .i64 (i80)), (Value.int .i64 (i81)), (Value.int .i64 (i82)), (Value.int .i64 (i83)), (Value.int .i64 (i84)), (Value.int .i64 (i85))] ∧ Fin B h73 (Q p74 p75 p76 (i77) (i78) (i79) (i80) (i81) (i82) (i83) (i84) (i85) (true)))
def S_mark_Stack_Pop (B : RO) (p1 : Option Addr) (h : Heap) (Q : Option Addr → Option Addr → Option Addr → Int → Int → Int → Int → Int → Int → Int → Int → Int → Bool → Heap → Prop) : Prop :=
 ∀ k15 : Nat, h k15 = none → B k15 = none → ∀ h16 : Heap, h16 = Heap.set h k15 (.vec 107 (plains [(Value.pointer none), (Value.pointer none), (Value.pointer none), (Value.int .i64 (0)), (Value.int .i64 (0)), (Value.int .i64 (0)), (Value.int .i64 (0)), (Value.int .i64 (0)), (Value.int .i64 (0)), (Value.int .i64 (0)), (Value.int .i64 (0)), (Value.int .i64 (0))]) 12) →
 (p1 = none →
 ∃ h87 : Heap, StoresAt ⟨k15, 0, none⟩ h16 0 [(Value.pointer none), (Value.pointer none), (Value.pointer none), (Value.int .i64 (0)), (Value.int .i64 (0)), (Value.int .i64 (0)), (Value.int .i64 (0)), (Value.int .i64 (0)), (Value.int .i64 (0)), (Value.int .i64 (0)), (Value.int .i64 (0)), (Value.int .i64 (0))] h87 ∧
 ∃ p88 : Option Addr, ∃ p89 : Option Addr, ∃ p90 : Option Addr, ∃ i91 : Int, ∃ i92 : Int, ∃ i93 : Int, ∃ i94 : Int, ∃ i95 : Int, ∃ i96 : Int, ∃ i97 : Int, ∃ i98 : Int, ∃ i99 : Int, CellsAt B h87 ⟨k15, 0, none⟩ 0 [(Value.pointer p88), (Value.pointer p89), (Value.pointer p90), (Value.int .i64 (i91)), (Value.int .i64 (i92)), (Value.int .i64 (i93)), (Value.int .i64 (i94)), (Value.int .i64 (i95)), (Value.int .i64 (i96)), (Value.int .i64 (i97)), (Value.int .i64 (i98)), (Value.int .i64 (i99))] ∧ Fin B h87 (Q p88 p89 p90 (i91) (i92) (i93) (i94) (i95) (i96) (i97) (i98) (i99) (false))) ∧ (¬ (p1 = none) →
 ∃ A100 : Addr, p1 = some A100 ∧
 LdSl B h16 A100 fun a102 n103 c104 h105 =>
 (((n103 : Nat) : Int) = 0 →
 ∃ h107 : Heap, StoresAt ⟨k15, 0, none⟩ h105 0 [(Value.pointer none), (Value.pointer none), (Value.pointer none), (Value.int .i64 (0)), (Value.int .i64 (0)), (Value.int .i64 (0)), (Value.int .i64 (0)), (Value.int .i64 (0)), (Value.int .i64 (0)), (Value.int .i64 (0)), (Value.int .i64 (0)), (Value.int .i64 (0))] h107 ∧
 ∃ p108 : Option Addr, ∃ p109 : Option Addr, ∃ p110 : Option Addr, ∃ i111 : Int, ∃ i112 : Int, ∃ i113 : Int, ∃ i114 : Int, ∃ i115 : Int, ∃ i116 : Int, ∃ i117 : Int, ∃ i118 : Int, ∃ i119 : Int, CellsAt B h107 ⟨k15, 0, none⟩ 0 [(Value.pointer p108), (Value.pointer p109), (Value.pointer p110), (Value.int .i64 (i111)), (Value.int .i64 (i112)), (Value.int .i64 (i113)), (Value.int .i64 (i114)), (Value.int .i64 (i115)), (Value.int .i64 (i116)), (Value.int .i64 (i117)), (Value.int .i64 (i118)), (Value.int .i64 (i119))] ∧ Fin B h107 (Q p108 p109 p110 (i111) (i112) (i113) (i114) (i115) (i116) (i117) (i118) (i119) (false))) ∧ (¬ (((n103 : Nat) : Int) = 0) →
 Fin B h105 (fun h' => S_mark_Stack_Pop_J1 B p1 k15 h' Q)))
def S_cell_New_file_File (B : RO) (i1 : Int) (b2 : Bool) (s3 : ByteArray) (h : Heap) (Q : Option Addr → Heap → Prop) : Prop :=
 ∀ k5 : Nat, h k5 = none → B k5 = none → ∀ h6 : Heap, h6 = Heap.set h k5 (.vec 41 (plains [(Value.bool b2), (Value.string s3)]) 2) →
 ∀ k7 : Nat, h6 k7 = none → B k7 = none → ∀ h8 : Heap, h8 = Heap.set h6 k7 (.vec 168 (plains [(Value.slice none 0 0)]) 1) →
 ∃ (J14 : Int → Nat → Heap → Prop) (m12 : Nat), Fin B h8 (J14 (0) m12) ∧
 ∀ (i9 : Int) (m11 : Nat) (h10 : Heap), J14 i9 m11 h10 →
 ((i9 : Int) < (i1) →
 ∃ a20 : Option Addr, ∃ n21 : Nat, ∃ c22 : Nat, cellH B h10 ⟨k7, 0, none⟩ = some (Value.slice a20 n21 c22) ∧
 ∃ b24 : Bool, ∃ s25 : ByteArray, CellsAt B h10 ⟨k5, 0, none⟩ 0 [(Value.bool b24), (Value.string s25)] ∧
 ∀ k28 : Nat, h10 k28 = none → B k28 = none → ∀ h29 : Heap, h29 = Heap.set h10 k28 (.vec 170 (plains [(Value.bool b24), (Value.string s25), (Value.int .i64 (0))]) 3) →
 cellH B h29 ⟨k7, 0, none⟩ = some (Value.slice a20 n21 c22) ∧ CellsAt B h29 ⟨k5, 0, none⟩ 0 [(Value.bool b24), (Value.string s25)] ∧
 semH PG B (Builtin.append_ #[166, 166] 166 #[(Value.slice a20 n21 c22), (Value.slice (some ⟨k28, 0, none⟩) 1 1)]) h29 (fun v h32 => ∃ a33 : Option Addr, ∃ n34 : Nat, ∃ c35 : Nat, v = (Value.slice a33 n34 c35) ∧
 cellH B h32 ⟨k7, 0, none⟩ = some (Value.slice a20 n21 c22) ∧ CellsAt B h32 ⟨k5, 0, none⟩ 0 [(Value.bool b24), (Value.string s25)] ∧
 ∃ h38 : Heap, storeH h32 ⟨k7, 0, none⟩ (Value.slice a33 n34 c35) = some h38 ∧
 Fin B h38 (fun h' => ∃ m', m' < m11 ∧ J14 (IntKind.wrap .i64 ((i9) + (1))) m' h'))) ∧ (¬ ((i9 : Int) < (i1)) →
 Fin B h10 (Q (some ⟨k7, 0, none⟩)))
def S_sheet_New (B : RO) (h : Heap) (Q : Option Addr → Heap → Prop) : Prop :=
 ∀ k2 : Nat, h k2 = none → B k2 = none → ∀ h3 : Heap, h3 = Heap.set h k2 (.vec 160 (plains [(Value.slice none 0 0)]) 1) →
 ∀ k4 : Nat, h3 k4 = none → B k4 = none → ∀ h5 : Heap, h5 = Heap.set h3 k4 (.vec 128 (plains [(Value.pointer (some ⟨k2, 0, none⟩))]) 1) →
 Fin B h5 (Q (some ⟨k4, 0, none⟩))
def S_draft_Draft_int_find (B : RO) (p1 : Option Addr) (i2 : Int) (h : Heap) (Q : Int → Bool → Heap → Prop) : Prop :=
 ∃ A5 : Addr, p1 = some A5 ∧
 LdSl B h A5 fun a7 n8 c9 h10 =>
 C_slices_BinarySearchFunc_s_draft_entry_int_draft_entry_int_int B a7 n8 c9 (i2) (Value.func (.func 100) #[] #[]) h10 (fun i12 b13 h11 =>
 Fin B h11 (Q (i12) (b13)))
def S_slices_Insert_s_draft_entry_int_draft_entry_int (B : RO) (a1 : Option Addr) (n2 : Nat) (c3 : Nat) (i4 : Int) (a5 : Option Addr) (n6 : Nat) (c7 : Nat) (h : Heap) (Q : Option Addr → Nat → Nat → Heap → Prop) : Prop :=
 0 ≤ (i4 : Int) ∧ (i4 : Int) ≤ ((n2 : Nat) : Int) ∧ ((n2 : Nat) : Int) ≤ (c3 : Nat) ∧
 (((n6 : Nat) : Int) = 0 →
 Fin B h (Q a1 n2 c3)) ∧ (¬ (((n6 : Nat) : Int) = 0) →
 ((i4 : Int) = (n2 : Nat) →
 semH PG B (Builtin.append_ #[114, 114] 114 #[(Value.slice a1 n2 c3), (Value.slice a5 n6 c7)]) h (fun v h13 => ∃ a14 : Option Addr, ∃ n15 : Nat, ∃ c16 : Nat, v = (Value.slice a14 n15 c16) ∧
 Fin B h13 (Q a14 n15 c16))) ∧ (¬ ((i4 : Int) = (n2 : Nat)) →
 ((IntKind.wrap .i64 (((n2 : Nat)) + ((n6 : Nat))) : Int) > ((c3 : Nat)) →
 0 ≤ (0 : Int) ∧ (0 : Int) ≤ (i4 : Int) ∧ (i4 : Int) ≤ (c3 : Nat) ∧
 semH PG B (Builtin.append_ #[114, 3] 114 #[(Value.slice (if c3 = Int.toNat (0) then a1 else Option.map (·.add (Int.toNat (0) * 2)) a1) (Int.toNat (i4) - Int.toNat (0)) (c3 - Int.toNat (0))), (Value.int .i64 (IntKind.wrap .i64 ((IntKind.wrap .i64 (((n2 : Nat)) + ((n6 : Nat)))) - (i4))))]) h (fun v h18 => ∃ a19 : Option Addr, ∃ n20 : Nat, ∃ c21 : Nat, v = (Value.slice a19 n20 c21) ∧
 0 ≤ (i4 : Int) ∧ (i4 : Int) ≤ ((n20 : Nat) : Int) ∧ ((n20 : Nat) : Int) ≤ (c21 : Nat) ∧
 semH PG B (Builtin.copy_ #[114, 114] 3 #[(Value.slice (if c21 = Int.toNat (i4) then a19 else Option.map (·.add (Int.toNat (i4) * 2)) a19) (Int.toNat ((n20 : Nat)) - Int.toNat (i4)) (c21 - Int.toNat (i4))), (Value.slice a5 n6 c7)]) h18 (fun v h22 => ∃ i23 : Int, v = (Value.int .i64 (i23)) ∧
 0 ≤ (IntKind.wrap .i64 ((i4) + ((n6 : Nat))) : Int) ∧ (IntKind.wrap .i64 ((i4) + ((n6 : Nat))) : Int) ≤ ((n20 : Nat) : Int) ∧ ((n20 : Nat) : Int) ≤ (c21 : Nat) ∧
 0 ≤ (i4 : Int) ∧ (i4 : Int) ≤ ((n2 : Nat) : Int) ∧ ((n2 : Nat) : Int) ≤ (c3 : Nat) ∧
 semH PG B (Builtin.copy_ #[114, 114] 3 #[(Value.slice (if c21 = Int.toNat (IntKind.wrap .i64 ((i4) + ((n6 : Nat)))) then a19 else Option.map (·.add (Int.toNat (IntKind.wrap .i64 ((i4) + ((n6 : Nat)))) * 2)) a19) (Int.toNat ((n20 : Nat)) - Int.toNat (IntKind.wrap .i64 ((i4) + ((n6 : Nat))))) (c21 - Int.toNat (IntKind.wrap .i64 ((i4) + ((n6 : Nat)))))), (Value.slice (if c3 = Int.toNat (i4) then a1 else Option.map (·.add (Int.toNat (i4) * 2)) a1) (Int.toNat ((n2 : Nat)) - Int.toNat (i4)) (c3 - Int.toNat (i4)))]) h22 (fun v h24 => ∃ i25 : Int, v = (Value.int .i64 (i25)) ∧
 Fin B h24 (Q a19 n20 c21))))) ∧ (¬ ((IntKind.wrap .i64 (((n2 : Nat)) + ((n6 : Nat))) : Int) > ((c3 : Nat))) →
 0 ≤ (0 : Int) ∧ (0 : Int) ≤ (IntKind.wrap .i64 (((n2 : Nat)) + ((n6 : Nat))) : Int) ∧ (IntKind.wrap .i64 (((n2 : Nat)) + ((n6 : Nat))) : Int) ≤ (c3 : Nat) ∧
 0 ≤ (IntKind.wrap .i64 ((i4) + ((n6 : Nat))) : Int) ∧ (IntKind.wrap .i64 ((i4) + ((n6 : Nat))) : Int) ≤ (((Int.toNat (IntKind.wrap .i64 (((n2 : Nat)) + ((n6 : Nat)))) - Int.toNat (0)) : Nat) : Int) ∧ (((Int.toNat (IntKind.wrap .i64 (((n2 : Nat)) + ((n6 : Nat)))) - Int.toNat (0)) : Nat) : Int) ≤ ((c3 - Int.toNat (0)) : Nat) ∧
 semH PG B (Extern.SlicesOverlaps.overlaps #[114, 114] #[4] #[(Value.slice a5 n6 c7), (Value.slice (if (c3 - Int.toNat (0)) = Int.toNat (IntKind.wrap .i64 ((i4) + ((n6 : Nat)))) then (if c3 = Int.toNat (0) then a1 else Option.map (·.add (Int.toNat (0) * 2)) a1) else Option.map (·.add (Int.toNat (IntKind.wrap .i64 ((i4) + ((n6 : Nat)))) * 2)) (if c3 = Int.toNat (0) then a1 else Option.map (·.add (Int.toNat (0) * 2)) a1)) (Int.toNat (((Int.toNat (IntKind.wrap .i64 (((n2 : Nat)) + ((n6 : Nat)))) - Int.toNat (0)) : Nat)) - Int.toNat (IntKind.wrap .i64 ((i4) + ((n6 : Nat))))) ((c3 - Int.toNat (0)) - Int.toNat (IntKind.wrap .i64 ((i4) + ((n6 : Nat))))))]) h (fun v h26 => ∃ b27 : Bool, v = (Value.bool b27) ∧
 (b27 = true →
 0 ≤ ((n2 : Nat) : Int) ∧ ((n2 : Nat) : Int) ≤ (((Int.toNat (IntKind.wrap .i64 (((n2 : Nat)) + ((n6 : Nat)))) - Int.toNat (0)) : Nat) : Int) ∧ (((Int.toNat (IntKind.wrap .i64 (((n2 : Nat)) + ((n6 : Nat)))) - Int.toNat (0)) : Nat) : Int) ≤ ((c3 - Int.toNat (0)) : Nat) ∧
 semH PG B (Builtin.copy_ #[114, 114] 3 #[(Value.slice (if (c3 - Int.toNat (0)) = Int.toNat ((n2 : Nat)) then (if c3 = Int.toNat (0) then a1 else Option.map (·.add (Int.toNat (0) * 2)) a1) else Option.map (·.add (Int.toNat ((n2 : Nat)) * 2)) (if c3 = Int.toNat (0) then a1 else Option.map (·.add (Int.toNat (0) * 2)) a1)) (Int.toNat (((Int.toNat (IntKind.wrap .i64 (((n2 : Nat)) + ((n6 : Nat)))) - Int.toNat (0)) : Nat)) - Int.toNat ((n2 : Nat))) ((c3 - Int.toNat (0)) - Int.toNat ((n2 : Nat)))), (Value.slice a5 n6 c7)]) h26 (fun v h32 => ∃ i33 : Int, v = (Value.int .i64 (i33)) ∧
 0 ≤ (i4 : Int) ∧ (i4 : Int) ≤ (((Int.toNat (IntKind.wrap .i64 (((n2 : Nat)) + ((n6 : Nat)))) - Int.toNat (0)) : Nat) : Int) ∧ (((Int.toNat (IntKind.wrap .i64 (((n2 : Nat)) + ((n6 : Nat)))) - Int.toNat (0)) : Nat) : Int) ≤ ((c3 - Int.toNat (0)) : Nat) ∧
 C_slices_rotateRight_draft_entry_int B (if (c3 - Int.toNat (0)) = Int.toNat (i4) then (if c3 = Int.toNat (0) then a1 else Option.map (·.add (Int.toNat (0) * 2)) a1) else Option.map (·.add (Int.toNat (i4) * 2)) (if c3 = Int.toNat (0) then a1 else Option.map (·.add (Int.toNat (0) * 2)) a1)) (Int.toNat (((Int.toNat (IntKind.wrap .i64 (((n2 : Nat)) + ((n6 : Nat)))) - Int.toNat (0)) : Nat)) - Int.toNat (i4)) ((c3 - Int.toNat (0)) - Int.toNat (i4)) ((n6 : Nat)) h32 (fun h34 =>
 Fin B h34 (Q (if c3 = Int.toNat (0) then a1 else Option.map (·.add (Int.toNat (0) * 2)) a1) (Int.toNat (IntKind.wrap .i64 (((n2 : Nat)) + ((n6 : Nat)))) - Int.toNat (0)) (c3 - Int.toNat (0)))))) ∧ (b27 = false →
 0 ≤ (IntKind.wrap .i64 ((i4) + ((n6 : Nat))) : Int) ∧ (IntKind.wrap .i64 ((i4) + ((n6 : Nat))) : Int) ≤ (((Int.toNat (IntKind.wrap .i64 (((n2 : Nat)) + ((n6 : Nat)))) - Int.toNat (0)) : Nat) : Int) ∧ (((Int.toNat (IntKind.wrap .i64 (((n2 : Nat)) + ((n6 : Nat)))) - Int.toNat (0)) : Nat) : Int) ≤ ((c3 - Int.toNat (0)) : Nat) ∧
 0 ≤ (i4 : Int) ∧ (i4 : Int) ≤ (((Int.toNat (IntKind.wrap .i64 (((n2 : Nat)) + ((n6 : Nat)))) - Int.toNat (0)) : Nat) : Int) ∧ (((Int.toNat (IntKind.wrap .i64 (((n2 : Nat)) + ((n6 : Nat)))) - Int.toNat (0)) : Nat) : Int) ≤ ((c3 - Int.toNat (0)) : Nat) ∧
 semH PG B (Builtin.copy_ #[114, 114] 3 #[(Value.slice (if (c3 - Int.toNat (0)) = Int.toNat (IntKind.wrap .i64 ((i4) + ((n6 : Nat)))) then (if c3 = Int.toNat (0) then a1 else Option.map (·.add (Int.toNat (0) * 2)) a1) else Option.map (·.add (Int.toNat (IntKind.wrap .i64 ((i4) + ((n6 : Nat)))) * 2)) (if c3 = Int.toNat (0) then a1 else Option.map (·.add (Int.toNat (0) * 2)) a1)) (Int.toNat (((Int.toNat (IntKind.wrap .i64 (((n2 : Nat)) + ((n6 : Nat)))) - Int.toNat (0)) : Nat)) - Int.toNat (IntKind.wrap .i64 ((i4) + ((n6 : Nat))))) ((c3 - Int.toNat (0)) - Int.toNat (IntKind.wrap .i64 ((i4) + ((n6 : Nat)))))), (Value.slice (if (c3 - Int.toNat (0)) = Int.toNat (i4) then (if c3 = Int.toNat (0) then a1 else Option.map (·.add (Int.toNat (0) * 2)) a1) else Option.map (·.add (Int.toNat (i4) * 2)) (if c3 = Int.toNat (0) then a1 else Option.map (·.add (Int.toNat (0) * 2)) a1)) (Int.toNat (((Int.toNat (IntKind.wrap .i64 (((n2 : Nat)) + ((n6 : Nat)))) - Int.toNat (0)) : Nat)) - Int.toNat (i4)) ((c3 - Int.toNat (0)) - Int.toNat (i4)))]) h26 (fun v h28 => ∃ i29 : Int, v = (Value.int .i64 (i29)) ∧
 0 ≤ (i4 : Int) ∧ (i4 : Int) ≤ (((Int.toNat (IntKind.wrap .i64 (((n2 : Nat)) + ((n6 : Nat)))) - Int.toNat (0)) : Nat) : Int) ∧ (((Int.toNat (IntKind.wrap .i64 (((n2 : Nat)) + ((n6 : Nat)))) - Int.toNat (0)) : Nat) : Int) ≤ ((c3 - Int.toNat (0)) : Nat) ∧
 semH PG B (Builtin.copy_ #[114, 114] 3 #[(Value.slice (if (c3 - Int.toNat (0)) = Int.toNat (i4) then (if c3 = Int.toNat (0) then a1 else Option.map (·.add (Int.toNat (0) * 2)) a1) else Option.map (·.add (Int.toNat (i4) * 2)) (if c3 = Int.toNat (0) then a1 else Option.map (·.add (Int.toNat (0) * 2)) a1)) (Int.toNat (((Int.toNat (IntKind.wrap .i64 (((n2 : Nat)) + ((n6 : Nat)))) - Int.toNat (0)) : Nat)) - Int.toNat (i4)) ((c3 - Int.toNat (0)) - Int.toNat (i4))), (Value.slice a5 n6 c7)]) h28 (fun v h30 => ∃ i31 : Int, v = (Value.int .i64 (i31)) ∧
 Fin B h30 (Q (if c3 = Int.toNat (0) then a1 else Option.map (·.add (Int.toNat (0) * 2)) a1) (Int.toNat (IntKind.wrap .i64 (((n2 : Nat)) + ((n6 : Nat)))) - Int.toNat (0)) (c3 - Int.toNat (0))))))))))
def S_cursor_is (B : RO) (i1 : Int) (h : Heap) (Q : Bool → Heap → Prop) : Prop :=
 ((i1 : Int) ≥ (0) →
 Fin B h (Q ((decide ((i1 : Int) < (3)))))) ∧ (¬ ((i1 : Int) ≥ (0)) →
 Fin B h (Q (false)))
def S_draft_Draft_int_Copy (B : RO) (p1 : Option Addr) (h : Heap) (Q : Option Addr → Heap → Prop) : Prop :=
 (p1 = none →
 Fin B h (Q none)) ∧ (¬ (p1 = none) →
 ∃ A4 : Addr, p1 = some A4 ∧
 LdSl B h A4 fun a6 n7 c8 h9 =>
 C_slices_Clone_s_draft_entry_int_draft_entry_int B a6 n7 c8 h9 (fun a11 n12 c13 h10 =>
 ∀ k14 : Nat, h10 k14 = none → B k14 = none → ∀ h15 : Heap, h15 = Heap.set h10 k14 (.vec 116 (plains [(Value.slice a11 n12 c13)]) 1) →
 Fin B h15 (Q (some ⟨k14, 0, none⟩))))
def S_cursor_Cursor_Copy (B : RO) (p1 : Option Addr) (h : Heap) (Q : Option Addr → Heap → Prop) : Prop :=
 (p1 = none →
 Fin B h (Q none)) ∧ (¬ (p1 = none) →
 ∃ A4 : Addr, p1 = some A4 ∧
 ∃ i6 : Int, ∃ i7 : Int, ∃ i8 : Int, CellsAt B h A4 0 [(Value.int .i64 (i6)), (Value.int .i64 (i7)), (Value.int .i64 (i8))] ∧
 ∀ k9 : Nat, h k9 = none → B k9 = none → ∀ h10 : Heap, h10 = Heap.set h k9 (.vec 119 (plains [(Value.int .i64 (0)), (Value.int .i64 (0)), (Value.int .i64 (0))]) 3) →
 ∃ h11 : Heap, StoresAt ⟨k9, 0, none⟩ h10 0 [(Value.int .i64 (i6)), (Value.int .i64 (i7)), (Value.int .i64 (i8))] h11 ∧
 Fin B h11 (Q (some ⟨k9, 0, none⟩)))
def S_sheet_Sheet_put_J1 (B : RO) (p1 : Option Addr) (p2 : Option Addr) (i3 : Int) (k7 : Nat) (h10 : Heap) (Q : Bool → Heap → Prop) : Prop :=
 C_sheet_Sheet_Get B p1 p2 (i3) h10 (fun b12 s13 b14 h11 =>
 ∀ k15 : Nat, h11 k15 = none → B k15 = none → ∀ h16 : Heap, h16 = Heap.set h11 k15 (.vec 41 (plains [(Value.bool false), (Value.string ByteArray.empty)]) 2) →
 ∃ h17 : Heap, StoresAt ⟨k15, 0, none⟩ h16 0 [(Value.bool b12), (Value.string s13)] h17 ∧
 ∃ b18 : Bool, ∃ s19 : ByteArray, CellsAt B h17 ⟨k15, 0, none⟩ 0 [(Value.bool b18), (Value.string s19)] ∧
 ∃ b20 : Bool, ∃ s21 : ByteArray, CellsAt B h17 ⟨k7, 0, none⟩ 0 [(Value.bool b20), (Value.string s21)] ∧
 (eqL [(Value.bool b18), (Value.string s19)] [(Value.bool b20), (Value.string s21)] = true →
 Fin B h17 (Q (true))) ∧ (¬ (eqL [(Value.bool b18), (Value.string s19)] [(Value.bool b20), (Value.string s21)] = true) →
 ∃ A24 : Addr, p1 = some A24 ∧
 ∃ p28 : Option Addr, cellH B h17 A24 = some (Value.pointer p28) ∧
 ∃ b31 : Bool, ∃ s32 : ByteArray, CellsAt B h17 ⟨k7, 0, none⟩ 0 [(Value.bool b31), (Value.string s32)] ∧
 C_draft_Draft_file_File_Put B p28 (i3) (b31) s32 h17 (fun b35 h34 =>
 cellH B h34 A24 = some (Value.pointer p28) ∧ CellsAt B h34 ⟨k7, 0, none⟩ 0 [(Value.bool b31), (Value.string s32)] ∧
 Fin B h34 (Q (b35)))))
def S_sheet_Sheet_put (B : RO) (p1 : Option Addr) (p2 : Option Addr) (i3 : Int) (b4 : Bool) (s5 : ByteArray) (h : Heap) (Q : Bool → Heap → Prop) : Prop :=
 ∀ k7 : Nat, h k7 = none → B k7 = none → ∀ h8 : Heap, h8 = Heap.set h k7 (.vec 41 (plains [(Value.bool b4), (Value.string s5)]) 2) →
 (p1 = none →
 Fin B h8 (Q (false))) ∧ (¬ (p1 = none) →
 ((i3 : Int) < (0) →
 Fin B h8 (Q (false))) ∧ (¬ ((i3 : Int) < (0)) →
 ((i3 : Int) ≥ (6) →
 Fin B h8 (Q (false))) ∧ (¬ ((i3 : Int) ≥ (6)) →
 Fin B h8 (fun h' => S_sheet_Sheet_put_J1 B p1 p2 i3 k7 h' Q))))
def S_file_Make (B : RO) (b1 : Bool) (s2 : ByteArray) (h : Heap) (Q : Bool → ByteArray → Heap → Prop) : Prop :=
 ∀ k5 : Nat, h k5 = none → B k5 = none → ∀ h6 : Heap, h6 = Heap.set h k5 (.vec 41 (plains [(Value.bool b1), (Value.string s2)]) 2) →
 ∀ k7 : Nat, h6 k7 = none → B k7 = none → ∀ h8 : Heap, h8 = Heap.set h6 k7 (.vec 41 (plains [(Value.bool false), (Value.string ByteArray.empty)]) 2) →
 ∃ s9 : ByteArray, cellH B h8 ⟨k5, 1, none⟩ = some (Value.string s9) ∧
 ∃ h10 : Heap, StoresAt ⟨k7, 0, none⟩ h8 0 [(Value.bool true), (Value.string s9)] h10 ∧
 ∃ b11 : Bool, ∃ s12 : ByteArray, CellsAt B h10 ⟨k7, 0, none⟩ 0 [(Value.bool b11), (Value.string s12)] ∧ Fin B h10 (Q (b11) s12)
def S_draft_Draft_file_File_Get (B : RO) (p1 : Option Addr) (i2 : Int) (h : Heap) (Q : Bool → ByteArray → Bool → Heap → Prop) : Prop :=
 ∀ k6 : Nat, h k6 = none → B k6 = none → ∀ h7 : Heap, h7 = Heap.set h k6 (.vec 41 (plains [(Value.bool false), (Value.string ByteArray.empty)]) 2) →
 ∀ k8 : Nat, h7 k8 = none → B k8 = none → ∀ h9 : Heap, h9 = Heap.set h7 k8 (.vec 41 (plains [(Value.bool false), (Value.string ByteArray.empty)]) 2) →
 (p1 = none →
 ∃ b11 : Bool, ∃ s12 : ByteArray, CellsAt B h9 ⟨k8, 0, none⟩ 0 [(Value.bool b11), (Value.string s12)] ∧
 ∃ h13 : Heap, StoresAt ⟨k6, 0, none⟩ h9 0 [(Value.bool b11), (Value.string s12)] h13 ∧
 ∃ b14 : Bool, ∃ s15 : ByteArray, CellsAt B h13 ⟨k6, 0, none⟩ 0 [(Value.bool b14), (Value.string s15)] ∧ Fin B h13 (Q (b14) s15 (false))) ∧ (¬ (p1 = none) →
 C_draft_Draft_file_File_find B p1 (i2) h9 (fun i17 b18 h16 =>
 (b18 = true →
 ∃ A24 : Addr, p1 = some A24 ∧
 LdSl B h16 A24 fun a26 n27 c28 h29 =>
 ∃ A30 : Addr, a26 = some A30 ∧ 0 ≤ (i17 : Int) ∧ (i17 : Int) < (n27 : Nat) ∧
 ∃ b32 : Bool, ∃ s33 : ByteArray, CellsAt B h29 (Addr.add (Addr.add A30 (Int.toNat (i17) * 3)) 1) 0 [(Value.bool b32), (Value.string s33)] ∧
 ∃ h34 : Heap, StoresAt ⟨k6, 0, none⟩ h29 0 [(Value.bool b32), (Value.string s33)] h34 ∧
 ∃ b35 : Bool, ∃ s36 : ByteArray, CellsAt B h34 ⟨k6, 0, none⟩ 0 [(Value.bool b35), (Value.string s36)] ∧ Fin B h34 (Q (b35) s36 (true))) ∧ (b18 = false →
 ∃ b19 : Bool, ∃ s20 : ByteArray, CellsAt B h16 ⟨k8, 0, none⟩ 0 [(Value.bool b19), (Value.string s20)] ∧
 ∃ h21 : Heap, StoresAt ⟨k6, 0, none⟩ h16 0 [(Value.bool b19), (Value.string s20)] h21 ∧
 ∃ b22 : Bool, ∃ s23 : ByteArray, CellsAt B h21 ⟨k6, 0, none⟩ 0 [(Value.bool b22), (Value.string s23)] ∧ Fin B h21 (Q (b22) s23 (false)))))
def S_draft_Draft_file_File_Copy (B : RO) (p1 : Option Addr) (h : Heap) (Q : Option Addr → Heap → Prop) : Prop :=
 (p1 = none →
 Fin B h (Q none)) ∧ (¬ (p1 = none) →
 ∃ A4 : Addr, p1 = some A4 ∧
 LdSl B h A4 fun a6 n7 c8 h9 =>
 C_slices_Clone_s_draft_entry_file_File_draft_entry_file_File B a6 n7 c8 h9 (fun a11 n12 c13 h10 =>
 ∀ k14 : Nat, h10 k14 = none → B k14 = none → ∀ h15 : Heap, h15 = Heap.set h10 k14 (.vec 160 (plains [(Value.slice a11 n12 c13)]) 1) →
 Fin B h15 (Q (some ⟨k14, 0, none⟩))))
def S_cell_Row_file_File_Get (B : RO) (p1 : Option Addr) (i2 : Int) (h : Heap) (Q : Bool → ByteArray → Int → Heap → Prop) : Prop :=
 ∀ k6 : Nat, h k6 = none → B k6 = none → ∀ h7 : Heap, h7 = Heap.set h k6 (.vec 41 (plains [(Value.bool false), (Value.string ByteArray.empty)]) 2) →
 C_cell_Row_file_File_is B p1 (i2) h7 (fun b9 h8 =>
 (b9 = true →
 ∃ A18 : Addr, p1 = some A18 ∧
 ∃ a22 : Option Addr, ∃ n23 : Nat, ∃ c24 : Nat, cellH B h8 A18 = some (Value.slice a22 n23 c24) ∧
 ∃ A27 : Addr, a22 = some A27 ∧ 0 ≤ (i2 : Int) ∧ (i2 : Int) < (n23 : Nat) ∧
 ∃ b33 : Bool, ∃ s34 : ByteArray, CellsAt B h8 (Addr.add A27 (Int.toNat (i2) * 3)) 0 [(Value.bool b33), (Value.string s34)] ∧
 ∃ A37 : Addr, p1 = some A37 ∧
 ∃ a41 : Option Addr, ∃ n42 : Nat, ∃ c43 : Nat, cellH B h8 A37 = some (Value.slice a41 n42 c43) ∧
 ∃ A46 : Addr, a41 = some A46 ∧ 0 ≤ (i2 : Int) ∧ (i2 : Int) < (n42 : Nat) ∧
 ∃ i52 : Int, cellH B h8 (Addr.add (Addr.add A46 (Int.toNat (i2) * 3)) 2) = some (Value.int .i64 (i52)) ∧
 ∃ h54 : Heap, StoresAt ⟨k6, 0, none⟩ h8 0 [(Value.bool b33), (Value.string s34)] h54 ∧
 cellH B h54 A18 = some (Value.slice a22 n23 c24) ∧ CellsAt B h54 (Addr.add A27 (Int.toNat (i2) * 3)) 0 [(Value.bool b33), (Value.string s34)] ∧ cellH B h54 A37 = some (Value.slice a41 n42 c43) ∧ cellH B h54 (Addr.add (Addr.add A46 (Int.toNat (i2) * 3)) 2) = some (Value.int .i64 (i52)) ∧
 ∃ b59 : Bool, ∃ s60 : ByteArray, CellsAt B h54 ⟨k6, 0, none⟩ 0 [(Value.bool b59), (Value.string s60)] ∧ Fin B h54 (Q (b59) s60 (i52))) ∧ (b9 = false →
 ∀ k10 : Nat, h8 k10 = none → B k10 = none → ∀ h11 : Heap, h11 = Heap.set h8 k10 (.vec 41 (plains [(Value.bool false), (Value.string ByteArray.empty)]) 2) →
 ∃ b12 : Bool, ∃ s13 : ByteArray, CellsAt B h11 ⟨k10, 0, none⟩ 0 [(Value.bool b12), (Value.string s13)] ∧
 ∃ h14 : Heap, StoresAt ⟨k6, 0, none⟩ h11 0 [(Value.bool b12), (Value.string s13)] h14 ∧
 ∃ b15 : Bool, ∃ s16 : ByteArray, CellsAt B h14 ⟨k6, 0, none⟩ 0 [(Value.bool b15), (Value.string s16)] ∧ Fin B h14 (Q (b15) s16 (0))))
def S_slices_Delete_s_mark_Mark_mark_Mark (B : RO) (a1 : Option Addr) (n2 : Nat) (c3 : Nat) (i4 : Int) (i5 : Int) (h : Heap) (Q : Option Addr → Nat → Nat → Heap → Prop) : Prop :=
 0 ≤ (i4 : Int) ∧ (i4 : Int) ≤ (i5 : Int) ∧ (i5 : Int) ≤ ((n2 : Nat) : Int) ∧ ((n2 : Nat) : Int) ≤ (c3 : Nat) ∧
 ((i4 : Int) = i5 →
 Fin B h (Q a1 n2 c3)) ∧ (¬ ((i4 : Int) = i5) →
 0 ≤ (0 : Int) ∧ (0 : Int) ≤ (i4 : Int) ∧ (i4 : Int) ≤ (c3 : Nat) ∧
 0 ≤ (i5 : Int) ∧ (i5 : Int) ≤ ((n2 : Nat) : Int) ∧ ((n2 : Nat) : Int) ≤ (c3 : Nat) ∧
 semH PG B (Builtin.append_ #[101, 101] 101 #[(Value.slice (if c3 = Int.toNat (0) then a1 else Option.map (·.add (Int.toNat (0) * 12)) a1) (Int.toNat (i4) - Int.toNat (0)) (c3 - Int.toNat (0))), (Value.slice (if c3 = Int.toNat (i5) then a1 else Option.map (·.add (Int.toNat (i5) * 12)) a1) (Int.toNat ((n2 : Nat)) - Int.toNat (i5)) (c3 - Int.toNat (i5)))]) h (fun v h22 => ∃ a23 : Option Addr, ∃ n24 : Nat, ∃ c25 : Nat, v = (Value.slice a23 n24 c25) ∧
 0 ≤ ((n24 : Nat) : Int) ∧ ((n24 : Nat) : Int) ≤ ((n2 : Nat) : Int) ∧ ((n2 : Nat) : Int) ≤ (c25 : Nat) ∧
 semH PG B (Builtin.clear_ #[101] 0 #[(Value.slice (if c25 = Int.toNat ((n24 : Nat)) then a23 else Option.map (·.add (Int.toNat ((n24 : Nat)) * 12)) a23) (Int.toNat ((n2 : Nat)) - Int.toNat ((n24 : Nat))) (c25 - Int.toNat ((n24 : Nat))))]) h22 (fun v h26 => v = (Value.tuple #[]) ∧
 Fin B h26 (Q a23 n24 c25))))
def S_slices_BinarySearchFunc_s_draft_entry_int_draft_entry_int_int_J1 (B : RO) (a1 : Option Addr) (n2 : Nat) (c3 : Nat) (i4 : Int) (v5 : Value) (i9 : Int) (h10 : Heap) (Q : Int → Bool → Heap → Prop) : Prop :=
 ((i9 : Int) < ((n2 : Nat)) →
 ∃ A12 : Addr, a1 = some A12 ∧ 0 ≤ (i9 : Int) ∧ (i9 : Int) < (n2 : Nat) ∧
 ∃ i14 : Int, ∃ i15 : Int, CellsAt B h10 (Addr.add A12 (Int.toNat (i9) * 2)) 0 [(Value.int .i64 (i14)), (Value.int .i64 (i15))] ∧
 CallV PG B v5 [(Value.agg #[(Value.int .i64 (i14)), (Value.int .i64 (i15))]), (Value.int .i64 (i4))] h10 (fun v h16 => ∃ i17 : Int, v = (Value.int .i64 (i17)) ∧
 Fin B h16 (Q (i9) (((i17 : Int) == (0)))))) ∧ (¬ ((i9 : Int) < ((n2 : Nat))) →
 Fin B h10 (Q (i9) (false)))
def S_slices_BinarySearchFunc_s_draft_entry_int_draft_entry_int_int (B : RO) (a1 : Option Addr) (n2 : Nat) (c3 : Nat) (i4 : Int) (v5 : Value) (h : Heap) (Q : Int → Bool → Heap → Prop) : Prop :=
 ∃ (J24 : Int → Int → Nat → Heap → Prop) (m22 : Nat), Fin B h (J24 (0) ((n2 : Nat)) m22) ∧
 ∀ (i18 : Int) (i19 : Int) (m21 : Nat) (h20 : Heap), J24 i18 i19 m21 h20 →
 ((i18 : Int) < (i19) →
 ¬ ((1 : Int) < 0) ∧
 ∃ A26 : Addr, a1 = some A26 ∧ 0 ≤ (IntKind.wrap .i64 (Int.fdiv (IntKind.wrap .u64 (IntKind.wrap .i64 ((i18) + (i19)))) (2 ^ (min (Int.toNat (1)) (IntKind.bits .u64)))) : Int) ∧ (IntKind.wrap .i64 (Int.fdiv (IntKind.wrap .u64 (IntKind.wrap .i64 ((i18) + (i19)))) (2 ^ (min (Int.toNat (1)) (IntKind.bits .u64)))) : Int) < (n2 : Nat) ∧
 ∃ i28 : Int, ∃ i29 : Int, CellsAt B h20 (Addr.add A26 (Int.toNat (IntKind.wrap .i64 (Int.fdiv (IntKind.wrap .u64 (IntKind.wrap .i64 ((i18) + (i19)))) (2 ^ (min (Int.toNat (1)) (IntKind.bits .u64))))) * 2)) 0 [(Value.int .i64 (i28)), (Value.int .i64 (i29))] ∧
 CallV PG B v5 [(Value.agg #[(Value.int .i64 (i28)), (Value.int .i64 (i29))]), (Value.int .i64 (i4))] h20 (fun v h30 => ∃ i31 : Int, v = (Value.int .i64 (i31)) ∧
 ((i31 : Int) < (0) →
 Fin B h30 (fun h' => ∃ m', m' < m21 ∧ J24 (IntKind.wrap .i64 ((IntKind.wrap .i64 (Int.fdiv (IntKind.wrap .u64 (IntKind.wrap .i64 ((i18) + (i19)))) (2 ^ (min (Int.toNat (1)) (IntKind.bits .u64))))) + (1))) (i19) m' h')) ∧ (¬ ((i31 : Int) < (0)) →
 Fin B h30 (fun h' => ∃ m', m' < m21 ∧ J24 (i18) (IntKind.wrap .i64 (Int.fdiv (IntKind.wrap .u64 (IntKind.wrap .i64 ((i18) + (i19)))) (2 ^ (min (Int.toNat (1)) (IntKind.bits .u64))))) m' h')))) ∧ (¬ ((i18 : Int) < (i19)) →
 Fin B h20 (fun h' => S_slices_BinarySearchFunc_s_draft_entry_int_draft_entry_int_int_J1 B a1 n2 c3 i4 v5 (i18) h' Q))
def S_draft_by_int (B : RO) (i1 : Int) (i2 : Int) (i3 : Int) (h : Heap) (Q : Int → Heap → Prop) : Prop :=
 ∀ k5 : Nat, h k5 = none → B k5 = none → ∀ h6 : Heap, h6 = Heap.set h k5 (.vec 121 (plains [(Value.int .i64 (i1)), (Value.int .i64 (i2))]) 2) →
 ∃ i7 : Int, cellH B h6 ⟨k5, 0, none⟩ = some (Value.int .i64 (i7)) ∧
 ((i7 : Int) < (i3) →
 Fin B h6 (Q ((-1)))) ∧ (¬ ((i7 : Int) < (i3)) →
 ∃ i9 : Int, cellH B h6 ⟨k5, 0, none⟩ = some (Value.int .i64 (i9)) ∧
 ((i9 : Int) > (i3) →
 Fin B h6 (Q (1))) ∧ (¬ ((i9 : Int) > (i3)) →
 Fin B h6 (Q (0))))
def S_slices_rotateRight_draft_entry_int (B : RO) (a1 : Option Addr) (n2 : Nat) (c3 : Nat) (i4 : Int) (h : Heap) (Q : Heap → Prop) : Prop :=
 C_slices_rotateLeft_draft_entry_int B a1 n2 c3 (IntKind.wrap .i64 (((n2 : Nat)) - (i4))) h (fun h5 =>
 Fin B h5 (Q))
def S_slices_Clone_s_draft_entry_int_draft_entry_int (B : RO) (a1 : Option Addr) (n2 : Nat) (c3 : Nat) (h : Heap) (Q : Option Addr → Nat → Nat → Heap → Prop) : Prop :=
 (a1 = none →
 Fin B h (Q none 0 0)) ∧ (¬ (a1 = none) →
 ∀ k8 : Nat, h k8 = none → B k8 = none → ∀ h9 : Heap, h9 = Heap.set h k8 (.vec 121 [] 0) →
 semH PG B (Builtin.append_ #[114, 114] 114 #[(Value.slice (some ⟨k8, 0, none⟩) 0 0), (Value.slice a1 n2 c3)]) h9 (fun v h10 => ∃ a11 : Option Addr, ∃ n12 : Nat, ∃ c13 : Nat, v = (Value.slice a11 n12 c13) ∧
 Fin B h10 (Q a11 n12 c13)))
def S_draft_Draft_file_File_Put (B : RO) (p1 : Option Addr) (i2 : Int) (b3 : Bool) (s4 : ByteArray) (h : Heap) (Q : Bool → Heap → Prop) : Prop :=
 ∀ k6 : Nat, h k6 = none → B k6 = none → ∀ h7 : Heap, h7 = Heap.set h k6 (.vec 41 (plains [(Value.bool b3), (Value.string s4)]) 2) →
 (p1 = none →
 Fin B h7 (Q (false))) ∧ (¬ (p1 = none) →
 C_draft_Draft_file_File_find B p1 (i2) h7 (fun i10 b11 h9 =>
 (b11 = true →
 ∃ A41 : Addr, p1 = some A41 ∧
 ∃ a43 : Option Addr, ∃ n44 : Nat, ∃ c45 : Nat, cellH B h9 A41 = some (Value.slice a43 n44 c45) ∧
 ∃ b46 : Bool, ∃ s47 : ByteArray, CellsAt B h9 ⟨k6, 0, none⟩ 0 [(Value.bool b46), (Value.string s47)] ∧
 ∃ A48 : Addr, a43 = some A48 ∧ 0 ≤ (i10 : Int) ∧ (i10 : Int) < (n44 : Nat) ∧
 ∃ h50 : Heap, StoresAt (Addr.add (Addr.add A48 (Int.toNat (i10) * 3)) 1) h9 0 [(Value.bool b46), (Value.string s47)] h50 ∧
 Fin B h50 (Q (true))) ∧ (b11 = false →
 ∃ A14 : Addr, p1 = some A14 ∧
 ∃ a18 : Option Addr, ∃ n19 : Nat, ∃ c20 : Nat, cellH B h9 A14 = some (Value.slice a18 n19 c20) ∧
 ∃ b24 : Bool, ∃ s25 : ByteArray, CellsAt B h9 ⟨k6, 0, none⟩ 0 [(Value.bool b24), (Value.string s25)] ∧
 ∀ k28 : Nat, h9 k28 = none → B k28 = none → ∀ h29 : Heap, h29 = Heap.set h9 k28 (.vec 162 (plains [(Value.int .i64 (i2)), (Value.bool b24), (Value.string s25)]) 3) →
 cellH B h29 A14 = some (Value.slice a18 n19 c20) ∧ CellsAt B h29 ⟨k6, 0, none⟩ 0 [(Value.bool b24), (Value.string s25)] ∧
 C_slices_Insert_s_draft_entry_file_File_draft_entry_file_File B a18 n19 c20 (i10) (some ⟨k28, 0, none⟩) 1 1 h29 (fun a33 n34 c35 h32 =>
 cellH B h32 A14 = some (Value.slice a18 n19 c20) ∧ CellsAt B h32 ⟨k6, 0, none⟩ 0 [(Value.bool b24), (Value.string s25)] ∧
 ∃ A38 : Addr, p1 = some A38 ∧
 ∃ h40 : Heap, storeH h32 A38 (Value.slice a33 n34 c35) = some h40 ∧
 Fin B h40 (Q (true))))))
def S_draft_Draft_file_File_find (B : RO) (p1 : Option Addr) (i2 : Int) (h : Heap) (Q : Int → Bool → Heap → Prop) : Prop :=
 ∃ A5 : Addr, p1 = some A5 ∧
 LdSl B h A5 fun a7 n8 c9 h10 =>
 C_slices_BinarySearchFunc_s_draft_entry_file_File_draft_entry_file_File_int B a7 n8 c9 (i2) (Value.func (.func 127) #[] #[]) h10 (fun i12 b13 h11 =>
 Fin B h11 (Q (i12) (b13)))
def S_slices_Clone_s_draft_entry_file_File_draft_entry_file_File (B : RO) (a1 : Option Addr) (n2 : Nat) (c3 : Nat) (h : Heap) (Q : Option Addr → Nat → Nat → Heap → Prop) : Prop :=
 (a1 = none →
 Fin B h (Q none 0 0)) ∧ (¬ (a1 = none) →
 ∀ k8 : Nat, h k8 = none → B k8 = none → ∀ h9 : Heap, h9 = Heap.set h k8 (.vec 162 [] 0) →
 semH PG B (Builtin.append_ #[158, 158] 158 #[(Value.slice (some ⟨k8, 0, none⟩) 0 0), (Value.slice a1 n2 c3)]) h9 (fun v h10 => ∃ a11 : Option Addr, ∃ n12 : Nat, ∃ c13 : Nat, v = (Value.slice a11 n12 c13) ∧
 Fin B h10 (Q a11 n12 c13)))
def S_cell_Row_file_File_is (B : RO) (p1 : Option Addr) (i2 : Int) (h : Heap) (Q : Bool → Heap → Prop) : Prop :=
 (p1 = none →
 Fin B h (Q (false))) ∧ (¬ (p1 = none) →
 ((i2 : Int) ≥ (0) →
 ∃ A6 : Addr, p1 = some A6 ∧
 LdSl B h A6 fun a8 n9 c10 h11 =>
 Fin B h11 (Q ((decide ((i2 : Int) < ((n9 : Nat))))))) ∧ (¬ ((i2 : Int) ≥ (0)) →
 Fin B h (Q (false))))
def S_slices_rotateLeft_draft_entry_int (B : RO) (a1 : Option Addr) (n2 : Nat) (c3 : Nat) (i4 : Int) (h : Heap) (Q : Heap → Prop) : Prop :=
 0 ≤ (0 : Int) ∧ (0 : Int) ≤ (i4 : Int) ∧ (i4 : Int) ≤ (c3 : Nat) ∧
 C_slices_Reverse_s_draft_entry_int_draft_entry_int B (if c3 = Int.toNat (0) then a1 else Option.map (·.add (Int.toNat (0) * 2)) a1) (Int.toNat (i4) - Int.toNat (0)) (c3 - Int.toNat (0)) h (fun h5 =>
 0 ≤ (i4 : Int) ∧ (i4 : Int) ≤ ((n2 : Nat) : Int) ∧ ((n2 : Nat) : Int) ≤ (c3 : Nat) ∧
 C_slices_Reverse_s_draft_entry_int_draft_entry_int B (if c3 = Int.toNat (i4) then a1 else Option.map (·.add (Int.toNat (i4) * 2)) a1) (Int.toNat ((n2 : Nat)) - Int.toNat (i4)) (c3 - Int.toNat (i4)) h5 (fun h6 =>
 C_slices_Reverse_s_draft_entry_int_draft_entry_int B a1 n2 c3 h6 (fun h7 =>
 Fin B h7 (Q))))
def S_slices_Insert_s_draft_entry_file_File_draft_entry_file_File (B : RO) (a1 : Option Addr) (n2 : Nat) (c3 : Nat) (i4 : Int) (a5 : Option Addr) (n6 : Nat) (c7 : Nat) (h : Heap) (Q : Option Addr → Nat → Nat → Heap → Prop) : Prop :=
 0 ≤ (i4 : Int) ∧ (i4 : Int) ≤ ((n2 : Nat) : Int) ∧ ((n2 : Nat) : Int) ≤ (c3 : Nat) ∧
 (((n6 : Nat) : Int) = 0 →
 Fin B h (Q a1 n2 c3)) ∧ (¬ (((n6 : Nat) : Int) = 0) →
 ((i4 : Int) = (n2 : Nat) →
 semH PG B (Builtin.append_ #[158, 158] 158 #[(Value.slice a1 n2 c3), (Value.slice a5 n6 c7)]) h (fun v h13 => ∃ a14 : Option Addr, ∃ n15 : Nat, ∃ c16 : Nat, v = (Value.slice a14 n15 c16) ∧
 Fin B h13 (Q a14 n15 c16))) ∧ (¬ ((i4 : Int) = (n2 : Nat)) →
 ((IntKind.wrap .i64 (((n2 : Nat)) + ((n6 : Nat))) : Int) > ((c3 : Nat)) →
 0 ≤ (0 : Int) ∧ (0 : Int) ≤ (i4 : Int) ∧ (i4 : Int) ≤ (c3 : Nat) ∧
 semH PG B (Builtin.append_ #[158, 3] 158 #[(Value.slice (if c3 = Int.toNat (0) then a1 else Option.map (·.add (Int.toNat (0) * 3)) a1) (Int.toNat (i4) - Int.toNat (0)) (c3 - Int.toNat (0))), (Value.int .i64 (IntKind.wrap .i64 ((IntKind.wrap .i64 (((n2 : Nat)) + ((n6 : Nat)))) - (i4))))]) h (fun v h18 => ∃ a19 : Option Addr, ∃ n20 : Nat, ∃ c21 : Nat, v = (Value.slice a19 n20 c21) ∧
 0 ≤ (i4 : Int) ∧ (i4 : Int) ≤ ((n20 : Nat) : Int) ∧ ((n20 : Nat) : Int) ≤ (c21 : Nat) ∧
 semH PG B (Builtin.copy_ #[158, 158] 3 #[(Value.slice (if c21 = Int.toNat (i4) then a19 else Option.map (·.add (Int.toNat (i4) * 3)) a19) (Int.toNat ((n20 : Nat)) - Int.toNat (i4)) (c21 - Int.toNat (i4))), (Value.slice a5 n6 c7)]) h18 (fun v h22 => ∃ i23 : Int, v = (Value.int .i64 (i23)) ∧
 0 ≤ (IntKind.wrap .i64 ((i4) + ((n6 : Nat))) : Int) ∧ (IntKind.wrap .i64 ((i4) + ((n6 : Nat))) : Int) ≤ ((n20 : Nat) : Int) ∧ ((n20 : Nat) : Int) ≤ (c21 : Nat) ∧
 0 ≤ (i4 : Int) ∧ (i4 : Int) ≤ ((n2 : Nat) : Int) ∧ ((n2 : Nat) : Int) ≤ (c3 : Nat) ∧
 semH PG B (Builtin.copy_ #[158, 158] 3 #[(Value.slice (if c21 = Int.toNat (IntKind.wrap .i64 ((i4) + ((n6 : Nat)))) then a19 else Option.map (·.add (Int.toNat (IntKind.wrap .i64 ((i4) + ((n6 : Nat)))) * 3)) a19) (Int.toNat ((n20 : Nat)) - Int.toNat (IntKind.wrap .i64 ((i4) + ((n6 : Nat))))) (c21 - Int.toNat (IntKind.wrap .i64 ((i4) + ((n6 : Nat)))))), (Value.slice (if c3 = Int.toNat (i4) then a1 else Option.map (·.add (Int.toNat (i4) * 3)) a1) (Int.toNat ((n2 : Nat)) - Int.toNat (i4)) (c3 - Int.toNat (i4)))]) h22 (fun v h24 => ∃ i25 : Int, v = (Value.int .i64 (i25)) ∧
 Fin B h24 (Q a19 n20 c21))))) ∧ (¬ ((IntKind.wrap .i64 (((n2 : Nat)) + ((n6 : Nat))) : Int) > ((c3 : Nat))) →
 0 ≤ (0 : Int) ∧ (0 : Int) ≤ (IntKind.wrap .i64 (((n2 : Nat)) + ((n6 : Nat))) : Int) ∧ (IntKind.wrap .i64 (((n2 : Nat)) + ((n6 : Nat))) : Int) ≤ (c3 : Nat) ∧
 0 ≤ (IntKind.wrap .i64 ((i4) + ((n6 : Nat))) : Int) ∧ (IntKind.wrap .i64 ((i4) + ((n6 : Nat))) : Int) ≤ (((Int.toNat (IntKind.wrap .i64 (((n2 : Nat)) + ((n6 : Nat)))) - Int.toNat (0)) : Nat) : Int) ∧ (((Int.toNat (IntKind.wrap .i64 (((n2 : Nat)) + ((n6 : Nat)))) - Int.toNat (0)) : Nat) : Int) ≤ ((c3 - Int.toNat (0)) : Nat) ∧
 semH PG B (Extern.SlicesOverlaps.overlaps #[158, 158] #[4] #[(Value.slice a5 n6 c7), (Value.slice (if (c3 - Int.toNat (0)) = Int.toNat (IntKind.wrap .i64 ((i4) + ((n6 : Nat)))) then (if c3 = Int.toNat (0) then a1 else Option.map (·.add (Int.toNat (0) * 3)) a1) else Option.map (·.add (Int.toNat (IntKind.wrap .i64 ((i4) + ((n6 : Nat)))) * 3)) (if c3 = Int.toNat (0) then a1 else Option.map (·.add (Int.toNat (0) * 3)) a1)) (Int.toNat (((Int.toNat (IntKind.wrap .i64 (((n2 : Nat)) + ((n6 : Nat)))) - Int.toNat (0)) : Nat)) - Int.toNat (IntKind.wrap .i64 ((i4) + ((n6 : Nat))))) ((c3 - Int.toNat (0)) - Int.toNat (IntKind.wrap .i64 ((i4) + ((n6 : Nat))))))]) h (fun v h26 => ∃ b27 : Bool, v = (Value.bool b27) ∧
 (b27 = true →
 0 ≤ ((n2 : Nat) : Int) ∧ ((n2 : Nat) : Int) ≤ (((Int.toNat (IntKind.wrap .i64 (((n2 : Nat)) + ((n6 : Nat)))) - Int.toNat (0)) : Nat) : Int) ∧ (((Int.toNat (IntKind.wrap .i64 (((n2 : Nat)) + ((n6 : Nat)))) - Int.toNat (0)) : Nat) : Int) ≤ ((c3 - Int.toNat (0)) : Nat) ∧
 semH PG B (Builtin.copy_ #[158, 158] 3 #[(Value.slice (if (c3 - Int.toNat (0)) = Int.toNat ((n2 : Nat)) then (if c3 = Int.toNat (0) then a1 else Option.map (·.add (Int.toNat (0) * 3)) a1) else Option.map (·.add (Int.toNat ((n2 : Nat)) * 3)) (if c3 = Int.toNat (0) then a1 else Option.map (·.add (Int.toNat (0) * 3)) a1)) (Int.toNat (((Int.toNat (IntKind.wrap .i64 (((n2 : Nat)) + ((n6 : Nat)))) - Int.toNat (0)) : Nat)) - Int.toNat ((n2 : Nat))) ((c3 - Int.toNat (0)) - Int.toNat ((n2 : Nat)))), (Value.slice a5 n6 c7)]) h26 (fun v h32 => ∃ i33 : Int, v = (Value.int .i64 (i33)) ∧
 0 ≤ (i4 : Int) ∧ (i4 : Int) ≤ (((Int.toNat (IntKind.wrap .i64 (((n2 : Nat)) + ((n6 : Nat)))) - Int.toNat (0)) : Nat) : Int) ∧ (((Int.toNat (IntKind.wrap .i64 (((n2 : Nat)) + ((n6 : Nat)))) - Int.toNat (0)) : Nat) : Int) ≤ ((c3 - Int.toNat (0)) : Nat) ∧
 C_slices_rotateRight_draft_entry_file_File B (if (c3 - Int.toNat (0)) = Int.toNat (i4) then (if c3 = Int.toNat (0) then a1 else Option.map (·.add (Int.toNat (0) * 3)) a1) else Option.map (·.add (Int.toNat (i4) * 3)) (if c3 = Int.toNat (0) then a1 else Option.map (·.add (Int.toNat (0) * 3)) a1)) (Int.toNat (((Int.toNat (IntKind.wrap .i64 (((n2 : Nat)) + ((n6 : Nat)))) - Int.toNat (0)) : Nat)) - Int.toNat (i4)) ((c3 - Int.toNat (0)) - Int.toNat (i4)) ((n6 : Nat)) h32 (fun h34 =>
 Fin B h34 (Q (if c3 = Int.toNat (0) then a1 else Option.map (·.add (Int.toNat (0) * 3)) a1) (Int.toNat (IntKind.wrap .i64 (((n2 : Nat)) + ((n6 : Nat)))) - Int.toNat (0)) (c3 - Int.toNat (0)))))) ∧ (b27 = false →
 0 ≤ (IntKind.wrap .i64 ((i4) + ((n6 : Nat))) : Int) ∧ (IntKind.wrap .i64 ((i4) + ((n6 : Nat))) : Int) ≤ (((Int.toNat (IntKind.wrap .i64 (((n2 : Nat)) + ((n6 : Nat)))) - Int.toNat (0)) : Nat) : Int) ∧ (((Int.toNat (IntKind.wrap .i64 (((n2 : Nat)) + ((n6 : Nat)))) - Int.toNat (0)) : Nat) : Int) ≤ ((c3 - Int.toNat (0)) : Nat) ∧
 0 ≤ (i4 : Int) ∧ (i4 : Int) ≤ (((Int.toNat (IntKind.wrap .i64 (((n2 : Nat)) + ((n6 : Nat)))) - Int.toNat (0)) : Nat) : Int) ∧ (((Int.toNat (IntKind.wrap .i64 (((n2 : Nat)) + ((n6 : Nat)))) - Int.toNat (0)) : Nat) : Int) ≤ ((c3 - Int.toNat (0)) : Nat) ∧
 semH PG B (Builtin.copy_ #[158, 158] 3 #[(Value.slice (if (c3 - Int.toNat (0)) = Int.toNat (IntKind.wrap .i64 ((i4) + ((n6 : Nat)))) then (if c3 = Int.toNat (0) then a1 else Option.map (·.add (Int.toNat (0) * 3)) a1) else Option.map (·.add (Int.toNat (IntKind.wrap .i64 ((i4) + ((n6 : Nat)))) * 3)) (if c3 = Int.toNat (0) then a1 else Option.map (·.add (Int.toNat (0) * 3)) a1)) (Int.toNat (((Int.toNat (IntKind.wrap .i64 (((n2 : Nat)) + ((n6 : Nat)))) - Int.toNat (0)) : Nat)) - Int.toNat (IntKind.wrap .i64 ((i4) + ((n6 : Nat))))) ((c3 - Int.toNat (0)) - Int.toNat (IntKind.wrap .i64 ((i4) + ((n6 : Nat)))))), (Value.slice (if (c3 - Int.toNat (0)) = Int.toNat (i4) then (if c3 = Int.toNat (0) then a1 else Option.map (·.add (Int.toNat (0) * 3)) a1) else Option.map (·.add (Int.toNat (i4) * 3)) (if c3 = Int.toNat (0) then a1 else Option.map (·.add (Int.toNat (0) * 3)) a1)) (Int.toNat (((Int.toNat (IntKind.wrap .i64 (((n2 : Nat)) + ((n6 : Nat)))) - Int.toNat (0)) : Nat)) - Int.toNat (i4)) ((c3 - Int.toNat (0)) - Int.toNat (i4)))]) h26 (fun v h28 => ∃ i29 : Int, v = (Value.int .i64 (i29)) ∧
 0 ≤ (i4 : Int) ∧ (i4 : Int) ≤ (((Int.toNat (IntKind.wrap .i64 (((n2 : Nat)) + ((n6 : Nat)))) - Int.toNat (0)) : Nat) : Int) ∧ (((Int.toNat (IntKind.wrap .i64 (((n2 : Nat)) + ((n6 : Nat)))) - Int.toNat (0)) : Nat) : Int) ≤ ((c3 - Int.toNat (0)) : Nat) ∧
 semH PG B (Builtin.copy_ #[158, 158] 3 #[(Value.slice (if (c3 - Int.toNat (0)) = Int.toNat (i4) then (if c3 = Int.toNat (0) then a1 else Option.map (·.add (Int.toNat (0) * 3)) a1) else Option.map (·.add (Int.toNat (i4) * 3)) (if c3 = Int.toNat (0) then a1 else Option.map (·.add (Int.toNat (0) * 3)) a1)) (Int.toNat (((Int.toNat (IntKind.wrap .i64 (((n2 : Nat)) + ((n6 : Nat)))) - Int.toNat (0)) : Nat)) - Int.toNat (i4)) ((c3 - Int.toNat (0)) - Int.toNat (i4))), (Value.slice a5 n6 c7)]) h28 (fun v h30 => ∃ i31 : Int, v = (Value.int .i64 (i31)) ∧
 Fin B h30 (Q (if c3 = Int.toNat (0) then a1 else Option.map (·.add (Int.toNat (0) * 3)) a1) (Int.toNat (IntKind.wrap .i64 (((n2 : Nat)) + ((n6 : Nat)))) - Int.toNat (0)) (c3 - Int.toNat (0))))))))))
def S_slices_BinarySearchFunc_s_draft_entry_file_File_draft_entry_file_File_int_J1 (B : RO) (a1 : Option Addr) (n2 : Nat) (c3 : Nat) (i4 : Int) (v5 : Value) (i9 : Int) (h10 : Heap) (Q : Int → Bool → Heap → Prop) : Prop :=
 ((i9 : Int) < ((n2 : Nat)) →
 ∃ A12 : Addr, a1 = some A12 ∧ 0 ≤ (i9 : Int) ∧ (i9 : Int) < (n2 : Nat) ∧
 ∃ i14 : Int, ∃ b15 : Bool, ∃ s16 : ByteArray, CellsAt B h10 (Addr.add A12 (Int.toNat (i9) * 3)) 0 [(Value.int .i64 (i14)), (Value.bool b15), (Value.string s16)] ∧
 CallV PG B v5 [(Value.agg #[(Value.int .i64 (i14)), (Value.bool b15), (Value.string s16)]), (Value.int .i64 (i4))] h10 (fun v h17 => ∃ i18 : Int, v = (Value.int .i64 (i18)) ∧
 Fin B h17 (Q (i9) (((i18 : Int) == (0)))))) ∧ (¬ ((i9 : Int) < ((n2 : Nat))) →
 Fin B h10 (Q (i9) (false)))
def S_slices_BinarySearchFunc_s_draft_entry_file_File_draft_entry_file_File_int (B : RO) (a1 : Option Addr) (n2 : Nat) (c3 : Nat) (i4 : Int) (v5 : Value) (h : Heap) (Q : Int → Bool → Heap → Prop) : Prop :=
 ∃ (J25 : Int → Int → Nat → Heap → Prop) (m23 : Nat), Fin B h (J25 (0) ((n2 : Nat)) m23) ∧
 ∀ (i19 : Int) (i20 : Int) (m22 : Nat) (h21 : Heap), J25 i19 i20 m22 h21 →
 ((i19 : Int) < (i20) →
 ¬ ((1 : Int) < 0) ∧
 ∃ A27 : Addr, a1 = some A27 ∧ 0 ≤ (IntKind.wrap .i64 (Int.fdiv (IntKind.wrap .u64 (IntKind.wrap .i64 ((i19) + (i20)))) (2 ^ (min (Int.toNat (1)) (IntKind.bits .u64)))) : Int) ∧ (IntKind.wrap .i64 (Int.fdiv (IntKind.wrap .u64 (IntKind.wrap .i64 ((i19) + (i20)))) (2 ^ (min (Int.toNat (1)) (IntKind.bits .u64)))) : Int) < (n2 : Nat) ∧
 ∃ i29 : Int, ∃ b30 : Bool, ∃ s31 : ByteArray, CellsAt B h21 (Addr.add A27 (Int.toNat (IntKind.wrap .i64 (Int.fdiv (IntKind.wrap .u64 (IntKind.wrap .i64 ((i19) + (i20)))) (2 ^ (min (Int.toNat (1)) (IntKind.bits .u64))))) * 3)) 0 [(Value.int .i64 (i29)), (Value.bool b30), (Value.string s31)] ∧
 CallV PG B v5 [(Value.agg #[(Value.int .i64 (i29)), (Value.bool b30), (Value.string s31)]), (Value.int .i64 (i4))] h21 (fun v h32 => ∃ i33 : Int, v = (Value.int .i64 (i33)) ∧
 ((i33 : Int) < (0) →
 Fin B h32 (fun h' => ∃ m', m' < m22 ∧ J25 (IntKind.wrap .i64 ((IntKind.wrap .i64 (Int.fdiv (IntKind.wrap .u64 (IntKind.wrap .i64 ((i19) + (i20)))) (2 ^ (min (Int.toNat (1)) (IntKind.bits .u64))))) + (1))) (i20) m' h')) ∧ (¬ ((i33 : Int) < (0)) →
 Fin B h32 (fun h' => ∃ m', m' < m22 ∧ J25 (i19) (IntKind.wrap .i64 (Int.fdiv (IntKind.wrap .u64 (IntKind.wrap .i64 ((i19) + (i20)))) (2 ^ (min (Int.toNat (1)) (IntKind.bits .u64))))) m' h')))) ∧ (¬ ((i19 : Int) < (i20)) →
 Fin B h21 (fun h' => S_slices_BinarySearchFunc_s_draft_entry_file_File_draft_entry_file_File_int_J1 B a1 n2 c3 i4 v5 (i19) h' Q))
def S_draft_by_file_File (B : RO) (i1 : Int) (b2 : Bool) (s3 : ByteArray) (i4 : Int) (h : Heap) (Q : Int → Heap → Prop) : Prop :=
 ∀ k6 : Nat, h k6 = none → B k6 = none → ∀ h7 : Heap, h7 = Heap.set h k6 (.vec 162 (plains [(Value.int .i64 (i1)), (Value.bool b2), (Value.string s3)]) 3) →
 ∃ i8 : Int, cellH B h7 ⟨k6, 0, none⟩ = some (Value.int .i64 (i8)) ∧
 ((i8 : Int) < (i4) →
 Fin B h7 (Q ((-1)))) ∧ (¬ ((i8 : Int) < (i4)) →
 ∃ i10 : Int, cellH B h7 ⟨k6, 0, none⟩ = some (Value.int .i64 (i10)) ∧
 ((i10 : Int) > (i4) →
 Fin B h7 (Q (1))) ∧ (¬ ((i10 : Int) > (i4)) →
 Fin B h7 (Q (0))))
def S_slices_Reverse_s_draft_entry_int_draft_entry_int (B : RO) (a1 : Option Addr) (n2 : Nat) (c3 : Nat) (h : Heap) (Q : Heap → Prop) : Prop :=
 ∃ (J10 : Int → Int → Nat → Heap → Prop) (m8 : Nat), Fin B h (J10 (0) (IntKind.wrap .i64 (((n2 : Nat)) - (1))) m8) ∧
 ∀ (i4 : Int) (i5 : Int) (m7 : Nat) (h6 : Heap), J10 i4 i5 m7 h6 →
 ((i4 : Int) < (i5) →
 ∃ A18 : Addr, a1 = some A18 ∧ 0 ≤ (i5 : Int) ∧ (i5 : Int) < (n2 : Nat) ∧
 ∃ i23 : Int, ∃ i24 : Int, CellsAt B h6 (Addr.add A18 (Int.toNat (i5) * 2)) 0 [(Value.int .i64 (i23)), (Value.int .i64 (i24))] ∧
 ∃ A28 : Addr, a1 = some A28 ∧ 0 ≤ (i4 : Int) ∧ (i4 : Int) < (n2 : Nat) ∧
 ∃ i33 : Int, ∃ i34 : Int, CellsAt B h6 (Addr.add A28 (Int.toNat (i4) * 2)) 0 [(Value.int .i64 (i33)), (Value.int .i64 (i34))] ∧
 ∃ A36 : Addr, a1 = some A36 ∧ 0 ≤ (i4 : Int) ∧ (i4 : Int) < (n2 : Nat) ∧
 ∃ h41 : Heap, StoresAt (Addr.add A36 (Int.toNat (i4) * 2)) h6 0 [(Value.int .i64 (i23)), (Value.int .i64 (i24))] h41 ∧
 CellsAt B h41 (Addr.add A18 (Int.toNat (i5) * 2)) 0 [(Value.int .i64 (i23)), (Value.int .i64 (i24))] ∧ CellsAt B h41 (Addr.add A28 (Int.toNat (i4) * 2)) 0 [(Value.int .i64 (i33)), (Value.int .i64 (i34))] ∧
 ∃ A44 : Addr, a1 = some A44 ∧ 0 ≤ (i5 : Int) ∧ (i5 : Int) < (n2 : Nat) ∧
 ∃ h46 : Heap, StoresAt (Addr.add A44 (Int.toNat (i5) * 2)) h41 0 [(Value.int .i64 (i33)), (Value.int .i64 (i34))] h46 ∧
 Fin B h46 (fun h' => ∃ m', m' < m7 ∧ J10 (IntKind.wrap .i64 ((i4) + (1))) (IntKind.wrap .i64 ((i5) - (1))) m' h')) ∧ (¬ ((i4 : Int) < (i5)) →
 Fin B h6 (Q))
def S_slices_rotateRight_draft_entry_file_File (B : RO) (a1 : Option Addr) (n2 : Nat) (c3 : Nat) (i4 : Int) (h : Heap) (Q : Heap → Prop) : Prop :=
 C_slices_rotateLeft_draft_entry_file_File B a1 n2 c3 (IntKind.wrap .i64 (((n2 : Nat)) - (i4))) h (fun h5 =>
 Fin B h5 (Q))
def S_slices_rotateLeft_draft_entry_file_File (B : RO) (a1 : Option Addr) (n2 : Nat) (c3 : Nat) (i4 : Int) (h : Heap) (Q : Heap → Prop) : Prop :=
 0 ≤ (0 : Int) ∧ (0 : Int) ≤ (i4 : Int) ∧ (i4 : Int) ≤ (c3 : Nat) ∧
 C_slices_Reverse_s_draft_entry_file_File_draft_entry_file_File B (if c3 = Int.toNat (0) then a1 else Option.map (·.add (Int.toNat (0) * 3)) a1) (Int.toNat (i4) - Int.toNat (0)) (c3 - Int.toNat (0)) h (fun h5 =>
 0 ≤ (i4 : Int) ∧ (i4 : Int) ≤ ((n2 : Nat) : Int) ∧ ((n2 : Nat) : Int) ≤ (c3 : Nat) ∧
 C_slices_Reverse_s_draft_entry_file_File_draft_entry_file_File B (if c3 = Int.toNat (i4) then a1 else Option.map (·.add (Int.toNat (i4) * 3)) a1) (Int.toNat ((n2 : Nat)) - Int.toNat (i4)) (c3 - Int.toNat (i4)) h5 (fun h6 =>
 C_slices_Reverse_s_draft_entry_file_File_draft_entry_file_File B a1 n2 c3 h6 (fun h7 =>
 Fin B h7 (Q))))
def S_slices_Reverse_s_draft_entry_file_File_draft_entry_file_File (B : RO) (a1 : Option Addr) (n2 : Nat) (c3 : Nat) (h : Heap) (Q : Heap → Prop) : Prop :=
 ∃ (J10 : Int → Int → Nat → Heap → Prop) (m8 : Nat), Fin B h (J10 (0) (IntKind.wrap .i64 (((n2 : Nat)) - (1))) m8) ∧
 ∀ (i4 : Int) (i5 : Int) (m7 : Nat) (h6 : Heap), J10 i4 i5 m7 h6 →
 ((i4 : Int) < (i5) →
 ∃ A18 : Addr, a1 = some A18 ∧ 0 ≤ (i5 : Int) ∧ (i5 : Int) < (n2 : Nat) ∧
 ∃ i23 : Int, ∃ b24 : Bool, ∃ s25 : ByteArray, CellsAt B h6 (Addr.add A18 (Int.toNat (i5) * 3)) 0 [(Value.int .i64 (i23)), (Value.bool b24), (Value.string s25)] ∧
 ∃ A29 : Addr, a1 = some A29 ∧ 0 ≤ (i4 : Int) ∧ (i4 : Int) < (n2 : Nat) ∧
 ∃ i34 : Int, ∃ b35 : Bool, ∃ s36 : ByteArray, CellsAt B h6 (Addr.add A29 (Int.toNat (i4) * 3)) 0 [(Value.int .i64 (i34)), (Value.bool b35), (Value.string s36)] ∧
 ∃ A38 : Addr, a1 = some A38 ∧ 0 ≤ (i4 : Int) ∧ (i4 : Int) < (n2 : Nat) ∧
 ∃ h43 : Heap, StoresAt (Addr.add A38 (Int.toNat (i4) * 3)) h6 0 [(Value.int .i64 (i23)), (Value.bool b24), (Value.string s25)] h43 ∧
 CellsAt B h43 (Addr.add A18 (Int.toNat (i5) * 3)) 0 [(Value.int .i64 (i23)), (Value.bool b24), (Value.string s25)] ∧ CellsAt B h43 (Addr.add A29 (Int.toNat (i4) * 3)) 0 [(Value.int .i64 (i34)), (Value.bool b35), (Value.string s36)] ∧
 ∃ A46 : Addr, a1 = some A46 ∧ 0 ≤ (i5 : Int) ∧ (i5 : Int) < (n2 : Nat) ∧
 ∃ h48 : Heap, StoresAt (Addr.add A46 (Int.toNat (i5) * 3)) h43 0 [(Value.int .i64 (i34)), (Value.bool b35), (Value.string s36)] h48 ∧
 Fin B h48 (fun h' => ∃ m', m' < m7 ∧ J10 (IntKind.wrap .i64 ((i4) + (1))) (IntKind.wrap .i64 ((i5) - (1))) m' h')) ∧ (¬ ((i4 : Int) < (i5)) →
 Fin B h6 (Q))
end Go.Proofs.Ytcncdfmnpmmikaa.H
