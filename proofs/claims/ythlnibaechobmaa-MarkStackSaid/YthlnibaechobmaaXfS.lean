/- What each function asks. No condition. -/
import Derived.Test.YthlnibaechobmaaXfF
namespace Go.Proofs.Ythlnibaechobmaa.H
open Go
set_option linter.unusedVariables false
set_option maxRecDepth 100000

def S_countermandlaw17_MarkStack_J2 (B : RO) (k8 : Nat) (h13 : Heap) (Q : Bool → Heap → Prop) : Prop :=
 C_mark_Stack_Pop B (some ⟨k8, 0, none⟩) h13 (fun p15 p16 p17 i18 i19 i20 i21 i22 i23 i24 i25 i26 b27 h14 =>
 (b27 = true →
 ∀ k33 : Nat, h14 k33 = none → B k33 = none → ∀ h34 : Heap, h34 = Heap.set h14 k33 (.vec 115 (plains [(Value.pointer none), (Value.pointer none), (Value.pointer none), (Value.int .i64 (0)), (Value.int .i64 (0)), (Value.int .i64 (0)), (Value.int .i64 (0)), (Value.int .i64 (0)), (Value.int .i64 (0)), (Value.int .i64 (0)), (Value.int .i64 (0)), (Value.int .i64 (0))]) 12) →
 ∃ h35 : Heap, StoresAt ⟨k33, 0, none⟩ h34 0 [(Value.pointer p15), (Value.pointer p16), (Value.pointer p17), (Value.int .i64 (i18)), (Value.int .i64 (i19)), (Value.int .i64 (i20)), (Value.int .i64 (i21)), (Value.int .i64 (i22)), (Value.int .i64 (i23)), (Value.int .i64 (i24)), (Value.int .i64 (i25)), (Value.int .i64 (i26))] h35 ∧
 Fin B h35 (Q (false))) ∧ (b27 = false →
 ∀ k28 : Nat, h14 k28 = none → B k28 = none → ∀ h29 : Heap, h29 = Heap.set h14 k28 (.vec 115 (plains [(Value.pointer none), (Value.pointer none), (Value.pointer none), (Value.int .i64 (0)), (Value.int .i64 (0)), (Value.int .i64 (0)), (Value.int .i64 (0)), (Value.int .i64 (0)), (Value.int .i64 (0)), (Value.int .i64 (0)), (Value.int .i64 (0)), (Value.int .i64 (0))]) 12) →
 ∃ h30 : Heap, StoresAt ⟨k28, 0, none⟩ h29 0 [(Value.pointer p15), (Value.pointer p16), (Value.pointer p17), (Value.int .i64 (i18)), (Value.int .i64 (i19)), (Value.int .i64 (i20)), (Value.int .i64 (i21)), (Value.int .i64 (i22)), (Value.int .i64 (i23)), (Value.int .i64 (i24)), (Value.int .i64 (i25)), (Value.int .i64 (i26))] h30 ∧
 C_mark_Stack_Len B (some ⟨k8, 0, none⟩) h30 (fun i32 h31 =>
 Fin B h31 (Q (((i32 : Int) == (0)))))))
def S_countermandlaw17_MarkStack_J1 (B : RO) (a1 : Option Addr) (n2 : Nat) (c3 : Nat) (k8 : Nat) (h11 : Heap) (Q : Bool → Heap → Prop) : Prop :=
 ∃ (J41 : Int → Nat → Heap → Prop) (m39 : Nat), Fin B h11 (J41 (IntKind.wrap .i64 (((n2 : Nat)) - (1))) m39) ∧
 ∀ (i36 : Int) (m38 : Nat) (h37 : Heap), J41 i36 m38 h37 →
 ((i36 : Int) ≥ (0) →
 C_mark_Stack_Pop B (some ⟨k8, 0, none⟩) h37 (fun p44 p45 p46 i47 i48 i49 i50 i51 i52 i53 i54 i55 b56 h43 =>
 (b56 = true →
 ∀ k60 : Nat, h43 k60 = none → B k60 = none → ∀ h61 : Heap, h61 = Heap.set h43 k60 (.vec 115 (plains [(Value.pointer none), (Value.pointer none), (Value.pointer none), (Value.int .i64 (0)), (Value.int .i64 (0)), (Value.int .i64 (0)), (Value.int .i64 (0)), (Value.int .i64 (0)), (Value.int .i64 (0)), (Value.int .i64 (0)), (Value.int .i64 (0)), (Value.int .i64 (0))]) 12) →
 ∃ h62 : Heap, StoresAt ⟨k60, 0, none⟩ h61 0 [(Value.pointer p44), (Value.pointer p45), (Value.pointer p46), (Value.int .i64 (i47)), (Value.int .i64 (i48)), (Value.int .i64 (i49)), (Value.int .i64 (i50)), (Value.int .i64 (i51)), (Value.int .i64 (i52)), (Value.int .i64 (i53)), (Value.int .i64 (i54)), (Value.int .i64 (i55))] h62 ∧
 ∃ i63 : Int, cellH B h62 ⟨k60, 11, none⟩ = some (Value.int .i64 (i63)) ∧
 ∃ A64 : Addr, a1 = some A64 ∧ 0 ≤ (i36 : Int) ∧ (i36 : Int) < (n2 : Nat) ∧
 ∃ i66 : Int, cellH B h62 (Addr.add A64 (Int.toNat (i36) * 1)) = some (Value.int .i64 (i66)) ∧
 ((i63 : Int) = i66 →
 0 ≤ (0 : Int) ∧ (0 : Int) < (4 : Nat) ∧
 ∃ i68 : Int, cellH B h62 ⟨k60, 3, none⟩ = some (Value.int .i64 (i68)) ∧
 ∃ A69 : Addr, a1 = some A69 ∧ 0 ≤ (i36 : Int) ∧ (i36 : Int) < (n2 : Nat) ∧
 ∃ i71 : Int, cellH B h62 (Addr.add A69 (Int.toNat (i36) * 1)) = some (Value.int .i64 (i71)) ∧
 ((i68 : Int) = i71 →
 Fin B h62 (fun h' => ∃ m', m' < m38 ∧ J41 (IntKind.wrap .i64 ((i36) - (1))) m' h')) ∧ (¬ ((i68 : Int) = i71) →
 Fin B h62 (Q (false)))) ∧ (¬ ((i63 : Int) = i66) →
 Fin B h62 (Q (false)))) ∧ (b56 = false →
 ∀ k57 : Nat, h43 k57 = none → B k57 = none → ∀ h58 : Heap, h58 = Heap.set h43 k57 (.vec 115 (plains [(Value.pointer none), (Value.pointer none), (Value.pointer none), (Value.int .i64 (0)), (Value.int .i64 (0)), (Value.int .i64 (0)), (Value.int .i64 (0)), (Value.int .i64 (0)), (Value.int .i64 (0)), (Value.int .i64 (0)), (Value.int .i64 (0)), (Value.int .i64 (0))]) 12) →
 ∃ h59 : Heap, StoresAt ⟨k57, 0, none⟩ h58 0 [(Value.pointer p44), (Value.pointer p45), (Value.pointer p46), (Value.int .i64 (i47)), (Value.int .i64 (i48)), (Value.int .i64 (i49)), (Value.int .i64 (i50)), (Value.int .i64 (i51)), (Value.int .i64 (i52)), (Value.int .i64 (i53)), (Value.int .i64 (i54)), (Value.int .i64 (i55))] h59 ∧
 Fin B h59 (Q (false))))) ∧ (¬ ((i36 : Int) ≥ (0)) →
 Fin B h37 (fun h' => S_countermandlaw17_MarkStack_J2 B k8 h' Q))
def S_countermandlaw17_MarkStack (B : RO) (a1 : Option Addr) (n2 : Nat) (c3 : Nat) (h : Heap) (Q : Bool → Heap → Prop) : Prop :=
 C_countermandlaw17_alive B h (fun b6 h5 =>
 (b6 = true →
 (((n2 : Nat) : Int) > (60) →
 Fin B h5 (Q (true))) ∧ (¬ (((n2 : Nat) : Int) > (60)) →
 ∀ k8 : Nat, h5 k8 = none → B k8 = none → ∀ h9 : Heap, h9 = Heap.set h5 k8 (.vec 105 (plains [(Value.slice none 0 0)]) 1) →
 ∃ (J78 : Int → Nat → Heap → Prop) (m76 : Nat), Fin B h9 (J78 (0) m76) ∧
 ∀ (i73 : Int) (m75 : Nat) (h74 : Heap), J78 i73 m75 h74 →
 ((i73 : Int) < ((n2 : Nat)) →
 ∃ A80 : Addr, a1 = some A80 ∧ 0 ≤ (i73 : Int) ∧ (i73 : Int) < (n2 : Nat) ∧
 ∃ i82 : Int, cellH B h74 (Addr.add A80 (Int.toNat (i73) * 1)) = some (Value.int .i64 (i82)) ∧
 C_mark_Fresh B (i82) (0) (0) (0) h74 (fun p84 p85 p86 i87 i88 i89 i90 h83 =>
 C_mark_Stack_Push B (some ⟨k8, 0, none⟩) p84 p85 p86 (i87) (i88) (i89) (i90) (0) (0) (0) (0) (i82) h83 (fun b92 h91 =>
 (b92 = true →
 C_mark_Stack_Len B (some ⟨k8, 0, none⟩) h91 (fun i94 h93 =>
 ((i94 : Int) = IntKind.wrap .i64 ((i73) + (1)) →
 Fin B h93 (fun h' => ∃ m', m' < m75 ∧ J78 (IntKind.wrap .i64 ((i73) + (1))) m' h')) ∧ (¬ ((i94 : Int) = IntKind.wrap .i64 ((i73) + (1))) →
 Fin B h93 (Q (false))))) ∧ (b92 = false →
 Fin B h91 (Q (false)))))) ∧ (¬ ((i73 : Int) < ((n2 : Nat))) →
 Fin B h74 (fun h' => S_countermandlaw17_MarkStack_J1 B a1 n2 c3 k8 h' Q)))) ∧ (b6 = false →
 Fin B h5 (Q (false))))
def S_countermandlaw17_alive_J1 (B : RO) (k2 : Nat) (h16 : Heap) (Q : Bool → Heap → Prop) : Prop :=
 C_mark_Stack_Pop B (some ⟨k2, 0, none⟩) h16 (fun p18 p19 p20 i21 i22 i23 i24 i25 i26 i27 i28 i29 b30 h17 =>
 (b30 = true →
 ∀ k34 : Nat, h17 k34 = none → B k34 = none → ∀ h35 : Heap, h35 = Heap.set h17 k34 (.vec 115 (plains [(Value.pointer none), (Value.pointer none), (Value.pointer none), (Value.int .i64 (0)), (Value.int .i64 (0)), (Value.int .i64 (0)), (Value.int .i64 (0)), (Value.int .i64 (0)), (Value.int .i64 (0)), (Value.int .i64 (0)), (Value.int .i64 (0)), (Value.int .i64 (0))]) 12) →
 ∃ h36 : Heap, StoresAt ⟨k34, 0, none⟩ h35 0 [(Value.pointer p18), (Value.pointer p19), (Value.pointer p20), (Value.int .i64 (i21)), (Value.int .i64 (i22)), (Value.int .i64 (i23)), (Value.int .i64 (i24)), (Value.int .i64 (i25)), (Value.int .i64 (i26)), (Value.int .i64 (i27)), (Value.int .i64 (i28)), (Value.int .i64 (i29))] h36 ∧
 ∃ i37 : Int, cellH B h36 ⟨k34, 11, none⟩ = some (Value.int .i64 (i37)) ∧
 ((i37 : Int) = 5 →
 0 ≤ (0 : Int) ∧ (0 : Int) < (4 : Nat) ∧
 ∃ i39 : Int, cellH B h36 ⟨k34, 3, none⟩ = some (Value.int .i64 (i39)) ∧
 Fin B h36 (Q (((i39 : Int) == (1))))) ∧ (¬ ((i37 : Int) = 5) →
 Fin B h36 (Q (false)))) ∧ (b30 = false →
 ∀ k31 : Nat, h17 k31 = none → B k31 = none → ∀ h32 : Heap, h32 = Heap.set h17 k31 (.vec 115 (plains [(Value.pointer none), (Value.pointer none), (Value.pointer none), (Value.int .i64 (0)), (Value.int .i64 (0)), (Value.int .i64 (0)), (Value.int .i64 (0)), (Value.int .i64 (0)), (Value.int .i64 (0)), (Value.int .i64 (0)), (Value.int .i64 (0)), (Value.int .i64 (0))]) 12) →
 ∃ h33 : Heap, StoresAt ⟨k31, 0, none⟩ h32 0 [(Value.pointer p18), (Value.pointer p19), (Value.pointer p20), (Value.int .i64 (i21)), (Value.int .i64 (i22)), (Value.int .i64 (i23)), (Value.int .i64 (i24)), (Value.int .i64 (i25)), (Value.int .i64 (i26)), (Value.int .i64 (i27)), (Value.int .i64 (i28)), (Value.int .i64 (i29))] h33 ∧
 Fin B h33 (Q (false))))
def S_countermandlaw17_alive (B : RO) (h : Heap) (Q : Bool → Heap → Prop) : Prop :=
 ∀ k2 : Nat, h k2 = none → B k2 = none → ∀ h3 : Heap, h3 = Heap.set h k2 (.vec 105 (plains [(Value.slice none 0 0)]) 1) →
 C_mark_Fresh B (1) (0) (0) (0) h3 (fun p5 p6 p7 i8 i9 i10 i11 h4 =>
 ∀ k12 : Nat, h4 k12 = none → B k12 = none → ∀ h13 : Heap, h13 = Heap.set h4 k12 (.vec 112 (plains [(Value.pointer none), (Value.pointer none), (Value.pointer none), (Value.int .i64 (0)), (Value.int .i64 (0)), (Value.int .i64 (0)), (Value.int .i64 (0))]) 7) →
 ∃ h14 : Heap, StoresAt ⟨k12, 0, none⟩ h13 0 [(Value.pointer p5), (Value.pointer p6), (Value.pointer p7), (Value.int .i64 (i8)), (Value.int .i64 (i9)), (Value.int .i64 (i10)), (Value.int .i64 (i11))] h14 ∧
 ∃ p40 : Option Addr, ∃ p41 : Option Addr, ∃ p42 : Option Addr, ∃ i43 : Int, ∃ i44 : Int, ∃ i45 : Int, ∃ i46 : Int, CellsAt B h14 ⟨k12, 0, none⟩ 0 [(Value.pointer p40), (Value.pointer p41), (Value.pointer p42), (Value.int .i64 (i43)), (Value.int .i64 (i44)), (Value.int .i64 (i45)), (Value.int .i64 (i46))] ∧
 C_mark_Stack_Push B (some ⟨k2, 0, none⟩) p40 p41 p42 (i43) (i44) (i45) (i46) (0) (0) (0) (0) (5) h14 (fun b48 h47 =>
 (b48 = true →
 C_mark_Stack_Len B (some ⟨k2, 0, none⟩) h47 (fun i50 h49 =>
 ((i50 : Int) = 1 →
 Fin B h49 (fun h' => S_countermandlaw17_alive_J1 B k2 h' Q)) ∧ (¬ ((i50 : Int) = 1) →
 Fin B h49 (Q (false))))) ∧ (b48 = false →
 Fin B h47 (Q (false)))))
def S_mark_Stack_Push (B : RO) (p1 : Option Addr) (p2 : Option Addr) (p3 : Option Addr) (p4 : Option Addr) (i5 : Int) (i6 : Int) (i7 : Int) (i8 : Int) (i9 : Int) (i10 : Int) (i11 : Int) (i12 : Int) (i13 : Int) (h : Heap) (Q : Bool → Heap → Prop) : Prop :=
 ∀ k15 : Nat, h k15 = none → B k15 = none → ∀ h16 : Heap, h16 = Heap.set h k15 (.vec 115 (plains [(Value.pointer p2), (Value.pointer p3), (Value.pointer p4), (Value.int .i64 (i5)), (Value.int .i64 (i6)), (Value.int .i64 (i7)), (Value.int .i64 (i8)), (Value.int .i64 (i9)), (Value.int .i64 (i10)), (Value.int .i64 (i11)), (Value.int .i64 (i12)), (Value.int .i64 (i13))]) 12) →
 (p1 = none →
 Fin B h16 (Q (false))) ∧ (¬ (p1 = none) →
 ∃ p18 : Option Addr, ∃ p19 : Option Addr, ∃ p20 : Option Addr, ∃ i21 : Int, ∃ i22 : Int, ∃ i23 : Int, ∃ i24 : Int, CellsAt B h16 ⟨k15, 0, none⟩ 0 [(Value.pointer p18), (Value.pointer p19), (Value.pointer p20), (Value.int .i64 (i21)), (Value.int .i64 (i22)), (Value.int .i64 (i23)), (Value.int .i64 (i24))] ∧
 C_mark_State_Copy B p18 p19 p20 (i21) (i22) (i23) (i24) h16 (fun p26 p27 p28 i29 i30 i31 i32 h25 =>
 ∃ h33 : Heap, StoresAt ⟨k15, 0, none⟩ h25 0 [(Value.pointer p26), (Value.pointer p27), (Value.pointer p28), (Value.int .i64 (i29)), (Value.int .i64 (i30)), (Value.int .i64 (i31)), (Value.int .i64 (i32))] h33 ∧
 ∃ A36 : Addr, p1 = some A36 ∧
 ∃ a40 : Option Addr, ∃ n41 : Nat, ∃ c42 : Nat, cellH B h33 A36 = some (Value.slice a40 n41 c42) ∧
 ∃ p44 : Option Addr, ∃ p45 : Option Addr, ∃ p46 : Option Addr, ∃ i47 : Int, ∃ i48 : Int, ∃ i49 : Int, ∃ i50 : Int, ∃ i51 : Int, ∃ i52 : Int, ∃ i53 : Int, ∃ i54 : Int, ∃ i55 : Int, CellsAt B h33 ⟨k15, 0, none⟩ 0 [(Value.pointer p44), (Value.pointer p45), (Value.pointer p46), (Value.int .i64 (i47)), (Value.int .i64 (i48)), (Value.int .i64 (i49)), (Value.int .i64 (i50)), (Value.int .i64 (i51)), (Value.int .i64 (i52)), (Value.int .i64 (i53)), (Value.int .i64 (i54)), (Value.int .i64 (i55))] ∧
 ∀ k57 : Nat, h33 k57 = none → B k57 = none → ∀ h58 : Heap, h58 = Heap.set h33 k57 (.vec 115 (plains [(Value.pointer p44), (Value.pointer p45), (Value.pointer p46), (Value.int .i64 (i47)), (Value.int .i64 (i48)), (Value.int .i64 (i49)), (Value.int .i64 (i50)), (Value.int .i64 (i51)), (Value.int .i64 (i52)), (Value.int .i64 (i53)), (Value.int .i64 (i54)), (Value.int .i64 (i55))]) 12) →
 cellH B h58 A36 = some (Value.slice a40 n41 c42) ∧ CellsAt B h58 ⟨k15, 0, none⟩ 0 [(Value.pointer p44), (Value.pointer p45), (Value.pointer p46), (Value.int .i64 (i47)), (Value.int .i64 (i48)), (Value.int .i64 (i49)), (Value.int .i64 (i50)), (Value.int .i64 (i51)), (Value.int .i64 (i52)), (Value.int .i64 (i53)), (Value.int .i64 (i54)), (Value.int .i64 (i55))] ∧
 semH PG B (Builtin.append_ #[103, 103] 103 #[(Value.slice a40 n41 c42), (Value.slice (some ⟨k57, 0, none⟩) 1 1)]) h58 (fun v h61 => ∃ a62 : Option Addr, ∃ n63 : Nat, ∃ c64 : Nat, v = (Value.slice a62 n63 c64) ∧
 cellH B h61 A36 = some (Value.slice a40 n41 c42) ∧ CellsAt B h61 ⟨k15, 0, none⟩ 0 [(Value.pointer p44), (Value.pointer p45), (Value.pointer p46), (Value.int .i64 (i47)), (Value.int .i64 (i48)), (Value.int .i64 (i49)), (Value.int .i64 (i50)), (Value.int .i64 (i51)), (Value.int .i64 (i52)), (Value.int .i64 (i53)), (Value.int .i64 (i54)), (Value.int .i64 (i55))] ∧
 ∃ A67 : Addr, p1 = some A67 ∧
 ∃ h69 : Heap, storeH h61 A67 (Value.slice a62 n63 c64) = some h69 ∧
 Fin B h69 (Q (true)))))
def S_mark_Fresh (B : RO) (i1 : Int) (i2 : Int) (i3 : Int) (i4 : Int) (h : Heap) (Q : Option Addr → Option Addr → Option Addr → Int → Int → Int → Int → Heap → Prop) : Prop :=
 ∀ k12 : Nat, h k12 = none → B k12 = none → ∀ h13 : Heap, h13 = Heap.set h k12 (.vec 110 (plains [(Value.int .i64 (i1)), (Value.int .i64 (i2)), (Value.int .i64 (i3)), (Value.int .i64 (i4))]) 4) →
 ∀ k14 : Nat, h13 k14 = none → B k14 = none → ∀ h15 : Heap, h15 = Heap.set h13 k14 (.vec 112 (plains [(Value.pointer none), (Value.pointer none), (Value.pointer none), (Value.int .i64 (0)), (Value.int .i64 (0)), (Value.int .i64 (0)), (Value.int .i64 (0))]) 7) →
 ∃ i18 : Int, ∃ i19 : Int, ∃ i20 : Int, ∃ i21 : Int, CellsAt B h15 ⟨k12, 0, none⟩ 0 [(Value.int .i64 (i18)), (Value.int .i64 (i19)), (Value.int .i64 (i20)), (Value.int .i64 (i21))] ∧
 (∀ k23 : Nat, h15 k23 = none → B k23 = none → ∀ h24 : Heap, h24 = Heap.set h15 k23 (.vec 151 (plains [(Value.slice none 0 0)]) 1) →
 CellsAt B h24 ⟨k12, 0, none⟩ 0 [(Value.int .i64 (i18)), (Value.int .i64 (i19)), (Value.int .i64 (i20)), (Value.int .i64 (i21))] ∧
 (C_sheet_New B h24 (fun p27 h26 =>
 CellsAt B h26 ⟨k12, 0, none⟩ 0 [(Value.int .i64 (i18)), (Value.int .i64 (i19)), (Value.int .i64 (i20)), (Value.int .i64 (i21))] ∧
 ∀ k29 : Nat, h26 k29 = none → B k29 = none → ∀ h30 : Heap, h30 = Heap.set h26 k29 (.vec 154 (plains [(Value.int .i64 (0)), (Value.int .i64 (0)), (Value.int .i64 (0))]) 3) →
 CellsAt B h30 ⟨k12, 0, none⟩ 0 [(Value.int .i64 (i18)), (Value.int .i64 (i19)), (Value.int .i64 (i20)), (Value.int .i64 (i21))] ∧
 ∃ h32 : Heap, StoresAt ⟨k14, 0, none⟩ h30 0 [(Value.pointer (some ⟨k23, 0, none⟩)), (Value.pointer p27), (Value.pointer (some ⟨k29, 0, none⟩)), (Value.int .i64 (i18)), (Value.int .i64 (i19)), (Value.int .i64 (i20)), (Value.int .i64 (i21))] h32 ∧
 ∃ p33 : Option Addr, ∃ p34 : Option Addr, ∃ p35 : Option Addr, ∃ i36 : Int, ∃ i37 : Int, ∃ i38 : Int, ∃ i39 : Int, CellsAt B h32 ⟨k14, 0, none⟩ 0 [(Value.pointer p33), (Value.pointer p34), (Value.pointer p35), (Value.int .i64 (i36)), (Value.int .i64 (i37)), (Value.int .i64 (i38)), (Value.int .i64 (i39))] ∧ Fin B h32 (Q p33 p34 p35 (i36) (i37) (i38) (i39)))) ∧
 (∀ k40 : Nat, h24 k40 = none → B k40 = none → ∀ h41 : Heap, h41 = Heap.set h24 k40 (.vec 154 (plains [(Value.int .i64 (0)), (Value.int .i64 (0)), (Value.int .i64 (0))]) 3) →
 CellsAt B h41 ⟨k12, 0, none⟩ 0 [(Value.int .i64 (i18)), (Value.int .i64 (i19)), (Value.int .i64 (i20)), (Value.int .i64 (i21))] ∧
 C_sheet_New B h41 (fun p44 h43 =>
 CellsAt B h43 ⟨k12, 0, none⟩ 0 [(Value.int .i64 (i18)), (Value.int .i64 (i19)), (Value.int .i64 (i20)), (Value.int .i64 (i21))] ∧
 ∃ h46 : Heap, StoresAt ⟨k14, 0, none⟩ h43 0 [(Value.pointer (some ⟨k23, 0, none⟩)), (Value.pointer p44), (Value.pointer (some ⟨k40, 0, none⟩)), (Value.int .i64 (i18)), (Value.int .i64 (i19)), (Value.int .i64 (i20)), (Value.int .i64 (i21))] h46 ∧
 ∃ p47 : Option Addr, ∃ p48 : Option Addr, ∃ p49 : Option Addr, ∃ i50 : Int, ∃ i51 : Int, ∃ i52 : Int, ∃ i53 : Int, CellsAt B h46 ⟨k14, 0, none⟩ 0 [(Value.pointer p47), (Value.pointer p48), (Value.pointer p49), (Value.int .i64 (i50)), (Value.int .i64 (i51)), (Value.int .i64 (i52)), (Value.int .i64 (i53))] ∧ Fin B h46 (Q p47 p48 p49 (i50) (i51) (i52) (i53))))) ∧
 (C_sheet_New B h15 (fun p55 h54 =>
 CellsAt B h54 ⟨k12, 0, none⟩ 0 [(Value.int .i64 (i18)), (Value.int .i64 (i19)), (Value.int .i64 (i20)), (Value.int .i64 (i21))] ∧
 (∀ k57 : Nat, h54 k57 = none → B k57 = none → ∀ h58 : Heap, h58 = Heap.set h54 k57 (.vec 151 (plains [(Value.slice none 0 0)]) 1) →
 CellsAt B h58 ⟨k12, 0, none⟩ 0 [(Value.int .i64 (i18)), (Value.int .i64 (i19)), (Value.int .i64 (i20)), (Value.int .i64 (i21))] ∧
 ∀ k60 : Nat, h58 k60 = none → B k60 = none → ∀ h61 : Heap, h61 = Heap.set h58 k60 (.vec 154 (plains [(Value.int .i64 (0)), (Value.int .i64 (0)), (Value.int .i64 (0))]) 3) →
 CellsAt B h61 ⟨k12, 0, none⟩ 0 [(Value.int .i64 (i18)), (Value.int .i64 (i19)), (Value.int .i64 (i20)), (Value.int .i64 (i21))] ∧
 ∃ h63 : Heap, StoresAt ⟨k14, 0, none⟩ h61 0 [(Value.pointer (some ⟨k57, 0, none⟩)), (Value.pointer p55), (Value.pointer (some ⟨k60, 0, none⟩)), (Value.int .i64 (i18)), (Value.int .i64 (i19)), (Value.int .i64 (i20)), (Value.int .i64 (i21))] h63 ∧
 ∃ p64 : Option Addr, ∃ p65 : Option Addr, ∃ p66 : Option Addr, ∃ i67 : Int, ∃ i68 : Int, ∃ i69 : Int, ∃ i70 : Int, CellsAt B h63 ⟨k14, 0, none⟩ 0 [(Value.pointer p64), (Value.pointer p65), (Value.pointer p66), (Value.int .i64 (i67)), (Value.int .i64 (i68)), (Value.int .i64 (i69)), (Value.int .i64 (i70))] ∧ Fin B h63 (Q p64 p65 p66 (i67) (i68) (i69) (i70))) ∧
 (∀ k71 : Nat, h54 k71 = none → B k71 = none → ∀ h72 : Heap, h72 = Heap.set h54 k71 (.vec 154 (plains [(Value.int .i64 (0)), (Value.int .i64 (0)), (Value.int .i64 (0))]) 3) →
 CellsAt B h72 ⟨k12, 0, none⟩ 0 [(Value.int .i64 (i18)), (Value.int .i64 (i19)), (Value.int .i64 (i20)), (Value.int .i64 (i21))] ∧
 ∀ k74 : Nat, h72 k74 = none → B k74 = none → ∀ h75 : Heap, h75 = Heap.set h72 k74 (.vec 151 (plains [(Value.slice none 0 0)]) 1) →
 CellsAt B h75 ⟨k12, 0, none⟩ 0 [(Value.int .i64 (i18)), (Value.int .i64 (i19)), (Value.int .i64 (i20)), (Value.int .i64 (i21))] ∧
 ∃ h77 : Heap, StoresAt ⟨k14, 0, none⟩ h75 0 [(Value.pointer (some ⟨k74, 0, none⟩)), (Value.pointer p55), (Value.pointer (some ⟨k71, 0, none⟩)), (Value.int .i64 (i18)), (Value.int .i64 (i19)), (Value.int .i64 (i20)), (Value.int .i64 (i21))] h77 ∧
 ∃ p78 : Option Addr, ∃ p79 : Option Addr, ∃ p80 : Option Addr, ∃ i81 : Int, ∃ i82 : Int, ∃ i83 : Int, ∃ i84 : Int, CellsAt B h77 ⟨k14, 0, none⟩ 0 [(Value.pointer p78), (Value.pointer p79), (Value.pointer p80), (Value.int .i64 (i81)), (Value.int .i64 (i82)), (Value.int .i64 (i83)), (Value.int .i64 (i84))] ∧ Fin B h77 (Q p78 p79 p80 (i81) (i82) (i83) (i84))))) ∧
 (∀ k85 : Nat, h15 k85 = none → B k85 = none → ∀ h86 : Heap, h86 = Heap.set h15 k85 (.vec 154 (plains [(Value.int .i64 (0)), (Value.int .i64 (0)), (Value.int .i64 (0))]) 3) →
 CellsAt B h86 ⟨k12, 0, none⟩ 0 [(Value.int .i64 (i18)), (Value.int .i64 (i19)), (Value.int .i64 (i20)), (Value.int .i64 (i21))] ∧
 (∀ k88 : Nat, h86 k88 = none → B k88 = none → ∀ h89 : Heap, h89 = Heap.set h86 k88 (.vec 151 (plains [(Value.slice none 0 0)]) 1) →
 CellsAt B h89 ⟨k12, 0, none⟩ 0 [(Value.int .i64 (i18)), (Value.int .i64 (i19)), (Value.int .i64 (i20)), (Value.int .i64 (i21))] ∧
 C_sheet_New B h89 (fun p92 h91 =>
 CellsAt B h91 ⟨k12, 0, none⟩ 0 [(Value.int .i64 (i18)), (Value.int .i64 (i19)), (Value.int .i64 (i20)), (Value.int .i64 (i21))] ∧
 ∃ h94 : Heap, StoresAt ⟨k14, 0, none⟩ h91 0 [(Value.pointer (some ⟨k88, 0, none⟩)), (Value.pointer p92), (Value.pointer (some ⟨k85, 0, none⟩)), (Value.int .i64 (i18)), (Value.int .i64 (i19)), (Value.int .i64 (i20)), (Value.int .i64 (i21))] h94 ∧
 ∃ p95 : Option Addr, ∃ p96 : Option Addr, ∃ p97 : Option Addr, ∃ i98 : Int, ∃ i99 : Int, ∃ i100 : Int, ∃ i101 : Int, CellsAt B h94 ⟨k14, 0, none⟩ 0 [(Value.pointer p95), (Value.pointer p96), (Value.pointer p97), (Value.int .i64 (i98)), (Value.int .i64 (i99)), (Value.int .i64 (i100)), (Value.int .i64 (i101))] ∧ Fin B h94 (Q p95 p96 p97 (i98) (i99) (i100) (i101)))) ∧
 (C_sheet_New B h86 (fun p103 h102 =>
 CellsAt B h102 ⟨k12, 0, none⟩ 0 [(Value.int .i64 (i18)), (Value.int .i64 (i19)), (Value.int .i64 (i20)), (Value.int .i64 (i21))] ∧
 ∀ k105 : Nat, h102 k105 = none → B k105 = none → ∀ h106 : Heap, h106 = Heap.set h102 k105 (.vec 151 (plains [(Value.slice none 0 0)]) 1) →
 CellsAt B h106 ⟨k12, 0, none⟩ 0 [(Value.int .i64 (i18)), (Value.int .i64 (i19)), (Value.int .i64 (i20)), (Value.int .i64 (i21))] ∧
 ∃ h108 : Heap, StoresAt ⟨k14, 0, none⟩ h106 0 [(Value.pointer (some ⟨k105, 0, none⟩)), (Value.pointer p103), (Value.pointer (some ⟨k85, 0, none⟩)), (Value.int .i64 (i18)), (Value.int .i64 (i19)), (Value.int .i64 (i20)), (Value.int .i64 (i21))] h108 ∧
 ∃ p109 : Option Addr, ∃ p110 : Option Addr, ∃ p111 : Option Addr, ∃ i112 : Int, ∃ i113 : Int, ∃ i114 : Int, ∃ i115 : Int, CellsAt B h108 ⟨k14, 0, none⟩ 0 [(Value.pointer p109), (Value.pointer p110), (Value.pointer p111), (Value.int .i64 (i112)), (Value.int .i64 (i113)), (Value.int .i64 (i114)), (Value.int .i64 (i115))] ∧ Fin B h108 (Q p109 p110 p111 (i112) (i113) (i114) (i115)))))
def S_mark_Stack_Len (B : RO) (p1 : Option Addr) (h : Heap) (Q : Int → Heap → Prop) : Prop :=
 (p1 = none →
 Fin B h (Q (0))) ∧ (¬ (p1 = none) →
 ∃ A4 : Addr, p1 = some A4 ∧
 LdSl B h A4 fun a6 n7 c8 h9 =>
 Fin B h9 (Q ((n7 : Nat))))
def S_mark_Stack_Pop_J1 (B : RO) (p1 : Option Addr) (k15 : Nat) (h18 : Heap) (Q : Option Addr → Option Addr → Option Addr → Int → Int → Int → Int → Int → Int → Int → Int → Int → Bool → Heap → Prop) : Prop :=
 ∃ A19 : Addr, p1 = some A19 ∧
 LdSl B h18 A19 fun a21 n22 c23 h24 =>
 ∃ A25 : Addr, p1 = some A25 ∧
 LdSl B h24 A25 fun a27 n28 c29 h30 =>
 ∃ A31 : Addr, a27 = some A31 ∧ 0 ≤ (IntKind.wrap .i64 (((n22 : Nat)) - (1)) : Int) ∧ (IntKind.wrap .i64 (((n22 : Nat)) - (1)) : Int) < (n28 : Nat) ∧
 ∃ p33 : Option Addr, ∃ p34 : Option Addr, ∃ p35 : Option Addr, ∃ i36 : Int, ∃ i37 : Int, ∃ i38 : Int, ∃ i39 : Int, ∃ i40 : Int, ∃ i41 : Int, ∃ i42 : Int, ∃ i43 : Int, ∃ i44 : Int, CellsAt B h30 (Addr.add A31 (Int.toNat (IntKind.wrap .i64 (((n22 : Nat)) - (1))) * 12)) 0 [(Value.pointer p33), (Value.pointer p34), (Value.pointer p35), (Value.int .i64 (i36)), (Value.int .i64 (i37)), (Value.int .i64 (i38)), (Value.int .i64 (i39)), (Value.int .i64 (i40)), (Value.int .i64 (i41)), (Value.int .i64 (i42)), (Value.int .i64 (i43)), (Value.int .i64 (i44))] ∧
 ∀ k45 : Nat, h30 k45 = none → B k45 = none → ∀ h46 : Heap, h46 = Heap.set h30 k45 (.vec 115 (plains [(Value.pointer none), (Value.pointer none), (Value.pointer none), (Value.int .i64 (0)), (Value.int .i64 (0)), (Value.int .i64 (0)), (Value.int .i64 (0)), (Value.int .i64 (0)), (Value.int .i64 (0)), (Value.int .i64 (0)), (Value.int .i64 (0)), (Value.int .i64 (0))]) 12) →
 ∃ h47 : Heap, StoresAt ⟨k45, 0, none⟩ h46 0 [(Value.pointer p33), (Value.pointer p34), (Value.pointer p35), (Value.int .i64 (i36)), (Value.int .i64 (i37)), (Value.int .i64 (i38)), (Value.int .i64 (i39)), (Value.int .i64 (i40)), (Value.int .i64 (i41)), (Value.int .i64 (i42)), (Value.int .i64 (i43)), (Value.int .i64 (i44))] h47 ∧
 ∃ A48 : Addr, p1 = some A48 ∧
 LdSl B h47 A48 fun a50 n51 c52 h53 =>
 C_slices_Delete_s_mark_Mark_mark_Mark B a50 n51 c52 (IntKind.wrap .i64 (((n22 : Nat)) - (1))) (IntKind.wrap .i64 ((IntKind.wrap .i64 (((n22 : Nat)) - (1))) + (1))) h53 (fun a55 n56 c57 h54 =>
 ∃ A58 : Addr, p1 = some A58 ∧
 ∃ h60 : Heap, storeH h54 A58 (Value.slice a55 n56 c57) = some h60 ∧
 ∃ p61 : Option Addr, ∃ p62 : Option Addr, ∃ p63 : Option Addr, ∃ i64 : Int, ∃ i65 : Int, ∃ i66 : Int, ∃ i67 : Int, ∃ i68 : Int, ∃ i69 : Int, ∃ i70 : Int, ∃ i71 : Int, ∃ i72 : Int, CellsAt B h60 ⟨k45, 0, none⟩ 0 [(Value.pointer p61), (Value.pointer p62), (Value.pointer p63), (Value.int .i64 (i64)), (Value.int .i64 (i65)), (Value.int .i64 (i66)), (Value.int .i64 (i67)), (Value.int .i64 (i68)), (Value.int .i64 (i69)), (Value.int .i64 (i70)), (Value.int .i64 (i71)), (Value.int .i64 (i72))] ∧
 ∃ h73 : Heap, StoresAt ⟨k15, 0, none⟩ h60 0 [(Value.pointer p61), (Value.pointer p62), (Value.pointer p63), (Value.int .i64 (i64)), (Value.int .i64 (i65)), (Value.int .i64 (i66)), (Value.int .i64 (i67)), (Value.int .i64 (i68)), (Value.int .i64 (i69)), (Value.int .i64 (i70)), (Value.int .i64 (i71)), (Value.int .i64 (i72))] h73 ∧
 ∃ p74 : Option Addr, ∃ p75 : Option Addr, ∃ p76 : Option Addr, ∃ i77 : Int, ∃ i78 : Int, ∃ i79 : Int, ∃ i80 : Int, ∃ i81 : Int, ∃ i82 : Int, ∃ i83 : Int, ∃ i84 : Int, ∃ i85 : Int, CellsAt B h73 ⟨k15, 0, none⟩ 0 [(Value.pointer p74), (Value.pointer p75), (Value.pointer p76), (Value.int .i64 (i77)), (Value.int .i64 (i78)), (Value.int .i64 (i79)), (Value.int .i64 (i80)), (Value.int .i64 (i81)), (Value.int .i64 (i82)), (Value.int .i64 (i83)), (Value.int .i64 (i84)), (Value.int .i64 (i85))] ∧ Fin B h73 (Q p74 p75 p76 (i77) (i78) (i79) (i80) (i81) (i82) (i83) (i84) (i85) (true)))
def S_mark_Stack_Pop (B : RO) (p1 : Option Addr) (h : Heap) (Q : Option Addr → Option Addr → Option Addr → Int → Int → Int → Int → Int → Int → Int → Int → Int → Bool → Heap → Prop) : Prop :=
 ∀ k15 : Nat, h k15 = none → B k15 = none → ∀ h16 : Heap, h16 = Heap.set h k15 (.vec 115 (plains [(Value.pointer none), (Value.pointer none), (Value.pointer none), (Value.int .i64 (0)), (Value.int .i64 (0)), (Value.int .i64 (0)), (Value.int .i64 (0)), (Value.int .i64 (0)), (Value.int .i64 (0)), (Value.int .i64 (0)), (Value.int .i64 (0)), (Value.int .i64 (0))]) 12) →
 (p1 = none →
 ∃ h87 : Heap, StoresAt ⟨k15, 0, none⟩ h16 0 [(Value.pointer none), (Value.pointer none), (Value.pointer none), (Value.int .i64 (0)), (Value.int .i64 (0)), (Value.int .i64 (0)), (Value.int .i64 (0)), (Value.int .i64 (0)), (Value.int .i64 (0)), (Value.int .i64 (0)), (Value.int .i64 (0)), (Value.int .i64 (0))] h87 ∧
 ∃ p88 : Option Addr, ∃ p89 : Option Addr, ∃ p90 : Option Addr, ∃ i91 : Int, ∃ i92 : Int, ∃ i93 : Int, ∃ i94 : Int, ∃ i95 : Int, ∃ i96 : Int, ∃ i97 : Int, ∃ i98 : Int, ∃ i99 : Int, CellsAt B h87 ⟨k15, 0, none⟩ 0 [(Value.pointer p88), (Value.pointer p89), (Value.pointer p90), (Value.int .i64 (i91)), (Value.int .i64 (i92)), (Value.int .i64 (i93)), (Value.int .i64 (i94)), (Value.int .i64 (i95)), (Value.int .i64 (i96)), (Value.int .i64 (i97)), (Value.int .i64 (i98)), (Value.int .i64 (i99))] ∧ Fin B h87 (Q p88 p89 p90 (i91) (i92) (i93) (i94) (i95) (i96) (i97) (i98) (i99) (false))) ∧ (¬ (p1 = none) →
 ∃ A100 : Addr, p1 = some A100 ∧
 LdSl B h16 A100 fun a102 n103 c104 h105 =>
 (((n103 : Nat) : Int) = 0 →
 ∃ h107 : Heap, StoresAt ⟨k15, 0, none⟩ h105 0 [(Value.pointer none), (Value.pointer none), (Value.pointer none), (Value.int .i64 (0)), (Value.int .i64 (0)), (Value.int .i64 (0)), (Value.int .i64 (0)), (Value.int .i64 (0)), (Value.int .i64 (0)), (Value.int .i64 (0)), (Value.int .i64 (0)), (Value.int .i64 (0))] h107 ∧
 ∃ p108 : Option Addr, ∃ p109 : Option Addr, ∃ p110 : Option Addr, ∃ i111 : Int, ∃ i112 : Int, ∃ i113 : Int, ∃ i114 : Int, ∃ i115 : Int, ∃ i116 : Int, ∃ i117 : Int, ∃ i118 : Int, ∃ i119 : Int, CellsAt B h107 ⟨k15, 0, none⟩ 0 [(Value.pointer p108), (Value.pointer p109), (Value.pointer p110), (Value.int .i64 (i111)), (Value.int .i64 (i112)), (Value.int .i64 (i113)), (Value.int .i64 (i114)), (Value.int .i64 (i115)), (Value.int .i64 (i116)), (Value.int .i64 (i117)), (Value.int .i64 (i118)), (Value.int .i64 (i119))] ∧ Fin B h107 (Q p108 p109 p110 (i111) (i112) (i113) (i114) (i115) (i116) (i117) (i118) (i119) (false))) ∧ (¬ (((n103 : Nat) : Int) = 0) →
 Fin B h105 (fun h' => S_mark_Stack_Pop_J1 B p1 k15 h' Q)))
def S_mark_State_Copy (B : RO) (p1 : Option Addr) (p2 : Option Addr) (p3 : Option Addr) (i4 : Int) (i5 : Int) (i6 : Int) (i7 : Int) (h : Heap) (Q : Option Addr → Option Addr → Option Addr → Int → Int → Int → Int → Heap → Prop) : Prop :=
 ∀ k15 : Nat, h k15 = none → B k15 = none → ∀ h16 : Heap, h16 = Heap.set h k15 (.vec 112 (plains [(Value.pointer p1), (Value.pointer p2), (Value.pointer p3), (Value.int .i64 (i4)), (Value.int .i64 (i5)), (Value.int .i64 (i6)), (Value.int .i64 (i7))]) 7) →
 ∀ k17 : Nat, h16 k17 = none → B k17 = none → ∀ h18 : Heap, h18 = Heap.set h16 k17 (.vec 112 (plains [(Value.pointer none), (Value.pointer none), (Value.pointer none), (Value.int .i64 (0)), (Value.int .i64 (0)), (Value.int .i64 (0)), (Value.int .i64 (0))]) 7) →
 ∃ p20 : Option Addr, cellH B h18 ⟨k15, 0, none⟩ = some (Value.pointer p20) ∧
 ∃ p23 : Option Addr, cellH B h18 ⟨k15, 1, none⟩ = some (Value.pointer p23) ∧
 ∃ p26 : Option Addr, cellH B h18 ⟨k15, 2, none⟩ = some (Value.pointer p26) ∧
 ∃ i29 : Int, ∃ i30 : Int, ∃ i31 : Int, ∃ i32 : Int, CellsAt B h18 ⟨k15, 3, none⟩ 0 [(Value.int .i64 (i29)), (Value.int .i64 (i30)), (Value.int .i64 (i31)), (Value.int .i64 (i32))] ∧
 C_draft_Draft_int_Copy B p20 h18 (fun p35 h34 =>
 cellH B h34 ⟨k15, 0, none⟩ = some (Value.pointer p20) ∧ cellH B h34 ⟨k15, 1, none⟩ = some (Value.pointer p23) ∧ cellH B h34 ⟨k15, 2, none⟩ = some (Value.pointer p26) ∧ CellsAt B h34 ⟨k15, 3, none⟩ 0 [(Value.int .i64 (i29)), (Value.int .i64 (i30)), (Value.int .i64 (i31)), (Value.int .i64 (i32))] ∧
 C_sheet_Sheet_Copy B p23 h34 (fun p41 h40 =>
 cellH B h40 ⟨k15, 0, none⟩ = some (Value.pointer p20) ∧ cellH B h40 ⟨k15, 1, none⟩ = some (Value.pointer p23) ∧ cellH B h40 ⟨k15, 2, none⟩ = some (Value.pointer p26) ∧ CellsAt B h40 ⟨k15, 3, none⟩ 0 [(Value.int .i64 (i29)), (Value.int .i64 (i30)), (Value.int .i64 (i31)), (Value.int .i64 (i32))] ∧
 C_cursor_Cursor_Copy B p26 h40 (fun p47 h46 =>
 cellH B h46 ⟨k15, 0, none⟩ = some (Value.pointer p20) ∧ cellH B h46 ⟨k15, 1, none⟩ = some (Value.pointer p23) ∧ cellH B h46 ⟨k15, 2, none⟩ = some (Value.pointer p26) ∧ CellsAt B h46 ⟨k15, 3, none⟩ 0 [(Value.int .i64 (i29)), (Value.int .i64 (i30)), (Value.int .i64 (i31)), (Value.int .i64 (i32))] ∧
 ∃ h52 : Heap, StoresAt ⟨k17, 0, none⟩ h46 0 [(Value.pointer p35), (Value.pointer p41), (Value.pointer p47), (Value.int .i64 (i29)), (Value.int .i64 (i30)), (Value.int .i64 (i31)), (Value.int .i64 (i32))] h52 ∧
 ∃ p53 : Option Addr, ∃ p54 : Option Addr, ∃ p55 : Option Addr, ∃ i56 : Int, ∃ i57 : Int, ∃ i58 : Int, ∃ i59 : Int, CellsAt B h52 ⟨k17, 0, none⟩ 0 [(Value.pointer p53), (Value.pointer p54), (Value.pointer p55), (Value.int .i64 (i56)), (Value.int .i64 (i57)), (Value.int .i64 (i58)), (Value.int .i64 (i59))] ∧ Fin B h52 (Q p53 p54 p55 (i56) (i57) (i58) (i59)))))
def S_sheet_New (B : RO) (h : Heap) (Q : Option Addr → Heap → Prop) : Prop :=
 ∀ k2 : Nat, h k2 = none → B k2 = none → ∀ h3 : Heap, h3 = Heap.set h k2 (.vec 164 (plains [(Value.slice none 0 0)]) 1) →
 ∀ k4 : Nat, h3 k4 = none → B k4 = none → ∀ h5 : Heap, h5 = Heap.set h3 k4 (.vec 166 (plains [(Value.pointer (some ⟨k2, 0, none⟩))]) 1) →
 Fin B h5 (Q (some ⟨k4, 0, none⟩))
def S_slices_Delete_s_mark_Mark_mark_Mark (B : RO) (a1 : Option Addr) (n2 : Nat) (c3 : Nat) (i4 : Int) (i5 : Int) (h : Heap) (Q : Option Addr → Nat → Nat → Heap → Prop) : Prop :=
 0 ≤ (i4 : Int) ∧ (i4 : Int) ≤ (i5 : Int) ∧ (i5 : Int) ≤ ((n2 : Nat) : Int) ∧ ((n2 : Nat) : Int) ≤ (c3 : Nat) ∧
 ((i4 : Int) = i5 →
 Fin B h (Q a1 n2 c3)) ∧ (¬ ((i4 : Int) = i5) →
 0 ≤ (0 : Int) ∧ (0 : Int) ≤ (i4 : Int) ∧ (i4 : Int) ≤ (c3 : Nat) ∧
 0 ≤ (i5 : Int) ∧ (i5 : Int) ≤ ((n2 : Nat) : Int) ∧ ((n2 : Nat) : Int) ≤ (c3 : Nat) ∧
 semH PG B (Builtin.append_ #[103, 103] 103 #[(Value.slice (if c3 = Int.toNat (0) then a1 else Option.map (·.add (Int.toNat (0) * 12)) a1) (Int.toNat (i4) - Int.toNat (0)) (c3 - Int.toNat (0))), (Value.slice (if c3 = Int.toNat (i5) then a1 else Option.map (·.add (Int.toNat (i5) * 12)) a1) (Int.toNat ((n2 : Nat)) - Int.toNat (i5)) (c3 - Int.toNat (i5)))]) h (fun v h22 => ∃ a23 : Option Addr, ∃ n24 : Nat, ∃ c25 : Nat, v = (Value.slice a23 n24 c25) ∧
 0 ≤ ((n24 : Nat) : Int) ∧ ((n24 : Nat) : Int) ≤ ((n2 : Nat) : Int) ∧ ((n2 : Nat) : Int) ≤ (c25 : Nat) ∧
 semH PG B (Builtin.clear_ #[103] 0 #[(Value.slice (if c25 = Int.toNat ((n24 : Nat)) then a23 else Option.map (·.add (Int.toNat ((n24 : Nat)) * 12)) a23) (Int.toNat ((n2 : Nat)) - Int.toNat ((n24 : Nat))) (c25 - Int.toNat ((n24 : Nat))))]) h22 (fun v h26 => v = (Value.tuple #[]) ∧
 Fin B h26 (Q a23 n24 c25))))
def S_draft_Draft_int_Copy (B : RO) (p1 : Option Addr) (h : Heap) (Q : Option Addr → Heap → Prop) : Prop :=
 (p1 = none →
 Fin B h (Q none)) ∧ (¬ (p1 = none) →
 ∃ A4 : Addr, p1 = some A4 ∧
 LdSl B h A4 fun a6 n7 c8 h9 =>
 C_slices_Clone_s_draft_entry_int_draft_entry_int B a6 n7 c8 h9 (fun a11 n12 c13 h10 =>
 ∀ k14 : Nat, h10 k14 = none → B k14 = none → ∀ h15 : Heap, h15 = Heap.set h10 k14 (.vec 151 (plains [(Value.slice a11 n12 c13)]) 1) →
 Fin B h15 (Q (some ⟨k14, 0, none⟩))))
def S_sheet_Sheet_Copy (B : RO) (p1 : Option Addr) (h : Heap) (Q : Option Addr → Heap → Prop) : Prop :=
 (p1 = none →
 Fin B h (Q none)) ∧ (¬ (p1 = none) →
 ∃ A4 : Addr, p1 = some A4 ∧
 ∃ p6 : Option Addr, cellH B h A4 = some (Value.pointer p6) ∧
 C_draft_Draft_file_File_Copy B p6 h (fun p8 h7 =>
 ∀ k9 : Nat, h7 k9 = none → B k9 = none → ∀ h10 : Heap, h10 = Heap.set h7 k9 (.vec 166 (plains [(Value.pointer p8)]) 1) →
 Fin B h10 (Q (some ⟨k9, 0, none⟩))))
def S_cursor_Cursor_Copy (B : RO) (p1 : Option Addr) (h : Heap) (Q : Option Addr → Heap → Prop) : Prop :=
 (p1 = none →
 Fin B h (Q none)) ∧ (¬ (p1 = none) →
 ∃ A4 : Addr, p1 = some A4 ∧
 ∃ i6 : Int, ∃ i7 : Int, ∃ i8 : Int, CellsAt B h A4 0 [(Value.int .i64 (i6)), (Value.int .i64 (i7)), (Value.int .i64 (i8))] ∧
 ∀ k9 : Nat, h k9 = none → B k9 = none → ∀ h10 : Heap, h10 = Heap.set h k9 (.vec 154 (plains [(Value.int .i64 (0)), (Value.int .i64 (0)), (Value.int .i64 (0))]) 3) →
 ∃ h11 : Heap, StoresAt ⟨k9, 0, none⟩ h10 0 [(Value.int .i64 (i6)), (Value.int .i64 (i7)), (Value.int .i64 (i8))] h11 ∧
 Fin B h11 (Q (some ⟨k9, 0, none⟩)))
def S_slices_Clone_s_draft_entry_int_draft_entry_int (B : RO) (a1 : Option Addr) (n2 : Nat) (c3 : Nat) (h : Heap) (Q : Option Addr → Nat → Nat → Heap → Prop) : Prop :=
 (a1 = none →
 Fin B h (Q none 0 0)) ∧ (¬ (a1 = none) →
 ∀ k8 : Nat, h k8 = none → B k8 = none → ∀ h9 : Heap, h9 = Heap.set h k8 (.vec 170 [] 0) →
 semH PG B (Builtin.append_ #[149, 149] 149 #[(Value.slice (some ⟨k8, 0, none⟩) 0 0), (Value.slice a1 n2 c3)]) h9 (fun v h10 => ∃ a11 : Option Addr, ∃ n12 : Nat, ∃ c13 : Nat, v = (Value.slice a11 n12 c13) ∧
 Fin B h10 (Q a11 n12 c13)))
def S_draft_Draft_file_File_Copy (B : RO) (p1 : Option Addr) (h : Heap) (Q : Option Addr → Heap → Prop) : Prop :=
 (p1 = none →
 Fin B h (Q none)) ∧ (¬ (p1 = none) →
 ∃ A4 : Addr, p1 = some A4 ∧
 LdSl B h A4 fun a6 n7 c8 h9 =>
 C_slices_Clone_s_draft_entry_file_File_draft_entry_file_File B a6 n7 c8 h9 (fun a11 n12 c13 h10 =>
 ∀ k14 : Nat, h10 k14 = none → B k14 = none → ∀ h15 : Heap, h15 = Heap.set h10 k14 (.vec 164 (plains [(Value.slice a11 n12 c13)]) 1) →
 Fin B h15 (Q (some ⟨k14, 0, none⟩))))
def S_slices_Clone_s_draft_entry_file_File_draft_entry_file_File (B : RO) (a1 : Option Addr) (n2 : Nat) (c3 : Nat) (h : Heap) (Q : Option Addr → Nat → Nat → Heap → Prop) : Prop :=
 (a1 = none →
 Fin B h (Q none 0 0)) ∧ (¬ (a1 = none) →
 ∀ k8 : Nat, h k8 = none → B k8 = none → ∀ h9 : Heap, h9 = Heap.set h k8 (.vec 176 [] 0) →
 semH PG B (Builtin.append_ #[162, 162] 162 #[(Value.slice (some ⟨k8, 0, none⟩) 0 0), (Value.slice a1 n2 c3)]) h9 (fun v h10 => ∃ a11 : Option Addr, ∃ n12 : Nat, ∃ c13 : Nat, v = (Value.slice a11 n12 c13) ∧
 Fin B h10 (Q a11 n12 c13)))
end Go.Proofs.Ythlnibaechobmaa.H
