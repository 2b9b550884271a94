/- What each function asks. No condition. -/
import Derived.Test.YthlnibaechobmaaXdF
namespace Go.Proofs.Ythlnibaechobmaa.H
open Go
set_option linter.unusedVariables false
set_option maxRecDepth 100000

def S_countermandlaw16_ActsNothing_J3 (B : RO) (k14 : Nat) (a19 : Option Addr) (n20 : Nat) (c21 : Nat) (i22 : Int) (m24 : Nat) (J27 : Int → Nat → Heap → Prop) (k33 : Nat) (h37 : Heap) (Q : Bool → Heap → Prop) : Prop :=
 ∃ i38 : Int, cellH B h37 ⟨k33, 0, none⟩ = some (Value.int .i64 (i38)) ∧
 0 ≤ (i38 : Int) ∧ (i38 : Int) < (4 : Nat) ∧
 ∃ i39 : Int, cellH B h37 (Addr.add ⟨k14, 0, none⟩ (Int.toNat (i38) * 1)) = some (Value.int .i64 (i39)) ∧
 ∃ i40 : Int, cellH B h37 ⟨k33, 1, none⟩ = some (Value.int .i64 (i40)) ∧
 0 ≤ (i38 : Int) ∧ (i38 : Int) < (4 : Nat) ∧
 ∃ h41 : Heap, storeH h37 (Addr.add ⟨k14, 0, none⟩ (Int.toNat (i38) * 1)) (Value.int .i64 (IntKind.wrap .i64 ((i39) + (i40)))) = some h41 ∧
 Fin B h41 (fun h' => ∃ m', m' < m24 ∧ J27 (IntKind.wrap .i64 ((i22) + (1))) m' h')
def S_countermandlaw16_ActsNothing_J2 (B : RO) (k12 : Nat) (k14 : Nat) (h17 : Heap) (Q : Bool → Heap → Prop) : Prop :=
 C_acts_Acts_Undo B (some ⟨k12, 0, none⟩) h17 (fun a19 n20 c21 h18 =>
 ∃ (J27 : Int → Nat → Heap → Prop) (m25 : Nat), Fin B h18 (J27 (0) m25) ∧
 ∀ (i22 : Int) (m24 : Nat) (h23 : Heap), J27 i22 m24 h23 →
 ((i22 : Int) < ((n20 : Nat)) →
 ∃ A29 : Addr, a19 = some A29 ∧ 0 ≤ (i22 : Int) ∧ (i22 : Int) < (n20 : Nat) ∧
 ∃ i31 : Int, ∃ i32 : Int, CellsAt B h23 (Addr.add A29 (Int.toNat (i22) * 2)) 0 [(Value.int .i64 (i31)), (Value.int .i64 (i32))] ∧
 ∀ k33 : Nat, h23 k33 = none → B k33 = none → ∀ h34 : Heap, h34 = Heap.set h23 k33 (.vec 72 (plains [(Value.int .i64 (0)), (Value.int .i64 (0))]) 2) →
 ∃ h35 : Heap, StoresAt ⟨k33, 0, none⟩ h34 0 [(Value.int .i64 (i31)), (Value.int .i64 (i32))] h35 ∧
 ∃ i42 : Int, cellH B h35 ⟨k33, 0, none⟩ = some (Value.int .i64 (i42)) ∧
 ((i42 : Int) < (0) →
 Fin B h35 (Q (false))) ∧ (¬ ((i42 : Int) < (0)) →
 ∃ i44 : Int, cellH B h35 ⟨k33, 0, none⟩ = some (Value.int .i64 (i44)) ∧
 ((i44 : Int) > (3) →
 Fin B h35 (Q (false))) ∧ (¬ ((i44 : Int) > (3)) →
 Fin B h35 (fun h' => S_countermandlaw16_ActsNothing_J3 B k14 a19 n20 c21 i22 m24 J27 k33 h' Q)))) ∧ (¬ ((i22 : Int) < ((n20 : Nat))) →
 ∃ i46 : Int, ∃ i47 : Int, ∃ i48 : Int, ∃ i49 : Int, CellsAt B h23 ⟨k14, 0, none⟩ 0 [(Value.int .i64 (i46)), (Value.int .i64 (i47)), (Value.int .i64 (i48)), (Value.int .i64 (i49))] ∧
 Fin B h23 (Q ((decide (eqL [(Value.int .i64 (i46)), (Value.int .i64 (i47)), (Value.int .i64 (i48)), (Value.int .i64 (i49))] [(Value.int .i64 (0)), (Value.int .i64 (0)), (Value.int .i64 (0)), (Value.int .i64 (0))] = true))))))
def S_countermandlaw16_ActsNothing_J7 (B : RO) (a1 : Option Addr) (n2 : Nat) (c3 : Nat) (a4 : Option Addr) (n5 : Nat) (c6 : Nat) (k12 : Nat) (k14 : Nat) (i50 : Int) (a89 : Option Addr) (n90 : Nat) (c91 : Nat) (i92 : Int) (m94 : Nat) (J97 : Int → Nat → Heap → Prop) (k103 : Nat) (h107 : Heap) (Q : Bool → Heap → Prop) : Prop :=
 ∃ i108 : Int, cellH B h107 ⟨k103, 0, none⟩ = some (Value.int .i64 (i108)) ∧
 0 ≤ (i108 : Int) ∧ (i108 : Int) < (4 : Nat) ∧
 ∃ i109 : Int, cellH B h107 (Addr.add ⟨k14, 0, none⟩ (Int.toNat (i108) * 1)) = some (Value.int .i64 (i109)) ∧
 ∃ i110 : Int, cellH B h107 ⟨k103, 1, none⟩ = some (Value.int .i64 (i110)) ∧
 0 ≤ (i108 : Int) ∧ (i108 : Int) < (4 : Nat) ∧
 ∃ h111 : Heap, storeH h107 (Addr.add ⟨k14, 0, none⟩ (Int.toNat (i108) * 1)) (Value.int .i64 (IntKind.wrap .i64 ((i109) + (i110)))) = some h111 ∧
 Fin B h111 (fun h' => ∃ m', m' < m94 ∧ J97 (IntKind.wrap .i64 ((i92) + (1))) m' h')
def S_countermandlaw16_ActsNothing_J6 (B : RO) (a1 : Option Addr) (n2 : Nat) (c3 : Nat) (a4 : Option Addr) (n5 : Nat) (c6 : Nat) (k12 : Nat) (k14 : Nat) (i50 : Int) (m52 : Nat) (J55 : Int → Nat → Heap → Prop) (b69 : Bool) (h70 : Heap) (Q : Bool → Heap → Prop) : Prop :=
 (b69 = true →
 C_acts_Acts_Mark B (some ⟨k12, 0, none⟩) h70 (fun i72 i73 i74 i75 h71 =>
 ∀ k76 : Nat, h71 k76 = none → B k76 = none → ∀ h77 : Heap, h77 = Heap.set h71 k76 (.vec 73 (plains [(Value.int .i64 (0)), (Value.int .i64 (0)), (Value.int .i64 (0)), (Value.int .i64 (0))]) 4) →
 ∃ h78 : Heap, StoresAt ⟨k76, 0, none⟩ h77 0 [(Value.int .i64 (i72)), (Value.int .i64 (i73)), (Value.int .i64 (i74)), (Value.int .i64 (i75))] h78 ∧
 ∃ A79 : Addr, a4 = some A79 ∧ 0 ≤ (i50 : Int) ∧ (i50 : Int) < (n5 : Nat) ∧
 ∃ i81 : Int, cellH B h78 (Addr.add A79 (Int.toNat (i50) * 1)) = some (Value.int .i64 (i81)) ∧
 0 ≤ (3 : Int) ∧ (3 : Int) < (4 : Nat) ∧
 ∃ i82 : Int, cellH B h78 ⟨k76, 3, none⟩ = some (Value.int .i64 (i82)) ∧
 0 ≤ (3 : Int) ∧ (3 : Int) < (4 : Nat) ∧
 ∃ h83 : Heap, storeH h78 ⟨k76, 3, none⟩ (Value.int .i64 (if (i82 : Int) < (i81) then (i82 : Int) else (i81))) = some h83 ∧
 ∃ i84 : Int, ∃ i85 : Int, ∃ i86 : Int, ∃ i87 : Int, CellsAt B h83 ⟨k76, 0, none⟩ 0 [(Value.int .i64 (i84)), (Value.int .i64 (i85)), (Value.int .i64 (i86)), (Value.int .i64 (i87))] ∧
 C_acts_Acts_Back B (some ⟨k12, 0, none⟩) (i84) (i85) (i86) (i87) h83 (fun a89 n90 c91 h88 =>
 ∃ (J97 : Int → Nat → Heap → Prop) (m95 : Nat), Fin B h88 (J97 (0) m95) ∧
 ∀ (i92 : Int) (m94 : Nat) (h93 : Heap), J97 i92 m94 h93 →
 ((i92 : Int) < ((n90 : Nat)) →
 ∃ A99 : Addr, a89 = some A99 ∧ 0 ≤ (i92 : Int) ∧ (i92 : Int) < (n90 : Nat) ∧
 ∃ i101 : Int, ∃ i102 : Int, CellsAt B h93 (Addr.add A99 (Int.toNat (i92) * 2)) 0 [(Value.int .i64 (i101)), (Value.int .i64 (i102))] ∧
 ∀ k103 : Nat, h93 k103 = none → B k103 = none → ∀ h104 : Heap, h104 = Heap.set h93 k103 (.vec 72 (plains [(Value.int .i64 (0)), (Value.int .i64 (0))]) 2) →
 ∃ h105 : Heap, StoresAt ⟨k103, 0, none⟩ h104 0 [(Value.int .i64 (i101)), (Value.int .i64 (i102))] h105 ∧
 ∃ i112 : Int, cellH B h105 ⟨k103, 0, none⟩ = some (Value.int .i64 (i112)) ∧
 ((i112 : Int) < (0) →
 Fin B h105 (Q (false))) ∧ (¬ ((i112 : Int) < (0)) →
 ∃ i114 : Int, cellH B h105 ⟨k103, 0, none⟩ = some (Value.int .i64 (i114)) ∧
 ((i114 : Int) > (3) →
 Fin B h105 (Q (false))) ∧ (¬ ((i114 : Int) > (3)) →
 Fin B h105 (fun h' => S_countermandlaw16_ActsNothing_J7 B a1 n2 c3 a4 n5 c6 k12 k14 i50 a89 n90 c91 i92 m94 J97 k103 h' Q)))) ∧ (¬ ((i92 : Int) < ((n90 : Nat))) →
 Fin B h93 (fun h' => ∃ m', m' < m52 ∧ J55 (IntKind.wrap .i64 ((i50) + (1))) m' h'))))) ∧ (b69 = false →
 Fin B h70 (fun h' => ∃ m', m' < m52 ∧ J55 (IntKind.wrap .i64 ((i50) + (1))) m' h'))
def S_countermandlaw16_ActsNothing_J5 (B : RO) (a1 : Option Addr) (n2 : Nat) (c3 : Nat) (a4 : Option Addr) (n5 : Nat) (c6 : Nat) (k12 : Nat) (k14 : Nat) (i50 : Int) (m52 : Nat) (J55 : Int → Nat → Heap → Prop) (h67 : Heap) (Q : Bool → Heap → Prop) : Prop :=
 ((i50 : Int) < ((n5 : Nat)) →
 ∃ A117 : Addr, a4 = some A117 ∧ 0 ≤ (i50 : Int) ∧ (i50 : Int) < (n5 : Nat) ∧
 ∃ i119 : Int, cellH B h67 (Addr.add A117 (Int.toNat (i50) * 1)) = some (Value.int .i64 (i119)) ∧
 ((i119 : Int) ≥ (0) →
 Fin B h67 (fun h' => S_countermandlaw16_ActsNothing_J6 B a1 n2 c3 a4 n5 c6 k12 k14 i50 m52 J55 (true) h' Q)) ∧ (¬ ((i119 : Int) ≥ (0)) →
 Fin B h67 (fun h' => S_countermandlaw16_ActsNothing_J6 B a1 n2 c3 a4 n5 c6 k12 k14 i50 m52 J55 (false) h' Q))) ∧ (¬ ((i50 : Int) < ((n5 : Nat))) →
 Fin B h67 (fun h' => S_countermandlaw16_ActsNothing_J6 B a1 n2 c3 a4 n5 c6 k12 k14 i50 m52 J55 (false) h' Q))
def S_countermandlaw16_ActsNothing_J8 (B : RO) (a1 : Option Addr) (n2 : Nat) (c3 : Nat) (a4 : Option Addr) (n5 : Nat) (c6 : Nat) (k12 : Nat) (k14 : Nat) (i50 : Int) (m52 : Nat) (J55 : Int → Nat → Heap → Prop) (k61 : Nat) (h126 : Heap) (Q : Bool → Heap → Prop) : Prop :=
 ∃ i127 : Int, cellH B h126 ⟨k61, 0, none⟩ = some (Value.int .i64 (i127)) ∧
 0 ≤ (i127 : Int) ∧ (i127 : Int) < (4 : Nat) ∧
 ∃ i128 : Int, cellH B h126 (Addr.add ⟨k14, 0, none⟩ (Int.toNat (i127) * 1)) = some (Value.int .i64 (i128)) ∧
 ∃ i129 : Int, cellH B h126 ⟨k61, 1, none⟩ = some (Value.int .i64 (i129)) ∧
 0 ≤ (i127 : Int) ∧ (i127 : Int) < (4 : Nat) ∧
 ∃ h130 : Heap, storeH h126 (Addr.add ⟨k14, 0, none⟩ (Int.toNat (i127) * 1)) (Value.int .i64 (IntKind.wrap .i64 ((i128) + (i129)))) = some h130 ∧
 Fin B h130 (fun h' => S_countermandlaw16_ActsNothing_J5 B a1 n2 c3 a4 n5 c6 k12 k14 i50 m52 J55 h' Q)
def S_countermandlaw16_ActsNothing_J4 (B : RO) (a1 : Option Addr) (n2 : Nat) (c3 : Nat) (a4 : Option Addr) (n5 : Nat) (c6 : Nat) (k12 : Nat) (k14 : Nat) (i50 : Int) (m52 : Nat) (J55 : Int → Nat → Heap → Prop) (k61 : Nat) (h65 : Heap) (Q : Bool → Heap → Prop) : Prop :=
 ∃ i121 : Int, cellH B h65 ⟨k61, 0, none⟩ = some (Value.int .i64 (i121)) ∧
 ∃ i122 : Int, cellH B h65 ⟨k61, 1, none⟩ = some (Value.int .i64 (i122)) ∧
 C_acts_Acts_Opened B (some ⟨k12, 0, none⟩) (i121) (i122) h65 (fun b124 h123 =>
 (b124 = true →
 ∃ i131 : Int, cellH B h123 ⟨k61, 0, none⟩ = some (Value.int .i64 (i131)) ∧
 ((i131 : Int) < (0) →
 Fin B h123 (Q (false))) ∧ (¬ ((i131 : Int) < (0)) →
 ∃ i133 : Int, cellH B h123 ⟨k61, 0, none⟩ = some (Value.int .i64 (i133)) ∧
 ((i133 : Int) > (3) →
 Fin B h123 (Q (false))) ∧ (¬ ((i133 : Int) > (3)) →
 Fin B h123 (fun h' => S_countermandlaw16_ActsNothing_J8 B a1 n2 c3 a4 n5 c6 k12 k14 i50 m52 J55 k61 h' Q)))) ∧ (b124 = false →
 Fin B h123 (fun h' => S_countermandlaw16_ActsNothing_J5 B a1 n2 c3 a4 n5 c6 k12 k14 i50 m52 J55 h' Q)))
def S_countermandlaw16_ActsNothing_J1 (B : RO) (a1 : Option Addr) (n2 : Nat) (c3 : Nat) (a4 : Option Addr) (n5 : Nat) (c6 : Nat) (h11 : Heap) (Q : Bool → Heap → Prop) : Prop :=
 ∀ k12 : Nat, h11 k12 = none → B k12 = none → ∀ h13 : Heap, h13 = Heap.set h11 k12 (.vec 69 (plains [(Value.slice none 0 0), (Value.slice none 0 0), (Value.slice none 0 0), (Value.slice none 0 0)]) 4) →
 ∀ k14 : Nat, h13 k14 = none → B k14 = none → ∀ h15 : Heap, h15 = Heap.set h13 k14 (.vec 70 (plains [(Value.int .i64 (0)), (Value.int .i64 (0)), (Value.int .i64 (0)), (Value.int .i64 (0))]) 4) →
 ∃ (J55 : Int → Nat → Heap → Prop) (m53 : Nat), Fin B h15 (J55 (0) m53) ∧
 ∀ (i50 : Int) (m52 : Nat) (h51 : Heap), J55 i50 m52 h51 →
 ((i50 : Int) < ((n2 : Nat)) →
 ∃ A57 : Addr, a1 = some A57 ∧ 0 ≤ (i50 : Int) ∧ (i50 : Int) < (n2 : Nat) ∧
 ∃ i59 : Int, ∃ i60 : Int, CellsAt B h51 (Addr.add A57 (Int.toNat (i50) * 2)) 0 [(Value.int .i64 (i59)), (Value.int .i64 (i60))] ∧
 ∀ k61 : Nat, h51 k61 = none → B k61 = none → ∀ h62 : Heap, h62 = Heap.set h51 k61 (.vec 72 (plains [(Value.int .i64 (0)), (Value.int .i64 (0))]) 2) →
 ∃ h63 : Heap, StoresAt ⟨k61, 0, none⟩ h62 0 [(Value.int .i64 (i59)), (Value.int .i64 (i60))] h63 ∧
 ∃ i135 : Int, cellH B h63 ⟨k61, 1, none⟩ = some (Value.int .i64 (i135)) ∧
 ((i135 : Int) < ((-1099511627776)) →
 Fin B h63 (Q (true))) ∧ (¬ ((i135 : Int) < ((-1099511627776))) →
 ∃ i137 : Int, cellH B h63 ⟨k61, 1, none⟩ = some (Value.int .i64 (i137)) ∧
 ((i137 : Int) > (1099511627776) →
 Fin B h63 (Q (true))) ∧ (¬ ((i137 : Int) > (1099511627776)) →
 Fin B h63 (fun h' => S_countermandlaw16_ActsNothing_J4 B a1 n2 c3 a4 n5 c6 k12 k14 i50 m52 J55 k61 h' Q)))) ∧ (¬ ((i50 : Int) < ((n2 : Nat))) →
 Fin B h51 (fun h' => S_countermandlaw16_ActsNothing_J2 B k12 k14 h' Q))
def S_countermandlaw16_ActsNothing (B : RO) (a1 : Option Addr) (n2 : Nat) (c3 : Nat) (a4 : Option Addr) (n5 : Nat) (c6 : Nat) (h : Heap) (Q : Bool → Heap → Prop) : Prop :=
 C_countermandlaw16_alive B h (fun b9 h8 =>
 (b9 = true →
 (((n2 : Nat) : Int) > (80) →
 Fin B h8 (Q (true))) ∧ (¬ (((n2 : Nat) : Int) > (80)) →
 (((n5 : Nat) : Int) > (80) →
 Fin B h8 (Q (true))) ∧ (¬ (((n5 : Nat) : Int) > (80)) →
 Fin B h8 (fun h' => S_countermandlaw16_ActsNothing_J1 B a1 n2 c3 a4 n5 c6 h' Q)))) ∧ (b9 = false →
 Fin B h8 (Q (false))))
def S_countermandlaw16_alive_J1 (B : RO) (k2 : Nat) (h5 : Heap) (Q : Bool → Heap → Prop) : Prop :=
 C_acts_Acts_Undo B (some ⟨k2, 0, none⟩) h5 (fun a7 n8 c9 h6 =>
 (((n8 : Nat) : Int) = 2 →
 ∃ A11 : Addr, a7 = some A11 ∧ 0 ≤ (0 : Int) ∧ (0 : Int) < (n8 : Nat) ∧
 ∃ i13 : Int, ∃ i14 : Int, CellsAt B h6 (Addr.add A11 (Int.toNat (0) * 2)) 0 [(Value.int .i64 (i13)), (Value.int .i64 (i14))] ∧
 Fin B h6 (Q ((decide (eqL [(Value.int .i64 (i13)), (Value.int .i64 (i14))] [(Value.int .i64 (2)), (Value.int .i64 ((-3)))] = true))))) ∧ (¬ (((n8 : Nat) : Int) = 2) →
 Fin B h6 (Q (false))))
def S_countermandlaw16_alive (B : RO) (h : Heap) (Q : Bool → Heap → Prop) : Prop :=
 ∀ k2 : Nat, h k2 = none → B k2 = none → ∀ h3 : Heap, h3 = Heap.set h k2 (.vec 69 (plains [(Value.slice none 0 0), (Value.slice none 0 0), (Value.slice none 0 0), (Value.slice none 0 0)]) 4) →
 C_acts_Acts_Opened B (some ⟨k2, 0, none⟩) (1) (5) h3 (fun b16 h15 =>
 (b16 = true →
 C_acts_Acts_Opened B (some ⟨k2, 0, none⟩) (2) (3) h15 (fun b18 h17 =>
 (b18 = true →
 Fin B h17 (fun h' => S_countermandlaw16_alive_J1 B k2 h' Q)) ∧ (b18 = false →
 Fin B h17 (Q (false))))) ∧ (b16 = false →
 Fin B h15 (Q (false))))
def S_acts_Acts_Opened_J1 (B : RO) (p1 : Option Addr) (i2 : Int) (i3 : Int) (h6 : Heap) (Q : Bool → Heap → Prop) : Prop :=
 ∃ A7 : Addr, p1 = some A7 ∧
 LdSl B h6 (Addr.add A7 3) fun a9 n10 c11 h12 =>
 ∀ k13 : Nat, h12 k13 = none → B k13 = none → ∀ h14 : Heap, h14 = Heap.set h12 k13 (.vec 72 (plains [(Value.int .i64 (i2)), (Value.int .i64 (i3))]) 2) →
 semH PG B (Builtin.append_ #[64, 64] 64 #[(Value.slice a9 n10 c11), (Value.slice (some ⟨k13, 0, none⟩) 1 1)]) h14 (fun v h15 => ∃ a16 : Option Addr, ∃ n17 : Nat, ∃ c18 : Nat, v = (Value.slice a16 n17 c18) ∧
 ∃ A19 : Addr, p1 = some A19 ∧
 ∃ h21 : Heap, storeH h15 (Addr.add A19 3) (Value.slice a16 n17 c18) = some h21 ∧
 Fin B h21 (Q (true)))
def S_acts_Acts_Opened (B : RO) (p1 : Option Addr) (i2 : Int) (i3 : Int) (h : Heap) (Q : Bool → Heap → Prop) : Prop :=
 (p1 = none →
 Fin B h (Q (false))) ∧ (¬ (p1 = none) →
 ((i2 : Int) < (0) →
 Fin B h (Q (false))) ∧ (¬ ((i2 : Int) < (0)) →
 ((i2 : Int) ≥ (4) →
 Fin B h (Q (false))) ∧ (¬ ((i2 : Int) ≥ (4)) →
 Fin B h (fun h' => S_acts_Acts_Opened_J1 B p1 i2 i3 h' Q))))
def S_acts_Acts_Mark (B : RO) (p1 : Option Addr) (h : Heap) (Q : Int → Int → Int → Int → Heap → Prop) : Prop :=
 ∀ k6 : Nat, h k6 = none → B k6 = none → ∀ h7 : Heap, h7 = Heap.set h k6 (.vec 73 (plains [(Value.int .i64 (0)), (Value.int .i64 (0)), (Value.int .i64 (0)), (Value.int .i64 (0))]) 4) →
 (p1 = none →
 ∃ h9 : Heap, StoresAt ⟨k6, 0, none⟩ h7 0 [(Value.int .i64 (0)), (Value.int .i64 (0)), (Value.int .i64 (0)), (Value.int .i64 (0))] h9 ∧
 ∃ i10 : Int, ∃ i11 : Int, ∃ i12 : Int, ∃ i13 : Int, CellsAt B h9 ⟨k6, 0, none⟩ 0 [(Value.int .i64 (i10)), (Value.int .i64 (i11)), (Value.int .i64 (i12)), (Value.int .i64 (i13))] ∧ Fin B h9 (Q (i10) (i11) (i12) (i13))) ∧ (¬ (p1 = none) →
 ∃ A14 : Addr, p1 = some A14 ∧
 ∃ a16 : Option Addr, ∃ n17 : Nat, ∃ c18 : Nat, cellH B h7 A14 = some (Value.slice a16 n17 c18) ∧
 ∃ A19 : Addr, p1 = some A19 ∧
 ∃ a21 : Option Addr, ∃ n22 : Nat, ∃ c23 : Nat, cellH B h7 (Addr.add A19 1) = some (Value.slice a21 n22 c23) ∧
 ∃ A24 : Addr, p1 = some A24 ∧
 ∃ a26 : Option Addr, ∃ n27 : Nat, ∃ c28 : Nat, cellH B h7 (Addr.add A24 2) = some (Value.slice a26 n27 c28) ∧
 ∃ A29 : Addr, p1 = some A29 ∧
 ∃ a31 : Option Addr, ∃ n32 : Nat, ∃ c33 : Nat, cellH B h7 (Addr.add A29 3) = some (Value.slice a31 n32 c33) ∧
 ∃ h34 : Heap, StoresAt ⟨k6, 0, none⟩ h7 0 [(Value.int .i64 ((n17 : Nat))), (Value.int .i64 ((n22 : Nat))), (Value.int .i64 ((n27 : Nat))), (Value.int .i64 ((n32 : Nat)))] h34 ∧
 ∃ i35 : Int, ∃ i36 : Int, ∃ i37 : Int, ∃ i38 : Int, CellsAt B h34 ⟨k6, 0, none⟩ 0 [(Value.int .i64 (i35)), (Value.int .i64 (i36)), (Value.int .i64 (i37)), (Value.int .i64 (i38))] ∧ Fin B h34 (Q (i35) (i36) (i37) (i38)))
def S_acts_Acts_Back (B : RO) (p1 : Option Addr) (i2 : Int) (i3 : Int) (i4 : Int) (i5 : Int) (h : Heap) (Q : Option Addr → Nat → Nat → Heap → Prop) : Prop :=
 ∀ k9 : Nat, h k9 = none → B k9 = none → ∀ h10 : Heap, h10 = Heap.set h k9 (.vec 73 (plains [(Value.int .i64 (i2)), (Value.int .i64 (i3)), (Value.int .i64 (i4)), (Value.int .i64 (i5))]) 4) →
 (p1 = none →
 Fin B h10 (Q none 0 0)) ∧ (¬ (p1 = none) →
 ∃ A14 : Addr, p1 = some A14 ∧
 ∃ a18 : Option Addr, ∃ n19 : Nat, ∃ c20 : Nat, cellH B h10 A14 = some (Value.slice a18 n19 c20) ∧
 0 ≤ (0 : Int) ∧ (0 : Int) < (4 : Nat) ∧
 ∃ i25 : Int, cellH B h10 ⟨k9, 0, none⟩ = some (Value.int .i64 (i25)) ∧
 C_acts_first_acts_Out B a18 n19 c20 (i25) h10 (fun a28 n29 c30 h27 =>
 cellH B h27 A14 = some (Value.slice a18 n19 c20) ∧ cellH B h27 ⟨k9, 0, none⟩ = some (Value.int .i64 (i25)) ∧
 ∃ A33 : Addr, p1 = some A33 ∧
 ∃ h35 : Heap, storeH h27 A33 (Value.slice a28 n29 c30) = some h35 ∧
 ∃ A38 : Addr, p1 = some A38 ∧
 ∃ a42 : Option Addr, ∃ n43 : Nat, ∃ c44 : Nat, cellH B h35 (Addr.add A38 1) = some (Value.slice a42 n43 c44) ∧
 0 ≤ (1 : Int) ∧ (1 : Int) < (4 : Nat) ∧
 ∃ i49 : Int, cellH B h35 ⟨k9, 1, none⟩ = some (Value.int .i64 (i49)) ∧
 C_acts_first_acts_Out B a42 n43 c44 (i49) h35 (fun a52 n53 c54 h51 =>
 cellH B h51 (Addr.add A38 1) = some (Value.slice a42 n43 c44) ∧ cellH B h51 ⟨k9, 1, none⟩ = some (Value.int .i64 (i49)) ∧
 ∃ A57 : Addr, p1 = some A57 ∧
 ∃ h59 : Heap, storeH h51 (Addr.add A57 1) (Value.slice a52 n53 c54) = some h59 ∧
 ∃ A62 : Addr, p1 = some A62 ∧
 ∃ a66 : Option Addr, ∃ n67 : Nat, ∃ c68 : Nat, cellH B h59 (Addr.add A62 2) = some (Value.slice a66 n67 c68) ∧
 0 ≤ (2 : Int) ∧ (2 : Int) < (4 : Nat) ∧
 ∃ i73 : Int, cellH B h59 ⟨k9, 2, none⟩ = some (Value.int .i64 (i73)) ∧
 C_acts_first_int B a66 n67 c68 (i73) h59 (fun a76 n77 c78 h75 =>
 cellH B h75 (Addr.add A62 2) = some (Value.slice a66 n67 c68) ∧ cellH B h75 ⟨k9, 2, none⟩ = some (Value.int .i64 (i73)) ∧
 ∃ A81 : Addr, p1 = some A81 ∧
 ∃ h83 : Heap, storeH h75 (Addr.add A81 2) (Value.slice a76 n77 c78) = some h83 ∧
 ∃ A85 : Addr, p1 = some A85 ∧
 ∃ a89 : Option Addr, ∃ n90 : Nat, ∃ c91 : Nat, cellH B h83 (Addr.add A85 3) = some (Value.slice a89 n90 c91) ∧
 0 ≤ (3 : Int) ∧ (3 : Int) < (4 : Nat) ∧
 ∃ i96 : Int, cellH B h83 ⟨k9, 3, none⟩ = some (Value.int .i64 (i96)) ∧
 C_acts_first_acts_Open B a89 n90 c91 (i96) h83 (fun a99 n100 c101 h98 =>
 cellH B h98 (Addr.add A85 3) = some (Value.slice a89 n90 c91) ∧ cellH B h98 ⟨k9, 3, none⟩ = some (Value.int .i64 (i96)) ∧
 ∃ A104 : Addr, p1 = some A104 ∧
 LdSl B h98 (Addr.add A104 3) fun a106 n107 c108 h109 =>
 0 ≤ ((n100 : Nat) : Int) ∧ ((n100 : Nat) : Int) ≤ ((n107 : Nat) : Int) ∧ ((n107 : Nat) : Int) ≤ (c108 : Nat) ∧
 C_acts_undo B (if c108 = Int.toNat ((n100 : Nat)) then a106 else Option.map (·.add (Int.toNat ((n100 : Nat)) * 2)) a106) (Int.toNat ((n107 : Nat)) - Int.toNat ((n100 : Nat))) (c108 - Int.toNat ((n100 : Nat))) h109 (fun a111 n112 c113 h110 =>
 ∃ A114 : Addr, p1 = some A114 ∧
 ∃ h116 : Heap, storeH h110 (Addr.add A114 3) (Value.slice a99 n100 c101) = some h116 ∧
 Fin B h116 (Q a111 n112 c113)))))))
def S_acts_Acts_Undo (B : RO) (p1 : Option Addr) (h : Heap) (Q : Option Addr → Nat → Nat → Heap → Prop) : Prop :=
 (p1 = none →
 Fin B h (Q none 0 0)) ∧ (¬ (p1 = none) →
 ∃ A6 : Addr, p1 = some A6 ∧
 LdSl B h (Addr.add A6 3) fun a8 n9 c10 h11 =>
 C_acts_undo B a8 n9 c10 h11 (fun a13 n14 c15 h12 =>
 Fin B h12 (Q a13 n14 c15)))
def S_acts_first_acts_Out (B : RO) (a1 : Option Addr) (n2 : Nat) (c3 : Nat) (i4 : Int) (h : Heap) (Q : Option Addr → Nat → Nat → Heap → Prop) : Prop :=
 0 ≤ (if ((n2 : Nat) : Int) < (if (0 : Int) > (i4) then (0 : Int) else (i4)) then ((n2 : Nat) : Int) else (if (0 : Int) > (i4) then (0 : Int) else (i4)) : Int) ∧ (if ((n2 : Nat) : Int) < (if (0 : Int) > (i4) then (0 : Int) else (i4)) then ((n2 : Nat) : Int) else (if (0 : Int) > (i4) then (0 : Int) else (i4)) : Int) ≤ (if ((n2 : Nat) : Int) < (if (0 : Int) > (i4) then (0 : Int) else (i4)) then ((n2 : Nat) : Int) else (if (0 : Int) > (i4) then (0 : Int) else (i4)) : Int) ∧ (if ((n2 : Nat) : Int) < (if (0 : Int) > (i4) then (0 : Int) else (i4)) then ((n2 : Nat) : Int) else (if (0 : Int) > (i4) then (0 : Int) else (i4)) : Int) ≤ (c3 : Nat) ∧
 Fin B h (Q (if Int.toNat (if ((n2 : Nat) : Int) < (if (0 : Int) > (i4) then (0 : Int) else (i4)) then ((n2 : Nat) : Int) else (if (0 : Int) > (i4) then (0 : Int) else (i4))) = 0 then a1 else Option.map (·.add (0 * 2)) a1) (Int.toNat (if ((n2 : Nat) : Int) < (if (0 : Int) > (i4) then (0 : Int) else (i4)) then ((n2 : Nat) : Int) else (if (0 : Int) > (i4) then (0 : Int) else (i4)))) (Int.toNat (if ((n2 : Nat) : Int) < (if (0 : Int) > (i4) then (0 : Int) else (i4)) then ((n2 : Nat) : Int) else (if (0 : Int) > (i4) then (0 : Int) else (i4)))))
def S_acts_first_int (B : RO) (a1 : Option Addr) (n2 : Nat) (c3 : Nat) (i4 : Int) (h : Heap) (Q : Option Addr → Nat → Nat → Heap → Prop) : Prop :=
 0 ≤ (if ((n2 : Nat) : Int) < (if (0 : Int) > (i4) then (0 : Int) else (i4)) then ((n2 : Nat) : Int) else (if (0 : Int) > (i4) then (0 : Int) else (i4)) : Int) ∧ (if ((n2 : Nat) : Int) < (if (0 : Int) > (i4) then (0 : Int) else (i4)) then ((n2 : Nat) : Int) else (if (0 : Int) > (i4) then (0 : Int) else (i4)) : Int) ≤ (if ((n2 : Nat) : Int) < (if (0 : Int) > (i4) then (0 : Int) else (i4)) then ((n2 : Nat) : Int) else (if (0 : Int) > (i4) then (0 : Int) else (i4)) : Int) ∧ (if ((n2 : Nat) : Int) < (if (0 : Int) > (i4) then (0 : Int) else (i4)) then ((n2 : Nat) : Int) else (if (0 : Int) > (i4) then (0 : Int) else (i4)) : Int) ≤ (c3 : Nat) ∧
 Fin B h (Q (if Int.toNat (if ((n2 : Nat) : Int) < (if (0 : Int) > (i4) then (0 : Int) else (i4)) then ((n2 : Nat) : Int) else (if (0 : Int) > (i4) then (0 : Int) else (i4))) = 0 then a1 else Option.map (·.add (0 * 1)) a1) (Int.toNat (if ((n2 : Nat) : Int) < (if (0 : Int) > (i4) then (0 : Int) else (i4)) then ((n2 : Nat) : Int) else (if (0 : Int) > (i4) then (0 : Int) else (i4)))) (Int.toNat (if ((n2 : Nat) : Int) < (if (0 : Int) > (i4) then (0 : Int) else (i4)) then ((n2 : Nat) : Int) else (if (0 : Int) > (i4) then (0 : Int) else (i4)))))
def S_acts_first_acts_Open (B : RO) (a1 : Option Addr) (n2 : Nat) (c3 : Nat) (i4 : Int) (h : Heap) (Q : Option Addr → Nat → Nat → Heap → Prop) : Prop :=
 0 ≤ (if ((n2 : Nat) : Int) < (if (0 : Int) > (i4) then (0 : Int) else (i4)) then ((n2 : Nat) : Int) else (if (0 : Int) > (i4) then (0 : Int) else (i4)) : Int) ∧ (if ((n2 : Nat) : Int) < (if (0 : Int) > (i4) then (0 : Int) else (i4)) then ((n2 : Nat) : Int) else (if (0 : Int) > (i4) then (0 : Int) else (i4)) : Int) ≤ (if ((n2 : Nat) : Int) < (if (0 : Int) > (i4) then (0 : Int) else (i4)) then ((n2 : Nat) : Int) else (if (0 : Int) > (i4) then (0 : Int) else (i4)) : Int) ∧ (if ((n2 : Nat) : Int) < (if (0 : Int) > (i4) then (0 : Int) else (i4)) then ((n2 : Nat) : Int) else (if (0 : Int) > (i4) then (0 : Int) else (i4)) : Int) ≤ (c3 : Nat) ∧
 Fin B h (Q (if Int.toNat (if ((n2 : Nat) : Int) < (if (0 : Int) > (i4) then (0 : Int) else (i4)) then ((n2 : Nat) : Int) else (if (0 : Int) > (i4) then (0 : Int) else (i4))) = 0 then a1 else Option.map (·.add (0 * 2)) a1) (Int.toNat (if ((n2 : Nat) : Int) < (if (0 : Int) > (i4) then (0 : Int) else (i4)) then ((n2 : Nat) : Int) else (if (0 : Int) > (i4) then (0 : Int) else (i4)))) (Int.toNat (if ((n2 : Nat) : Int) < (if (0 : Int) > (i4) then (0 : Int) else (i4)) then ((n2 : Nat) : Int) else (if (0 : Int) > (i4) then (0 : Int) else (i4)))))
def S_acts_undo (B : RO) (a1 : Option Addr) (n2 : Nat) (c3 : Nat) (h : Heap) (Q : Option Addr → Nat → Nat → Heap → Prop) : Prop :=
 ∀ k7 : Nat, h k7 = none → B k7 = none → ∀ h8 : Heap, h8 = Heap.set h k7 (.vec 64 (plains [(Value.slice none 0 0)]) 1) →
 C_slices_Backward_s_acts_Open_acts_Open B a1 n2 c3 h8 (fun v10 h9 =>
 ∃ (xs18 : List (Int × Int × Int)) (G14 : Heap → Prop) (J17 : Nat → Heap → Prop), Iter PG B v10 (xs18.map (fun x : Int × Int × Int => [(Value.int .i64 (x.1)), (Value.agg #[(Value.int .i64 (x.2.1)), (Value.int .i64 (x.2.2))])])) G14 ∧ Ins G14 ∧ (∀ i h, J17 i h → G14 h) ∧ Fin B h9 (J17 0) ∧
 (∀ (q16 : Nat) (h15 : Heap) (i11 : Int) (i12 : Int) (i13 : Int), xs18[q16]? = some (i11, i12, i13) → J17 q16 h15 →
 ∀ k19 : Nat, h15 k19 = none → B k19 = none → ∀ h20 : Heap, h20 = Heap.set h15 k19 (.vec 72 (plains [(Value.int .i64 (0)), (Value.int .i64 (0))]) 2) →
 ∃ h21 : Heap, StoresAt ⟨k19, 0, none⟩ h20 0 [(Value.int .i64 (i12)), (Value.int .i64 (i13))] h21 ∧
 LdSl B h21 ⟨k7, 0, none⟩ fun a22 n23 c24 h25 =>
 ∃ i26 : Int, cellH B h25 ⟨k19, 0, none⟩ = some (Value.int .i64 (i26)) ∧
 ∃ i27 : Int, cellH B h25 ⟨k19, 1, none⟩ = some (Value.int .i64 (i27)) ∧
 ∀ k28 : Nat, h25 k28 = none → B k28 = none → ∀ h29 : Heap, h29 = Heap.set h25 k28 (.vec 72 (plains [(Value.int .i64 (i26)), (Value.int .i64 (IntKind.wrap .i64 (0 - (i27))))]) 2) →
 semH PG B (Builtin.append_ #[64, 64] 64 #[(Value.slice a22 n23 c24), (Value.slice (some ⟨k28, 0, none⟩) 1 1)]) h29 (fun v h30 => ∃ a31 : Option Addr, ∃ n32 : Nat, ∃ c33 : Nat, v = (Value.slice a31 n32 c33) ∧
 ∃ h34 : Heap, storeH h30 ⟨k7, 0, none⟩ (Value.slice a31 n32 c33) = some h34 ∧
 Fin B h34 (J17 (q16 + 1)))) ∧
 (∀ (h15 : Heap), J17 xs18.length h15 →
 LdSl B h15 ⟨k7, 0, none⟩ fun a35 n36 c37 h38 =>
 Fin B h38 (Q a35 n36 c37)))
def S_slices_Backward_s_acts_Open_acts_Open (B : RO) (a1 : Option Addr) (n2 : Nat) (c3 : Nat) (h : Heap) (Q : Value → Heap → Prop) : Prop :=
 ∀ k5 : Nat, h k5 = none → B k5 = none → ∀ h6 : Heap, h6 = Heap.set h k5 (.vec 64 [.plain (Value.slice a1 n2 c3)] 1) →
 Fin B h6 (Q (Value.func (.func 88) #[] #[(Value.pointer (some ⟨k5, 0, none⟩))]))
def S_slices_Backward_s_acts_Open_acts_Open_1 (B : RO) (v1 : Value) (A2 : Addr) (h : Heap) (Q : Heap → Prop) : Prop :=
 LdSl B h A2 fun a3 n4 c5 h6 =>
 ∃ (J12 : Int → Nat → Heap → Prop) (m10 : Nat), Fin B h6 (J12 (IntKind.wrap .i64 (((n4 : Nat)) - (1))) m10) ∧
 ∀ (i7 : Int) (m9 : Nat) (h8 : Heap), J12 i7 m9 h8 →
 ((i7 : Int) ≥ (0) →
 LdSl B h8 A2 fun a14 n15 c16 h17 =>
 ∃ A18 : Addr, a14 = some A18 ∧ 0 ≤ (i7 : Int) ∧ (i7 : Int) < (n15 : Nat) ∧
 ∃ i20 : Int, ∃ i21 : Int, CellsAt B h17 (Addr.add A18 (Int.toNat (i7) * 2)) 0 [(Value.int .i64 (i20)), (Value.int .i64 (i21))] ∧
 CallV PG B v1 [(Value.int .i64 (i7)), (Value.agg #[(Value.int .i64 (i20)), (Value.int .i64 (i21))])] h17 (fun v h22 => ∃ b23 : Bool, v = (Value.bool b23) ∧
 (b23 = true →
 Fin B h22 (fun h' => ∃ m', m' < m9 ∧ J12 (IntKind.wrap .i64 ((i7) - (1))) m' h')) ∧ (b23 = false →
 Fin B h22 (Q)))) ∧ (¬ ((i7 : Int) ≥ (0)) →
 Fin B h8 (Q))
end Go.Proofs.Ythlnibaechobmaa.H
