/- What each function asks. No condition. -/
import Derived.Test.YtcncdfmnpmmikaaXhF
namespace Go.Proofs.Ytcncdfmnpmmikaa.H
open Go
set_option linter.unusedVariables false
set_option maxRecDepth 100000

def S_countermandlaw14_SheetRenames_J2 (B : RO) (i2 : Int) (i3 : Int) (k5 : Nat) (p11 : Option Addr) (p12 : Option Addr) (h34 : Heap) (Q : Bool → Heap → Prop) : Prop :=
 C_sheet_Sheet_Rename B p12 p11 (i3) (i2) h34 (fun b36 h35 =>
 ∃ (J42 : Int → Nat → Heap → Prop) (m40 : Nat), Fin B h35 (J42 (0) m40) ∧
 ∀ (i37 : Int) (m39 : Nat) (h38 : Heap), J42 i37 m39 h38 →
 ((i37 : Int) < (6) →
 C_sheet_Sheet_Get B p12 p11 (i37) h38 (fun b45 s46 b47 h44 =>
 ∀ k48 : Nat, h44 k48 = none → B k48 = none → ∀ h49 : Heap, h49 = Heap.set h44 k48 (.vec 41 (plains [(Value.bool false), (Value.string ByteArray.empty)]) 2) →
 ∃ h50 : Heap, StoresAt ⟨k48, 0, none⟩ h49 0 [(Value.bool b45), (Value.string s46)] h50 ∧
 ∃ b51 : Bool, ∃ s52 : ByteArray, CellsAt B h50 ⟨k48, 0, none⟩ 0 [(Value.bool b51), (Value.string s52)] ∧
 0 ≤ (i37 : Int) ∧ (i37 : Int) < (6 : Nat) ∧
 ∃ b53 : Bool, ∃ s54 : ByteArray, CellsAt B h50 (Addr.add ⟨k5, 0, none⟩ (Int.toNat (i37) * 2)) 0 [(Value.bool b53), (Value.string s54)] ∧
 (eqL [(Value.bool b51), (Value.string s52)] [(Value.bool b53), (Value.string s54)] = true →
 Fin B h50 (fun h' => ∃ m', m' < m39 ∧ J42 (IntKind.wrap .i64 ((i37) + (1))) m' h')) ∧ (¬ (eqL [(Value.bool b51), (Value.string s52)] [(Value.bool b53), (Value.string s54)] = true) →
 Fin B h50 (Q (false))))) ∧ (¬ ((i37 : Int) < (6)) →
 Fin B h38 (Q (true))))
def S_countermandlaw14_SheetRenames_J1 (B : RO) (i2 : Int) (i3 : Int) (k5 : Nat) (p11 : Option Addr) (p12 : Option Addr) (h16 : Heap) (Q : Bool → Heap → Prop) : Prop :=
 C_sheet_Sheet_Rename B p12 p11 (i2) (i3) h16 (fun b18 h17 =>
 C_sheet_Sheet_Get B p12 p11 (i3) h17 (fun b20 s21 b22 h19 =>
 ∀ k23 : Nat, h19 k23 = none → B k23 = none → ∀ h24 : Heap, h24 = Heap.set h19 k23 (.vec 41 (plains [(Value.bool false), (Value.string ByteArray.empty)]) 2) →
 ∃ h25 : Heap, StoresAt ⟨k23, 0, none⟩ h24 0 [(Value.bool b20), (Value.string s21)] h25 ∧
 C_sheet_Sheet_Get B p12 p11 (i2) h25 (fun b27 s28 b29 h26 =>
 ∀ k30 : Nat, h26 k30 = none → B k30 = none → ∀ h31 : Heap, h31 = Heap.set h26 k30 (.vec 41 (plains [(Value.bool false), (Value.string ByteArray.empty)]) 2) →
 ∃ h32 : Heap, StoresAt ⟨k30, 0, none⟩ h31 0 [(Value.bool b27), (Value.string s28)] h32 ∧
 ∃ b56 : Bool, ∃ s57 : ByteArray, CellsAt B h32 ⟨k23, 0, none⟩ 0 [(Value.bool b56), (Value.string s57)] ∧
 0 ≤ (i2 : Int) ∧ (i2 : Int) < (6 : Nat) ∧
 ∃ b58 : Bool, ∃ s59 : ByteArray, CellsAt B h32 (Addr.add ⟨k5, 0, none⟩ (Int.toNat (i2) * 2)) 0 [(Value.bool b58), (Value.string s59)] ∧
 (eqL [(Value.bool b56), (Value.string s57)] [(Value.bool b58), (Value.string s59)] = true →
 ∃ b61 : Bool, cellH B h32 ⟨k30, 0, none⟩ = some (Value.bool b61) ∧ (b61 = true →
 Fin B h32 (Q (false))) ∧ (b61 = false →
 Fin B h32 (fun h' => S_countermandlaw14_SheetRenames_J2 B i2 i3 k5 p11 p12 h' Q))) ∧ (¬ (eqL [(Value.bool b56), (Value.string s57)] [(Value.bool b58), (Value.string s59)] = true) →
 Fin B h32 (Q (false))))))
def S_countermandlaw14_SheetRenames_J4 (B : RO) (i2 : Int) (i3 : Int) (k5 : Nat) (p11 : Option Addr) (p12 : Option Addr) (h81 : Heap) (Q : Bool → Heap → Prop) : Prop :=
 C_sheet_Sheet_Rename B p12 p11 (i3) (i2) h81 (fun b83 h82 =>
 ∃ (J89 : Int → Nat → Heap → Prop) (m87 : Nat), Fin B h82 (J89 (0) m87) ∧
 ∀ (i84 : Int) (m86 : Nat) (h85 : Heap), J89 i84 m86 h85 →
 ((i84 : Int) < (6) →
 C_sheet_Sheet_Get B p12 p11 (i84) h85 (fun b92 s93 b94 h91 =>
 ∀ k95 : Nat, h91 k95 = none → B k95 = none → ∀ h96 : Heap, h96 = Heap.set h91 k95 (.vec 41 (plains [(Value.bool false), (Value.string ByteArray.empty)]) 2) →
 ∃ h97 : Heap, StoresAt ⟨k95, 0, none⟩ h96 0 [(Value.bool b92), (Value.string s93)] h97 ∧
 ∃ b98 : Bool, ∃ s99 : ByteArray, CellsAt B h97 ⟨k95, 0, none⟩ 0 [(Value.bool b98), (Value.string s99)] ∧
 0 ≤ (i84 : Int) ∧ (i84 : Int) < (6 : Nat) ∧
 ∃ b100 : Bool, ∃ s101 : ByteArray, CellsAt B h97 (Addr.add ⟨k5, 0, none⟩ (Int.toNat (i84) * 2)) 0 [(Value.bool b100), (Value.string s101)] ∧
 (eqL [(Value.bool b98), (Value.string s99)] [(Value.bool b100), (Value.string s101)] = true →
 Fin B h97 (fun h' => ∃ m', m' < m86 ∧ J89 (IntKind.wrap .i64 ((i84) + (1))) m' h')) ∧ (¬ (eqL [(Value.bool b98), (Value.string s99)] [(Value.bool b100), (Value.string s101)] = true) →
 Fin B h97 (Q (false))))) ∧ (¬ ((i84 : Int) < (6)) →
 Fin B h85 (Q (true))))
def S_countermandlaw14_SheetRenames_J3 (B : RO) (i2 : Int) (i3 : Int) (k5 : Nat) (p11 : Option Addr) (p12 : Option Addr) (h63 : Heap) (Q : Bool → Heap → Prop) : Prop :=
 C_sheet_Sheet_Rename B p12 p11 (i2) (i3) h63 (fun b65 h64 =>
 C_sheet_Sheet_Get B p12 p11 (i3) h64 (fun b67 s68 b69 h66 =>
 ∀ k70 : Nat, h66 k70 = none → B k70 = none → ∀ h71 : Heap, h71 = Heap.set h66 k70 (.vec 41 (plains [(Value.bool false), (Value.string ByteArray.empty)]) 2) →
 ∃ h72 : Heap, StoresAt ⟨k70, 0, none⟩ h71 0 [(Value.bool b67), (Value.string s68)] h72 ∧
 C_sheet_Sheet_Get B p12 p11 (i2) h72 (fun b74 s75 b76 h73 =>
 ∀ k77 : Nat, h73 k77 = none → B k77 = none → ∀ h78 : Heap, h78 = Heap.set h73 k77 (.vec 41 (plains [(Value.bool false), (Value.string ByteArray.empty)]) 2) →
 ∃ h79 : Heap, StoresAt ⟨k77, 0, none⟩ h78 0 [(Value.bool b74), (Value.string s75)] h79 ∧
 ∃ b103 : Bool, ∃ s104 : ByteArray, CellsAt B h79 ⟨k70, 0, none⟩ 0 [(Value.bool b103), (Value.string s104)] ∧
 0 ≤ (i2 : Int) ∧ (i2 : Int) < (6 : Nat) ∧
 ∃ b105 : Bool, ∃ s106 : ByteArray, CellsAt B h79 (Addr.add ⟨k5, 0, none⟩ (Int.toNat (i2) * 2)) 0 [(Value.bool b105), (Value.string s106)] ∧
 (eqL [(Value.bool b103), (Value.string s104)] [(Value.bool b105), (Value.string s106)] = true →
 ∃ b108 : Bool, cellH B h79 ⟨k77, 0, none⟩ = some (Value.bool b108) ∧ (b108 = true →
 Fin B h79 (Q (false))) ∧ (b108 = false →
 Fin B h79 (fun h' => S_countermandlaw14_SheetRenames_J4 B i2 i3 k5 p11 p12 h' Q))) ∧ (¬ (eqL [(Value.bool b103), (Value.string s104)] [(Value.bool b105), (Value.string s106)] = true) →
 Fin B h79 (Q (false))))))
def S_countermandlaw14_SheetRenames (B : RO) (l1 : List Value) (i2 : Int) (i3 : Int) (h : Heap) (Q : Bool → Heap → Prop) : Prop :=
 ∀ k5 : Nat, h k5 = none → B k5 = none → ∀ h6 : Heap, h6 = Heap.set h k5 (.vec 71 (plains l1) (List.length l1)) →
 C_countermandlaw14_alive B h6 (fun b8 h7 =>
 (b8 = true →
 ∃ l9 : List Value, List.length l9 = 12 ∧ CellsAt B h7 ⟨k5, 0, none⟩ 0 l9 ∧
 C_countermandlaw14_build B l9 h7 (fun p11 p12 p13 b14 h10 =>
 (b14 = true →
 C_countermandref14_Is B (i2) h10 (fun b110 h109 =>
 (b110 = true →
 C_countermandref14_Is B (i3) h109 (fun b112 h111 =>
 (b112 = true →
 ((i2 : Int) = i3 →
 Fin B h111 (Q (true))) ∧ (¬ ((i2 : Int) = i3) →
 0 ≤ (i2 : Int) ∧ (i2 : Int) < (6 : Nat) ∧
 ∃ b114 : Bool, cellH B h111 (Addr.add ⟨k5, 0, none⟩ (Int.toNat (i2) * 2)) = some (Value.bool b114) ∧ (b114 = true →
 0 ≤ (i3 : Int) ∧ (i3 : Int) < (6 : Nat) ∧
 ∃ b115 : Bool, cellH B h111 (Addr.add ⟨k5, 0, none⟩ (Int.toNat (i3) * 2)) = some (Value.bool b115) ∧ (b115 = true →
 Fin B h111 (Q (true))) ∧ (b115 = false →
 Fin B h111 (fun h' => S_countermandlaw14_SheetRenames_J3 B i2 i3 k5 p11 p12 h' Q))) ∧ (b114 = false →
 Fin B h111 (Q (true))))) ∧ (b112 = false →
 Fin B h111 (Q (true))))) ∧ (b110 = false →
 Fin B h109 (Q (true))))) ∧ (b14 = false →
 Fin B h10 (Q (true))))) ∧ (b8 = false →
 Fin B h7 (Q (false))))
def S_countermandlaw14_SheetCopies_J3 (B : RO) (p15 : Option Addr) (p16 : Option Addr) (p17 : Option Addr) (p24 : Option Addr) (k57 : Nat) (h61 : Heap) (Q : Bool → Heap → Prop) : Prop :=
 ∃ (J67 : Int → Nat → Heap → Prop) (m65 : Nat), Fin B h61 (J67 (0) m65) ∧
 ∀ (i62 : Int) (m64 : Nat) (h63 : Heap), J67 i62 m64 h63 →
 ((i62 : Int) < (6) →
 C_sheet_Sheet_Get B p16 p15 (i62) h63 (fun b70 s71 b72 h69 =>
 ∀ k73 : Nat, h69 k73 = none → B k73 = none → ∀ h74 : Heap, h74 = Heap.set h69 k73 (.vec 41 (plains [(Value.bool false), (Value.string ByteArray.empty)]) 2) →
 ∃ h75 : Heap, StoresAt ⟨k73, 0, none⟩ h74 0 [(Value.bool b70), (Value.string s71)] h75 ∧
 C_sheet_Sheet_Get B p24 p15 (i62) h75 (fun b77 s78 b79 h76 =>
 ∀ k80 : Nat, h76 k80 = none → B k80 = none → ∀ h81 : Heap, h81 = Heap.set h76 k80 (.vec 41 (plains [(Value.bool false), (Value.string ByteArray.empty)]) 2) →
 ∃ h82 : Heap, StoresAt ⟨k80, 0, none⟩ h81 0 [(Value.bool b77), (Value.string s78)] h82 ∧
 ∃ b83 : Bool, ∃ s84 : ByteArray, CellsAt B h82 ⟨k73, 0, none⟩ 0 [(Value.bool b83), (Value.string s84)] ∧
 ∃ A85 : Addr, p17 = some A85 ∧
 0 ≤ (i62 : Int) ∧ (i62 : Int) < (6 : Nat) ∧
 ∃ b87 : Bool, ∃ s88 : ByteArray, CellsAt B h82 (Addr.add (Addr.add A85 12) (Int.toNat (i62) * 2)) 0 [(Value.bool b87), (Value.string s88)] ∧
 (eqL [(Value.bool b83), (Value.string s84)] [(Value.bool b87), (Value.string s88)] = true →
 ∃ b90 : Bool, ∃ s91 : ByteArray, CellsAt B h82 ⟨k80, 0, none⟩ 0 [(Value.bool b90), (Value.string s91)] ∧
 0 ≤ (i62 : Int) ∧ (i62 : Int) < (6 : Nat) ∧
 ∃ b92 : Bool, ∃ s93 : ByteArray, CellsAt B h82 (Addr.add ⟨k57, 12, none⟩ (Int.toNat (i62) * 2)) 0 [(Value.bool b92), (Value.string s93)] ∧
 (eqL [(Value.bool b90), (Value.string s91)] [(Value.bool b92), (Value.string s93)] = true →
 Fin B h82 (fun h' => ∃ m', m' < m64 ∧ J67 (IntKind.wrap .i64 ((i62) + (1))) m' h')) ∧ (¬ (eqL [(Value.bool b90), (Value.string s91)] [(Value.bool b92), (Value.string s93)] = true) →
 Fin B h82 (Q (false)))) ∧ (¬ (eqL [(Value.bool b83), (Value.string s84)] [(Value.bool b87), (Value.string s88)] = true) →
 Fin B h82 (Q (false)))))) ∧ (¬ ((i62 : Int) < (6)) →
 Fin B h63 (Q (true)))
def S_countermandlaw14_SheetCopies_J2 (B : RO) (a5 : Option Addr) (n6 : Nat) (c7 : Nat) (p15 : Option Addr) (p16 : Option Addr) (p17 : Option Addr) (h22 : Heap) (Q : Bool → Heap → Prop) : Prop :=
 C_sheet_Sheet_Copy B p16 h22 (fun p24 h23 =>
 ∃ A25 : Addr, p17 = some A25 ∧
 ∃ b27 : Bool, ∃ s28 : ByteArray, ∃ b29 : Bool, ∃ s30 : ByteArray, ∃ b31 : Bool, ∃ s32 : ByteArray, ∃ b33 : Bool, ∃ s34 : ByteArray, ∃ b35 : Bool, ∃ s36 : ByteArray, ∃ b37 : Bool, ∃ s38 : ByteArray, ∃ b39 : Bool, ∃ s40 : ByteArray, ∃ b41 : Bool, ∃ s42 : ByteArray, ∃ b43 : Bool, ∃ s44 : ByteArray, ∃ b45 : Bool, ∃ s46 : ByteArray, ∃ b47 : Bool, ∃ s48 : ByteArray, ∃ b49 : Bool, ∃ s50 : ByteArray, ∃ b51 : Bool, ∃ b52 : Bool, ∃ b53 : Bool, ∃ b54 : Bool, ∃ b55 : Bool, ∃ b56 : Bool, CellsAt B h23 A25 0 [(Value.bool b27), (Value.string s28), (Value.bool b29), (Value.string s30), (Value.bool b31), (Value.string s32), (Value.bool b33), (Value.string s34), (Value.bool b35), (Value.string s36), (Value.bool b37), (Value.string s38), (Value.bool b39), (Value.string s40), (Value.bool b41), (Value.string s42), (Value.bool b43), (Value.string s44), (Value.bool b45), (Value.string s46), (Value.bool b47), (Value.string s48), (Value.bool b49), (Value.string s50), (Value.bool b51), (Value.bool b52), (Value.bool b53), (Value.bool b54), (Value.bool b55), (Value.bool b56)] ∧
 ∀ k57 : Nat, h23 k57 = none → B k57 = none → ∀ h58 : Heap, h58 = Heap.set h23 k57 (.vec 86 (plains [(Value.bool false), (Value.string ByteArray.empty), (Value.bool false), (Value.string ByteArray.empty), (Value.bool false), (Value.string ByteArray.empty), (Value.bool false), (Value.string ByteArray.empty), (Value.bool false), (Value.string ByteArray.empty), (Value.bool false), (Value.string ByteArray.empty), (Value.bool false), (Value.string ByteArray.empty), (Value.bool false), (Value.string ByteArray.empty), (Value.bool false), (Value.string ByteArray.empty), (Value.bool false), (Value.string ByteArray.empty), (Value.bool false), (Value.string ByteArray.empty), (Value.bool false), (Value.string ByteArray.empty), (Value.bool false), (Value.bool false), (Value.bool false), (Value.bool false), (Value.bool false), (Value.bool false)]) 30) →
 ∃ h59 : Heap, StoresAt ⟨k57, 0, none⟩ h58 0 [(Value.bool b27), (Value.string s28), (Value.bool b29), (Value.string s30), (Value.bool b31), (Value.string s32), (Value.bool b33), (Value.string s34), (Value.bool b35), (Value.string s36), (Value.bool b37), (Value.string s38), (Value.bool b39), (Value.string s40), (Value.bool b41), (Value.string s42), (Value.bool b43), (Value.string s44), (Value.bool b45), (Value.string s46), (Value.bool b47), (Value.string s48), (Value.bool b49), (Value.string s50), (Value.bool b51), (Value.bool b52), (Value.bool b53), (Value.bool b54), (Value.bool b55), (Value.bool b56)] h59 ∧
 ∃ (J100 : Int → Nat → Heap → Prop) (m98 : Nat), Fin B h59 (J100 (0) m98) ∧
 ∀ (i95 : Int) (m97 : Nat) (h96 : Heap), J100 i95 m97 h96 →
 ((i95 : Int) < ((n6 : Nat)) →
 ∃ A102 : Addr, a5 = some A102 ∧ 0 ≤ (i95 : Int) ∧ (i95 : Int) < (n6 : Nat) ∧
 ∃ i104 : Int, ∃ i105 : Int, ∃ i106 : Int, ∃ i107 : Int, CellsAt B h96 (Addr.add A102 (Int.toNat (i95) * 4)) 0 [(Value.int .i64 (i104)), (Value.int .i64 (i105)), (Value.int .i64 (i106)), (Value.int .u8 (i107))] ∧
 ∀ k108 : Nat, h96 k108 = none → B k108 = none → ∀ h109 : Heap, h109 = Heap.set h96 k108 (.vec 81 (plains [(Value.int .i64 (0)), (Value.int .i64 (0)), (Value.int .i64 (0)), (Value.int .u8 (0))]) 4) →
 ∃ h110 : Heap, StoresAt ⟨k108, 0, none⟩ h109 0 [(Value.int .i64 (i104)), (Value.int .i64 (i105)), (Value.int .i64 (i106)), (Value.int .u8 (i107))] h110 ∧
 ∃ i111 : Int, ∃ i112 : Int, ∃ i113 : Int, ∃ i114 : Int, CellsAt B h110 ⟨k108, 0, none⟩ 0 [(Value.int .i64 (i111)), (Value.int .i64 (i112)), (Value.int .i64 (i113)), (Value.int .u8 (i114))] ∧
 C_countermandlaw14_does B p15 p24 (some ⟨k57, 0, none⟩) (i111) (i112) (i113) (i114) h110 (fun b116 h115 =>
 (b116 = true →
 Fin B h115 (fun h' => ∃ m', m' < m97 ∧ J100 (IntKind.wrap .i64 ((i95) + (1))) m' h')) ∧ (b116 = false →
 Fin B h115 (Q (false))))) ∧ (¬ ((i95 : Int) < ((n6 : Nat))) →
 Fin B h96 (fun h' => S_countermandlaw14_SheetCopies_J3 B p15 p16 p17 p24 k57 h' Q)))
def S_countermandlaw14_SheetCopies_J1 (B : RO) (a2 : Option Addr) (n3 : Nat) (c4 : Nat) (a5 : Option Addr) (n6 : Nat) (c7 : Nat) (p15 : Option Addr) (p16 : Option Addr) (p17 : Option Addr) (h20 : Heap) (Q : Bool → Heap → Prop) : Prop :=
 ∃ (J122 : Int → Nat → Heap → Prop) (m120 : Nat), Fin B h20 (J122 (0) m120) ∧
 ∀ (i117 : Int) (m119 : Nat) (h118 : Heap), J122 i117 m119 h118 →
 ((i117 : Int) < ((n3 : Nat)) →
 ∃ A124 : Addr, a2 = some A124 ∧ 0 ≤ (i117 : Int) ∧ (i117 : Int) < (n3 : Nat) ∧
 ∃ i126 : Int, ∃ i127 : Int, ∃ i128 : Int, ∃ i129 : Int, CellsAt B h118 (Addr.add A124 (Int.toNat (i117) * 4)) 0 [(Value.int .i64 (i126)), (Value.int .i64 (i127)), (Value.int .i64 (i128)), (Value.int .u8 (i129))] ∧
 ∀ k130 : Nat, h118 k130 = none → B k130 = none → ∀ h131 : Heap, h131 = Heap.set h118 k130 (.vec 81 (plains [(Value.int .i64 (0)), (Value.int .i64 (0)), (Value.int .i64 (0)), (Value.int .u8 (0))]) 4) →
 ∃ h132 : Heap, StoresAt ⟨k130, 0, none⟩ h131 0 [(Value.int .i64 (i126)), (Value.int .i64 (i127)), (Value.int .i64 (i128)), (Value.int .u8 (i129))] h132 ∧
 ∃ i133 : Int, ∃ i134 : Int, ∃ i135 : Int, ∃ i136 : Int, CellsAt B h132 ⟨k130, 0, none⟩ 0 [(Value.int .i64 (i133)), (Value.int .i64 (i134)), (Value.int .i64 (i135)), (Value.int .u8 (i136))] ∧
 C_countermandlaw14_does B p15 p16 p17 (i133) (i134) (i135) (i136) h132 (fun b138 h137 =>
 Fin B h137 (fun h' => ∃ m', m' < m119 ∧ J122 (IntKind.wrap .i64 ((i117) + (1))) m' h'))) ∧ (¬ ((i117 : Int) < ((n3 : Nat))) →
 Fin B h118 (fun h' => S_countermandlaw14_SheetCopies_J2 B a5 n6 c7 p15 p16 p17 h' Q))
def S_countermandlaw14_SheetCopies_J6 (B : RO) (p15 : Option Addr) (p16 : Option Addr) (p17 : Option Addr) (p144 : Option Addr) (k177 : Nat) (h181 : Heap) (Q : Bool → Heap → Prop) : Prop :=
 ∃ (J187 : Int → Nat → Heap → Prop) (m185 : Nat), Fin B h181 (J187 (0) m185) ∧
 ∀ (i182 : Int) (m184 : Nat) (h183 : Heap), J187 i182 m184 h183 →
 ((i182 : Int) < (6) →
 C_sheet_Sheet_Get B p16 p15 (i182) h183 (fun b190 s191 b192 h189 =>
 ∀ k193 : Nat, h189 k193 = none → B k193 = none → ∀ h194 : Heap, h194 = Heap.set h189 k193 (.vec 41 (plains [(Value.bool false), (Value.string ByteArray.empty)]) 2) →
 ∃ h195 : Heap, StoresAt ⟨k193, 0, none⟩ h194 0 [(Value.bool b190), (Value.string s191)] h195 ∧
 C_sheet_Sheet_Get B p144 p15 (i182) h195 (fun b197 s198 b199 h196 =>
 ∀ k200 : Nat, h196 k200 = none → B k200 = none → ∀ h201 : Heap, h201 = Heap.set h196 k200 (.vec 41 (plains [(Value.bool false), (Value.string ByteArray.empty)]) 2) →
 ∃ h202 : Heap, StoresAt ⟨k200, 0, none⟩ h201 0 [(Value.bool b197), (Value.string s198)] h202 ∧
 ∃ b203 : Bool, ∃ s204 : ByteArray, CellsAt B h202 ⟨k193, 0, none⟩ 0 [(Value.bool b203), (Value.string s204)] ∧
 ∃ A205 : Addr, p17 = some A205 ∧
 0 ≤ (i182 : Int) ∧ (i182 : Int) < (6 : Nat) ∧
 ∃ b207 : Bool, ∃ s208 : ByteArray, CellsAt B h202 (Addr.add (Addr.add A205 12) (Int.toNat (i182) * 2)) 0 [(Value.bool b207), (Value.string s208)] ∧
 (eqL [(Value.bool b203), (Value.string s204)] [(Value.bool b207), (Value.string s208)] = true →
 ∃ b210 : Bool, ∃ s211 : ByteArray, CellsAt B h202 ⟨k200, 0, none⟩ 0 [(Value.bool b210), (Value.string s211)] ∧
 0 ≤ (i182 : Int) ∧ (i182 : Int) < (6 : Nat) ∧
 ∃ b212 : Bool, ∃ s213 : ByteArray, CellsAt B h202 (Addr.add ⟨k177, 12, none⟩ (Int.toNat (i182) * 2)) 0 [(Value.bool b212), (Value.string s213)] ∧
 (eqL [(Value.bool b210), (Value.string s211)] [(Value.bool b212), (Value.string s213)] = true →
 Fin B h202 (fun h' => ∃ m', m' < m184 ∧ J187 (IntKind.wrap .i64 ((i182) + (1))) m' h')) ∧ (¬ (eqL [(Value.bool b210), (Value.string s211)] [(Value.bool b212), (Value.string s213)] = true) →
 Fin B h202 (Q (false)))) ∧ (¬ (eqL [(Value.bool b203), (Value.string s204)] [(Value.bool b207), (Value.string s208)] = true) →
 Fin B h202 (Q (false)))))) ∧ (¬ ((i182 : Int) < (6)) →
 Fin B h183 (Q (true)))
def S_countermandlaw14_SheetCopies_J5 (B : RO) (a5 : Option Addr) (n6 : Nat) (c7 : Nat) (p15 : Option Addr) (p16 : Option Addr) (p17 : Option Addr) (h142 : Heap) (Q : Bool → Heap → Prop) : Prop :=
 C_sheet_Sheet_Copy B p16 h142 (fun p144 h143 =>
 ∃ A145 : Addr, p17 = some A145 ∧
 ∃ b147 : Bool, ∃ s148 : ByteArray, ∃ b149 : Bool, ∃ s150 : ByteArray, ∃ b151 : Bool, ∃ s152 : ByteArray, ∃ b153 : Bool, ∃ s154 : ByteArray, ∃ b155 : Bool, ∃ s156 : ByteArray, ∃ b157 : Bool, ∃ s158 : ByteArray, ∃ b159 : Bool, ∃ s160 : ByteArray, ∃ b161 : Bool, ∃ s162 : ByteArray, ∃ b163 : Bool, ∃ s164 : ByteArray, ∃ b165 : Bool, ∃ s166 : ByteArray, ∃ b167 : Bool, ∃ s168 : ByteArray, ∃ b169 : Bool, ∃ s170 : ByteArray, ∃ b171 : Bool, ∃ b172 : Bool, ∃ b173 : Bool, ∃ b174 : Bool, ∃ b175 : Bool, ∃ b176 : Bool, CellsAt B h143 A145 0 [(Value.bool b147), (Value.string s148), (Value.bool b149), (Value.string s150), (Value.bool b151), (Value.string s152), (Value.bool b153), (Value.string s154), (Value.bool b155), (Value.string s156), (Value.bool b157), (Value.string s158), (Value.bool b159), (Value.string s160), (Value.bool b161), (Value.string s162), (Value.bool b163), (Value.string s164), (Value.bool b165), (Value.string s166), (Value.bool b167), (Value.string s168), (Value.bool b169), (Value.string s170), (Value.bool b171), (Value.bool b172), (Value.bool b173), (Value.bool b174), (Value.bool b175), (Value.bool b176)] ∧
 ∀ k177 : Nat, h143 k177 = none → B k177 = none → ∀ h178 : Heap, h178 = Heap.set h143 k177 (.vec 86 (plains [(Value.bool false), (Value.string ByteArray.empty), (Value.bool false), (Value.string ByteArray.empty), (Value.bool false), (Value.string ByteArray.empty), (Value.bool false), (Value.string ByteArray.empty), (Value.bool false), (Value.string ByteArray.empty), (Value.bool false), (Value.string ByteArray.empty), (Value.bool false), (Value.string ByteArray.empty), (Value.bool false), (Value.string ByteArray.empty), (Value.bool false), (Value.string ByteArray.empty), (Value.bool false), (Value.string ByteArray.empty), (Value.bool false), (Value.string ByteArray.empty), (Value.bool false), (Value.string ByteArray.empty), (Value.bool false), (Value.bool false), (Value.bool false), (Value.bool false), (Value.bool false), (Value.bool false)]) 30) →
 ∃ h179 : Heap, StoresAt ⟨k177, 0, none⟩ h178 0 [(Value.bool b147), (Value.string s148), (Value.bool b149), (Value.string s150), (Value.bool b151), (Value.string s152), (Value.bool b153), (Value.string s154), (Value.bool b155), (Value.string s156), (Value.bool b157), (Value.string s158), (Value.bool b159), (Value.string s160), (Value.bool b161), (Value.string s162), (Value.bool b163), (Value.string s164), (Value.bool b165), (Value.string s166), (Value.bool b167), (Value.string s168), (Value.bool b169), (Value.string s170), (Value.bool b171), (Value.bool b172), (Value.bool b173), (Value.bool b174), (Value.bool b175), (Value.bool b176)] h179 ∧
 ∃ (J220 : Int → Nat → Heap → Prop) (m218 : Nat), Fin B h179 (J220 (0) m218) ∧
 ∀ (i215 : Int) (m217 : Nat) (h216 : Heap), J220 i215 m217 h216 →
 ((i215 : Int) < ((n6 : Nat)) →
 ∃ A222 : Addr, a5 = some A222 ∧ 0 ≤ (i215 : Int) ∧ (i215 : Int) < (n6 : Nat) ∧
 ∃ i224 : Int, ∃ i225 : Int, ∃ i226 : Int, ∃ i227 : Int, CellsAt B h216 (Addr.add A222 (Int.toNat (i215) * 4)) 0 [(Value.int .i64 (i224)), (Value.int .i64 (i225)), (Value.int .i64 (i226)), (Value.int .u8 (i227))] ∧
 ∀ k228 : Nat, h216 k228 = none → B k228 = none → ∀ h229 : Heap, h229 = Heap.set h216 k228 (.vec 81 (plains [(Value.int .i64 (0)), (Value.int .i64 (0)), (Value.int .i64 (0)), (Value.int .u8 (0))]) 4) →
 ∃ h230 : Heap, StoresAt ⟨k228, 0, none⟩ h229 0 [(Value.int .i64 (i224)), (Value.int .i64 (i225)), (Value.int .i64 (i226)), (Value.int .u8 (i227))] h230 ∧
 ∃ i231 : Int, ∃ i232 : Int, ∃ i233 : Int, ∃ i234 : Int, CellsAt B h230 ⟨k228, 0, none⟩ 0 [(Value.int .i64 (i231)), (Value.int .i64 (i232)), (Value.int .i64 (i233)), (Value.int .u8 (i234))] ∧
 C_countermandlaw14_does B p15 p144 (some ⟨k177, 0, none⟩) (i231) (i232) (i233) (i234) h230 (fun b236 h235 =>
 (b236 = true →
 Fin B h235 (fun h' => ∃ m', m' < m217 ∧ J220 (IntKind.wrap .i64 ((i215) + (1))) m' h')) ∧ (b236 = false →
 Fin B h235 (Q (false))))) ∧ (¬ ((i215 : Int) < ((n6 : Nat))) →
 Fin B h216 (fun h' => S_countermandlaw14_SheetCopies_J6 B p15 p16 p17 p144 k177 h' Q)))
def S_countermandlaw14_SheetCopies_J4 (B : RO) (a2 : Option Addr) (n3 : Nat) (c4 : Nat) (a5 : Option Addr) (n6 : Nat) (c7 : Nat) (p15 : Option Addr) (p16 : Option Addr) (p17 : Option Addr) (h140 : Heap) (Q : Bool → Heap → Prop) : Prop :=
 ∃ (J242 : Int → Nat → Heap → Prop) (m240 : Nat), Fin B h140 (J242 (0) m240) ∧
 ∀ (i237 : Int) (m239 : Nat) (h238 : Heap), J242 i237 m239 h238 →
 ((i237 : Int) < ((n3 : Nat)) →
 ∃ A244 : Addr, a2 = some A244 ∧ 0 ≤ (i237 : Int) ∧ (i237 : Int) < (n3 : Nat) ∧
 ∃ i246 : Int, ∃ i247 : Int, ∃ i248 : Int, ∃ i249 : Int, CellsAt B h238 (Addr.add A244 (Int.toNat (i237) * 4)) 0 [(Value.int .i64 (i246)), (Value.int .i64 (i247)), (Value.int .i64 (i248)), (Value.int .u8 (i249))] ∧
 ∀ k250 : Nat, h238 k250 = none → B k250 = none → ∀ h251 : Heap, h251 = Heap.set h238 k250 (.vec 81 (plains [(Value.int .i64 (0)), (Value.int .i64 (0)), (Value.int .i64 (0)), (Value.int .u8 (0))]) 4) →
 ∃ h252 : Heap, StoresAt ⟨k250, 0, none⟩ h251 0 [(Value.int .i64 (i246)), (Value.int .i64 (i247)), (Value.int .i64 (i248)), (Value.int .u8 (i249))] h252 ∧
 ∃ i253 : Int, ∃ i254 : Int, ∃ i255 : Int, ∃ i256 : Int, CellsAt B h252 ⟨k250, 0, none⟩ 0 [(Value.int .i64 (i253)), (Value.int .i64 (i254)), (Value.int .i64 (i255)), (Value.int .u8 (i256))] ∧
 C_countermandlaw14_does B p15 p16 p17 (i253) (i254) (i255) (i256) h252 (fun b258 h257 =>
 Fin B h257 (fun h' => ∃ m', m' < m239 ∧ J242 (IntKind.wrap .i64 ((i237) + (1))) m' h'))) ∧ (¬ ((i237 : Int) < ((n3 : Nat))) →
 Fin B h238 (fun h' => S_countermandlaw14_SheetCopies_J5 B a5 n6 c7 p15 p16 p17 h' Q))
def S_countermandlaw14_SheetCopies (B : RO) (l1 : List Value) (a2 : Option Addr) (n3 : Nat) (c4 : Nat) (a5 : Option Addr) (n6 : Nat) (c7 : Nat) (h : Heap) (Q : Bool → Heap → Prop) : Prop :=
 ∀ k9 : Nat, h k9 = none → B k9 = none → ∀ h10 : Heap, h10 = Heap.set h k9 (.vec 71 (plains l1) (List.length l1)) →
 C_countermandlaw14_alive B h10 (fun b12 h11 =>
 (b12 = true →
 ∃ l13 : List Value, List.length l13 = 12 ∧ CellsAt B h11 ⟨k9, 0, none⟩ 0 l13 ∧
 C_countermandlaw14_build B l13 h11 (fun p15 p16 p17 b18 h14 =>
 (b18 = true →
 (((n3 : Nat) : Int) > (60) →
 Fin B h14 (Q (true))) ∧ (¬ (((n3 : Nat) : Int) > (60)) →
 (((n6 : Nat) : Int) > (60) →
 Fin B h14 (Q (true))) ∧ (¬ (((n6 : Nat) : Int) > (60)) →
 Fin B h14 (fun h' => S_countermandlaw14_SheetCopies_J4 B a2 n3 c4 a5 n6 c7 p15 p16 p17 h' Q)))) ∧ (b18 = false →
 Fin B h14 (Q (true))))) ∧ (b12 = false →
 Fin B h11 (Q (false))))
def S_countermandlaw14_SheetOver_J3 (B : RO) (i5 : Int) (p13 : Option Addr) (p15 : Option Addr) (i22 : Int) (i24 : Int) (m26 : Nat) (J29 : Int → Int → Nat → Heap → Prop) (i34 : Int) (k35 : Nat) (i39 : Int) (i40 : Int) (h41 : Heap) (Q : Bool → Heap → Prop) : Prop :=
 ∃ b42 : Bool, ∃ s43 : ByteArray, CellsAt B h41 ⟨k35, 0, none⟩ 0 [(Value.bool b42), (Value.string s43)] ∧
 ∃ A44 : Addr, p15 = some A44 ∧
 0 ≤ (i24 : Int) ∧ (i24 : Int) < (6 : Nat) ∧
 ∃ b46 : Bool, ∃ s47 : ByteArray, CellsAt B h41 (Addr.add (Addr.add A44 12) (Int.toNat (i24) * 2)) 0 [(Value.bool b46), (Value.string s47)] ∧
 (eqL [(Value.bool b42), (Value.string s43)] [(Value.bool b46), (Value.string s47)] = true →
 ((i34 : Int) = i40 →
 Fin B h41 (fun h' => ∃ m', m' < m26 ∧ J29 (i39) (IntKind.wrap .i64 ((i24) + (1))) m' h')) ∧ (¬ ((i34 : Int) = i40) →
 Fin B h41 (Q (false)))) ∧ (¬ (eqL [(Value.bool b42), (Value.string s43)] [(Value.bool b46), (Value.string s47)] = true) →
 Fin B h41 (Q (false)))
def S_countermandlaw14_SheetOver_J2 (B : RO) (i5 : Int) (p13 : Option Addr) (p14 : Option Addr) (p15 : Option Addr) (h20 : Heap) (Q : Bool → Heap → Prop) : Prop :=
 C_sheet_Sheet_Over B p14 p13 (i5) h20 (fun i22 h21 =>
 ∃ (J29 : Int → Int → Nat → Heap → Prop) (m27 : Nat), Fin B h21 (J29 (0) (0) m27) ∧
 ∀ (i23 : Int) (i24 : Int) (m26 : Nat) (h25 : Heap), J29 i23 i24 m26 h25 →
 ((i24 : Int) < (6) →
 C_tome_Tome_Get B p13 (i24) h25 (fun b32 s33 i34 h31 =>
 ∀ k35 : Nat, h31 k35 = none → B k35 = none → ∀ h36 : Heap, h36 = Heap.set h31 k35 (.vec 41 (plains [(Value.bool false), (Value.string ByteArray.empty)]) 2) →
 ∃ h37 : Heap, StoresAt ⟨k35, 0, none⟩ h36 0 [(Value.bool b32), (Value.string s33)] h37 ∧
 ∃ A50 : Addr, p15 = some A50 ∧
 0 ≤ (i24 : Int) ∧ (i24 : Int) < (6 : Nat) ∧
 ∃ b52 : Bool, cellH B h37 (Addr.add (Addr.add A50 24) (Int.toNat (i24) * 1)) = some (Value.bool b52) ∧ (b52 = true →
 Fin B h37 (fun h' => S_countermandlaw14_SheetOver_J3 B i5 p13 p15 i22 i24 m26 J29 i34 k35 (IntKind.wrap .i64 ((i23) + (1))) (i5) h' Q)) ∧ (b52 = false →
 Fin B h37 (fun h' => S_countermandlaw14_SheetOver_J3 B i5 p13 p15 i22 i24 m26 J29 i34 k35 (i23) (i24) h' Q)))) ∧ (¬ ((i24 : Int) < (6)) →
 Fin B h25 (Q (((i22 : Int) == (i23))))))
def S_countermandlaw14_SheetOver_J1 (B : RO) (a2 : Option Addr) (n3 : Nat) (c4 : Nat) (i5 : Int) (p13 : Option Addr) (p14 : Option Addr) (p15 : Option Addr) (h18 : Heap) (Q : Bool → Heap → Prop) : Prop :=
 ∃ (J58 : Int → Nat → Heap → Prop) (m56 : Nat), Fin B h18 (J58 (0) m56) ∧
 ∀ (i53 : Int) (m55 : Nat) (h54 : Heap), J58 i53 m55 h54 →
 ((i53 : Int) < ((n3 : Nat)) →
 ∃ A60 : Addr, a2 = some A60 ∧ 0 ≤ (i53 : Int) ∧ (i53 : Int) < (n3 : Nat) ∧
 ∃ i62 : Int, ∃ i63 : Int, ∃ i64 : Int, ∃ i65 : Int, CellsAt B h54 (Addr.add A60 (Int.toNat (i53) * 4)) 0 [(Value.int .i64 (i62)), (Value.int .i64 (i63)), (Value.int .i64 (i64)), (Value.int .u8 (i65))] ∧
 ∀ k66 : Nat, h54 k66 = none → B k66 = none → ∀ h67 : Heap, h67 = Heap.set h54 k66 (.vec 81 (plains [(Value.int .i64 (0)), (Value.int .i64 (0)), (Value.int .i64 (0)), (Value.int .u8 (0))]) 4) →
 ∃ h68 : Heap, StoresAt ⟨k66, 0, none⟩ h67 0 [(Value.int .i64 (i62)), (Value.int .i64 (i63)), (Value.int .i64 (i64)), (Value.int .u8 (i65))] h68 ∧
 ∃ i69 : Int, ∃ i70 : Int, ∃ i71 : Int, ∃ i72 : Int, CellsAt B h68 ⟨k66, 0, none⟩ 0 [(Value.int .i64 (i69)), (Value.int .i64 (i70)), (Value.int .i64 (i71)), (Value.int .u8 (i72))] ∧
 C_countermandlaw14_does B p13 p14 p15 (i69) (i70) (i71) (i72) h68 (fun b74 h73 =>
 Fin B h73 (fun h' => ∃ m', m' < m55 ∧ J58 (IntKind.wrap .i64 ((i53) + (1))) m' h'))) ∧ (¬ ((i53 : Int) < ((n3 : Nat))) →
 Fin B h54 (fun h' => S_countermandlaw14_SheetOver_J2 B i5 p13 p14 p15 h' Q))
def S_countermandlaw14_SheetOver_J6 (B : RO) (i5 : Int) (p13 : Option Addr) (p15 : Option Addr) (i80 : Int) (i82 : Int) (m84 : Nat) (J87 : Int → Int → Nat → Heap → Prop) (i92 : Int) (k93 : Nat) (i97 : Int) (i98 : Int) (h99 : Heap) (Q : Bool → Heap → Prop) : Prop :=
 ∃ b100 : Bool, ∃ s101 : ByteArray, CellsAt B h99 ⟨k93, 0, none⟩ 0 [(Value.bool b100), (Value.string s101)] ∧
 ∃ A102 : Addr, p15 = some A102 ∧
 0 ≤ (i82 : Int) ∧ (i82 : Int) < (6 : Nat) ∧
 ∃ b104 : Bool, ∃ s105 : ByteArray, CellsAt B h99 (Addr.add (Addr.add A102 12) (Int.toNat (i82) * 2)) 0 [(Value.bool b104), (Value.string s105)] ∧
 (eqL [(Value.bool b100), (Value.string s101)] [(Value.bool b104), (Value.string s105)] = true →
 ((i92 : Int) = i98 →
 Fin B h99 (fun h' => ∃ m', m' < m84 ∧ J87 (i97) (IntKind.wrap .i64 ((i82) + (1))) m' h')) ∧ (¬ ((i92 : Int) = i98) →
 Fin B h99 (Q (false)))) ∧ (¬ (eqL [(Value.bool b100), (Value.string s101)] [(Value.bool b104), (Value.string s105)] = true) →
 Fin B h99 (Q (false)))
def S_countermandlaw14_SheetOver_J5 (B : RO) (i5 : Int) (p13 : Option Addr) (p14 : Option Addr) (p15 : Option Addr) (h78 : Heap) (Q : Bool → Heap → Prop) : Prop :=
 C_sheet_Sheet_Over B p14 p13 (i5) h78 (fun i80 h79 =>
 ∃ (J87 : Int → Int → Nat → Heap → Prop) (m85 : Nat), Fin B h79 (J87 (0) (0) m85) ∧
 ∀ (i81 : Int) (i82 : Int) (m84 : Nat) (h83 : Heap), J87 i81 i82 m84 h83 →
 ((i82 : Int) < (6) →
 C_tome_Tome_Get B p13 (i82) h83 (fun b90 s91 i92 h89 =>
 ∀ k93 : Nat, h89 k93 = none → B k93 = none → ∀ h94 : Heap, h94 = Heap.set h89 k93 (.vec 41 (plains [(Value.bool false), (Value.string ByteArray.empty)]) 2) →
 ∃ h95 : Heap, StoresAt ⟨k93, 0, none⟩ h94 0 [(Value.bool b90), (Value.string s91)] h95 ∧
 ∃ A108 : Addr, p15 = some A108 ∧
 0 ≤ (i82 : Int) ∧ (i82 : Int) < (6 : Nat) ∧
 ∃ b110 : Bool, cellH B h95 (Addr.add (Addr.add A108 24) (Int.toNat (i82) * 1)) = some (Value.bool b110) ∧ (b110 = true →
 Fin B h95 (fun h' => S_countermandlaw14_SheetOver_J6 B i5 p13 p15 i80 i82 m84 J87 i92 k93 (IntKind.wrap .i64 ((i81) + (1))) (i5) h' Q)) ∧ (b110 = false →
 Fin B h95 (fun h' => S_countermandlaw14_SheetOver_J6 B i5 p13 p15 i80 i82 m84 J87 i92 k93 (i81) (i82) h' Q)))) ∧ (¬ ((i82 : Int) < (6)) →
 Fin B h83 (Q (((i80 : Int) == (i81))))))
def S_countermandlaw14_SheetOver_J4 (B : RO) (a2 : Option Addr) (n3 : Nat) (c4 : Nat) (i5 : Int) (p13 : Option Addr) (p14 : Option Addr) (p15 : Option Addr) (h76 : Heap) (Q : Bool → Heap → Prop) : Prop :=
 ∃ (J116 : Int → Nat → Heap → Prop) (m114 : Nat), Fin B h76 (J116 (0) m114) ∧
 ∀ (i111 : Int) (m113 : Nat) (h112 : Heap), J116 i111 m113 h112 →
 ((i111 : Int) < ((n3 : Nat)) →
 ∃ A118 : Addr, a2 = some A118 ∧ 0 ≤ (i111 : Int) ∧ (i111 : Int) < (n3 : Nat) ∧
 ∃ i120 : Int, ∃ i121 : Int, ∃ i122 : Int, ∃ i123 : Int, CellsAt B h112 (Addr.add A118 (Int.toNat (i111) * 4)) 0 [(Value.int .i64 (i120)), (Value.int .i64 (i121)), (Value.int .i64 (i122)), (Value.int .u8 (i123))] ∧
 ∀ k124 : Nat, h112 k124 = none → B k124 = none → ∀ h125 : Heap, h125 = Heap.set h112 k124 (.vec 81 (plains [(Value.int .i64 (0)), (Value.int .i64 (0)), (Value.int .i64 (0)), (Value.int .u8 (0))]) 4) →
 ∃ h126 : Heap, StoresAt ⟨k124, 0, none⟩ h125 0 [(Value.int .i64 (i120)), (Value.int .i64 (i121)), (Value.int .i64 (i122)), (Value.int .u8 (i123))] h126 ∧
 ∃ i127 : Int, ∃ i128 : Int, ∃ i129 : Int, ∃ i130 : Int, CellsAt B h126 ⟨k124, 0, none⟩ 0 [(Value.int .i64 (i127)), (Value.int .i64 (i128)), (Value.int .i64 (i129)), (Value.int .u8 (i130))] ∧
 C_countermandlaw14_does B p13 p14 p15 (i127) (i128) (i129) (i130) h126 (fun b132 h131 =>
 Fin B h131 (fun h' => ∃ m', m' < m113 ∧ J116 (IntKind.wrap .i64 ((i111) + (1))) m' h'))) ∧ (¬ ((i111 : Int) < ((n3 : Nat))) →
 Fin B h112 (fun h' => S_countermandlaw14_SheetOver_J5 B i5 p13 p14 p15 h' Q))
def S_countermandlaw14_SheetOver (B : RO) (l1 : List Value) (a2 : Option Addr) (n3 : Nat) (c4 : Nat) (i5 : Int) (h : Heap) (Q : Bool → Heap → Prop) : Prop :=
 ∀ k7 : Nat, h k7 = none → B k7 = none → ∀ h8 : Heap, h8 = Heap.set h k7 (.vec 71 (plains l1) (List.length l1)) →
 C_countermandlaw14_alive B h8 (fun b10 h9 =>
 (b10 = true →
 ∃ l11 : List Value, List.length l11 = 12 ∧ CellsAt B h9 ⟨k7, 0, none⟩ 0 l11 ∧
 C_countermandlaw14_build B l11 h9 (fun p13 p14 p15 b16 h12 =>
 (b16 = true →
 (((n3 : Nat) : Int) > (60) →
 Fin B h12 (Q (true))) ∧ (¬ (((n3 : Nat) : Int) > (60)) →
 Fin B h12 (fun h' => S_countermandlaw14_SheetOver_J4 B a2 n3 c4 i5 p13 p14 p15 h' Q))) ∧ (b16 = false →
 Fin B h12 (Q (true))))) ∧ (b10 = false →
 Fin B h9 (Q (false))))
def S_countermandlaw14_SheetDoes_J4 (B : RO) (k8 : Nat) (p16 : Option Addr) (h42 : Heap) (Q : Bool → Heap → Prop) : Prop :=
 C_sheet_Sheet_Write B none p16 (0) (0) (0) h42 (fun b44 h43 =>
 (b44 = true →
 ∃ h75 : Heap, storeH h43 ⟨k8, 0, none⟩ (Value.bool false) = some h75 ∧
 ∃ b76 : Bool, cellH B h75 ⟨k8, 0, none⟩ = some (Value.bool b76) ∧ Fin B h75 (Q (b76))) ∧ (b44 = false →
 C_sheet_Sheet_Cut B none p16 (0) (0) h43 (fun b46 h45 =>
 (b46 = true →
 ∃ h73 : Heap, storeH h45 ⟨k8, 0, none⟩ (Value.bool false) = some h73 ∧
 ∃ b74 : Bool, cellH B h73 ⟨k8, 0, none⟩ = some (Value.bool b74) ∧ Fin B h73 (Q (b74))) ∧ (b46 = false →
 C_sheet_Sheet_Create B none p16 (0) h45 (fun b48 h47 =>
 (b48 = true →
 ∃ h71 : Heap, storeH h47 ⟨k8, 0, none⟩ (Value.bool false) = some h71 ∧
 ∃ b72 : Bool, cellH B h71 ⟨k8, 0, none⟩ = some (Value.bool b72) ∧ Fin B h71 (Q (b72))) ∧ (b48 = false →
 C_sheet_Sheet_Remove B none p16 (0) h47 (fun b50 h49 =>
 (b50 = true →
 ∃ h69 : Heap, storeH h49 ⟨k8, 0, none⟩ (Value.bool false) = some h69 ∧
 ∃ b70 : Bool, cellH B h69 ⟨k8, 0, none⟩ = some (Value.bool b70) ∧ Fin B h69 (Q (b70))) ∧ (b50 = false →
 C_sheet_Sheet_Rename B none p16 (0) (1) h49 (fun b52 h51 =>
 (b52 = true →
 ∃ h67 : Heap, storeH h51 ⟨k8, 0, none⟩ (Value.bool false) = some h67 ∧
 ∃ b68 : Bool, cellH B h67 ⟨k8, 0, none⟩ = some (Value.bool b68) ∧ Fin B h67 (Q (b68))) ∧ (b52 = false →
 C_sheet_Sheet_Draft B none h51 (fun p54 h53 =>
 (p54 = none →
 C_sheet_Sheet_Copy B none h53 (fun p57 h56 =>
 (p57 = none →
 C_sheet_Sheet_Over B none p16 (1) h56 (fun i60 h59 =>
 ∃ h61 : Heap, storeH h59 ⟨k8, 0, none⟩ (Value.bool ((i60 : Int) == (0))) = some h61 ∧
 ∃ b62 : Bool, cellH B h61 ⟨k8, 0, none⟩ = some (Value.bool b62) ∧ Fin B h61 (Q (b62)))) ∧ (¬ (p57 = none) →
 ∃ h63 : Heap, storeH h56 ⟨k8, 0, none⟩ (Value.bool false) = some h63 ∧
 ∃ b64 : Bool, cellH B h63 ⟨k8, 0, none⟩ = some (Value.bool b64) ∧ Fin B h63 (Q (b64))))) ∧ (¬ (p54 = none) →
 ∃ h65 : Heap, storeH h53 ⟨k8, 0, none⟩ (Value.bool false) = some h65 ∧
 ∃ b66 : Bool, cellH B h65 ⟨k8, 0, none⟩ = some (Value.bool b66) ∧ Fin B h65 (Q (b66))))))))))))))
def S_countermandlaw14_SheetDoes_J5 (B : RO) (k8 : Nat) (p16 : Option Addr) (k29 : Nat) (i77 : Int) (b110 : Bool) (s111 : ByteArray) (b112 : Bool) (s113 : ByteArray) (h114 : Heap) (Q : Bool → Heap → Prop) : Prop :=
 (eqL [(Value.bool b110), (Value.string s111)] [(Value.bool b112), (Value.string s113)] = true →
 Fin B h114 (fun h' => S_countermandlaw14_SheetDoes_J4 B k8 p16 h' Q)) ∧ (¬ (eqL [(Value.bool b110), (Value.string s111)] [(Value.bool b112), (Value.string s113)] = true) →
 ∃ h117 : Heap, storeH h114 ⟨k8, 0, none⟩ (Value.bool false) = some h117 ∧
 ∃ b118 : Bool, cellH B h117 ⟨k8, 0, none⟩ = some (Value.bool b118) ∧ Fin B h117 (Q (b118)))
def S_countermandlaw14_SheetDoes_J6 (B : RO) (k8 : Nat) (p16 : Option Addr) (k29 : Nat) (i77 : Int) (h138 : Heap) (Q : Bool → Heap → Prop) : Prop :=
 ∃ h140 : Heap, storeH h138 ⟨k8, 0, none⟩ (Value.bool false) = some h140 ∧
 ∃ b141 : Bool, cellH B h140 ⟨k8, 0, none⟩ = some (Value.bool b141) ∧ Fin B h140 (Q (b141))
def S_countermandlaw14_SheetDoes_J7 (B : RO) (k8 : Nat) (p16 : Option Addr) (k29 : Nat) (i77 : Int) (h143 : Heap) (Q : Bool → Heap → Prop) : Prop :=
 ∃ h145 : Heap, storeH h143 ⟨k8, 0, none⟩ (Value.bool false) = some h145 ∧
 ∃ b146 : Bool, cellH B h145 ⟨k8, 0, none⟩ = some (Value.bool b146) ∧ Fin B h145 (Q (b146))
def S_countermandlaw14_SheetDoes_J8 (B : RO) (k8 : Nat) (p16 : Option Addr) (h151 : Heap) (Q : Bool → Heap → Prop) : Prop :=
 C_sheet_Sheet_Write B none p16 (0) (0) (0) h151 (fun b153 h152 =>
 (b153 = true →
 ∃ h184 : Heap, storeH h152 ⟨k8, 0, none⟩ (Value.bool false) = some h184 ∧
 ∃ b185 : Bool, cellH B h184 ⟨k8, 0, none⟩ = some (Value.bool b185) ∧ Fin B h184 (Q (b185))) ∧ (b153 = false →
 C_sheet_Sheet_Cut B none p16 (0) (0) h152 (fun b155 h154 =>
 (b155 = true →
 ∃ h182 : Heap, storeH h154 ⟨k8, 0, none⟩ (Value.bool false) = some h182 ∧
 ∃ b183 : Bool, cellH B h182 ⟨k8, 0, none⟩ = some (Value.bool b183) ∧ Fin B h182 (Q (b183))) ∧ (b155 = false →
 C_sheet_Sheet_Create B none p16 (0) h154 (fun b157 h156 =>
 (b157 = true →
 ∃ h180 : Heap, storeH h156 ⟨k8, 0, none⟩ (Value.bool false) = some h180 ∧
 ∃ b181 : Bool, cellH B h180 ⟨k8, 0, none⟩ = some (Value.bool b181) ∧ Fin B h180 (Q (b181))) ∧ (b157 = false →
 C_sheet_Sheet_Remove B none p16 (0) h156 (fun b159 h158 =>
 (b159 = true →
 ∃ h178 : Heap, storeH h158 ⟨k8, 0, none⟩ (Value.bool false) = some h178 ∧
 ∃ b179 : Bool, cellH B h178 ⟨k8, 0, none⟩ = some (Value.bool b179) ∧ Fin B h178 (Q (b179))) ∧ (b159 = false →
 C_sheet_Sheet_Rename B none p16 (0) (1) h158 (fun b161 h160 =>
 (b161 = true →
 ∃ h176 : Heap, storeH h160 ⟨k8, 0, none⟩ (Value.bool false) = some h176 ∧
 ∃ b177 : Bool, cellH B h176 ⟨k8, 0, none⟩ = some (Value.bool b177) ∧ Fin B h176 (Q (b177))) ∧ (b161 = false →
 C_sheet_Sheet_Draft B none h160 (fun p163 h162 =>
 (p163 = none →
 C_sheet_Sheet_Copy B none h162 (fun p166 h165 =>
 (p166 = none →
 C_sheet_Sheet_Over B none p16 (1) h165 (fun i169 h168 =>
 ∃ h170 : Heap, storeH h168 ⟨k8, 0, none⟩ (Value.bool ((i169 : Int) == (0))) = some h170 ∧
 ∃ b171 : Bool, cellH B h170 ⟨k8, 0, none⟩ = some (Value.bool b171) ∧ Fin B h170 (Q (b171)))) ∧ (¬ (p166 = none) →
 ∃ h172 : Heap, storeH h165 ⟨k8, 0, none⟩ (Value.bool false) = some h172 ∧
 ∃ b173 : Bool, cellH B h172 ⟨k8, 0, none⟩ = some (Value.bool b173) ∧ Fin B h172 (Q (b173))))) ∧ (¬ (p163 = none) →
 ∃ h174 : Heap, storeH h162 ⟨k8, 0, none⟩ (Value.bool false) = some h174 ∧
 ∃ b175 : Bool, cellH B h174 ⟨k8, 0, none⟩ = some (Value.bool b175) ∧ Fin B h174 (Q (b175))))))))))))))
def S_countermandlaw14_SheetDoes_J9 (B : RO) (k8 : Nat) (p16 : Option Addr) (k29 : Nat) (i186 : Int) (b219 : Bool) (s220 : ByteArray) (b221 : Bool) (s222 : ByteArray) (h223 : Heap) (Q : Bool → Heap → Prop) : Prop :=
 (eqL [(Value.bool b219), (Value.string s220)] [(Value.bool b221), (Value.string s222)] = true →
 ∃ h226 : Heap, storeH h223 ⟨k8, 0, none⟩ (Value.bool false) = some h226 ∧
 ∃ b227 : Bool, cellH B h226 ⟨k8, 0, none⟩ = some (Value.bool b227) ∧ Fin B h226 (Q (b227))) ∧ (¬ (eqL [(Value.bool b219), (Value.string s220)] [(Value.bool b221), (Value.string s222)] = true) →
 ∃ h228 : Heap, storeH h223 ⟨k8, 0, none⟩ (Value.bool false) = some h228 ∧
 ∃ b229 : Bool, cellH B h228 ⟨k8, 0, none⟩ = some (Value.bool b229) ∧ Fin B h228 (Q (b229)))
def S_countermandlaw14_SheetDoes_J10 (B : RO) (k8 : Nat) (p16 : Option Addr) (k29 : Nat) (i186 : Int) (h249 : Heap) (Q : Bool → Heap → Prop) : Prop :=
 ∃ h251 : Heap, storeH h249 ⟨k8, 0, none⟩ (Value.bool false) = some h251 ∧
 ∃ b252 : Bool, cellH B h251 ⟨k8, 0, none⟩ = some (Value.bool b252) ∧ Fin B h251 (Q (b252))
def S_countermandlaw14_SheetDoes_J11 (B : RO) (k8 : Nat) (p16 : Option Addr) (k29 : Nat) (i186 : Int) (h254 : Heap) (Q : Bool → Heap → Prop) : Prop :=
 ∃ h256 : Heap, storeH h254 ⟨k8, 0, none⟩ (Value.bool false) = some h256 ∧
 ∃ b257 : Bool, cellH B h256 ⟨k8, 0, none⟩ = some (Value.bool b257) ∧ Fin B h256 (Q (b257))
def S_countermandlaw14_SheetDoes_J3 (B : RO) (k8 : Nat) (p16 : Option Addr) (p17 : Option Addr) (k20 : Nat) (s26 : ByteArray) (k29 : Nat) (h33 : Heap) (Q : Bool → Heap → Prop) : Prop :=
 C_sheet_Sheet_Get B none p16 (0) h33 (fun b35 s36 b37 h34 =>
 (b37 = true →
 ∀ k147 : Nat, h34 k147 = none → B k147 = none → ∀ h148 : Heap, h148 = Heap.set h34 k147 (.vec 41 (plains [(Value.bool false), (Value.string ByteArray.empty)]) 2) →
 ∃ h149 : Heap, StoresAt ⟨k147, 0, none⟩ h148 0 [(Value.bool b35), (Value.string s36)] h149 ∧
 ∃ i186 : Int, cellH B h149 ⟨k29, 0, none⟩ = some (Value.int .i64 (i186)) ∧
 C_sheet_Sheet_Draft B p17 h149 (fun p190 h189 =>
 cellH B h189 ⟨k29, 0, none⟩ = some (Value.int .i64 (i186)) ∧
 C_draft_Draft_file_File_Len B p190 h189 (fun i193 h192 =>
 cellH B h192 ⟨k29, 0, none⟩ = some (Value.int .i64 (i186)) ∧
 ((i186 : Int) = i193 →
 C_tome_Tome_Bytes B p16 h192 (fun s197 h196 =>
 cellH B h196 ⟨k29, 0, none⟩ = some (Value.int .i64 (i186)) ∧
 (s197 = s26 →
 (∃ b230 : Bool, ∃ s231 : ByteArray, CellsAt B h196 ⟨k147, 0, none⟩ 0 [(Value.bool b230), (Value.string s231)] ∧
 ∃ p232 : Option Addr, cellH B h196 ⟨k20, 0, none⟩ = some (Value.pointer p232) ∧
 ∃ A233 : Addr, p232 = some A233 ∧
 0 ≤ (0 : Int) ∧ (0 : Int) < (6 : Nat) ∧
 ∃ b235 : Bool, ∃ s236 : ByteArray, CellsAt B h196 A233 0 [(Value.bool b235), (Value.string s236)] ∧
 S_countermandlaw14_SheetDoes_J9 B k8 p16 k29 i186 (b230) s231 (b235) s236 h196 Q) ∧
 (∃ p237 : Option Addr, cellH B h196 ⟨k20, 0, none⟩ = some (Value.pointer p237) ∧
 ∃ A238 : Addr, p237 = some A238 ∧
 0 ≤ (0 : Int) ∧ (0 : Int) < (6 : Nat) ∧
 (∃ b240 : Bool, ∃ s241 : ByteArray, CellsAt B h196 ⟨k147, 0, none⟩ 0 [(Value.bool b240), (Value.string s241)] ∧
 ∃ b242 : Bool, ∃ s243 : ByteArray, CellsAt B h196 A238 0 [(Value.bool b242), (Value.string s243)] ∧
 S_countermandlaw14_SheetDoes_J9 B k8 p16 k29 i186 (b240) s241 (b242) s243 h196 Q) ∧
 (∃ b244 : Bool, ∃ s245 : ByteArray, CellsAt B h196 A238 0 [(Value.bool b244), (Value.string s245)] ∧
 ∃ b246 : Bool, ∃ s247 : ByteArray, CellsAt B h196 ⟨k147, 0, none⟩ 0 [(Value.bool b246), (Value.string s247)] ∧
 S_countermandlaw14_SheetDoes_J9 B k8 p16 k29 i186 (b246) s247 (b244) s245 h196 Q))) ∧ (¬ (s197 = s26) →
 (S_countermandlaw14_SheetDoes_J10 B k8 p16 k29 i186 h196 Q) ∧
 ((S_countermandlaw14_SheetDoes_J10 B k8 p16 k29 i186 h196 Q) ∧
 (S_countermandlaw14_SheetDoes_J10 B k8 p16 k29 i186 h196 Q))))) ∧ (¬ ((i186 : Int) = i193) →
 (S_countermandlaw14_SheetDoes_J11 B k8 p16 k29 i186 h192 Q) ∧
 ((S_countermandlaw14_SheetDoes_J11 B k8 p16 k29 i186 h192 Q) ∧
 (S_countermandlaw14_SheetDoes_J11 B k8 p16 k29 i186 h192 Q)))))) ∧ (b37 = false →
 ∀ k38 : Nat, h34 k38 = none → B k38 = none → ∀ h39 : Heap, h39 = Heap.set h34 k38 (.vec 41 (plains [(Value.bool false), (Value.string ByteArray.empty)]) 2) →
 ∃ h40 : Heap, StoresAt ⟨k38, 0, none⟩ h39 0 [(Value.bool b35), (Value.string s36)] h40 ∧
 ∃ i77 : Int, cellH B h40 ⟨k29, 0, none⟩ = some (Value.int .i64 (i77)) ∧
 C_sheet_Sheet_Draft B p17 h40 (fun p81 h80 =>
 cellH B h80 ⟨k29, 0, none⟩ = some (Value.int .i64 (i77)) ∧
 C_draft_Draft_file_File_Len B p81 h80 (fun i84 h83 =>
 cellH B h83 ⟨k29, 0, none⟩ = some (Value.int .i64 (i77)) ∧
 ((i77 : Int) = i84 →
 C_tome_Tome_Bytes B p16 h83 (fun s88 h87 =>
 cellH B h87 ⟨k29, 0, none⟩ = some (Value.int .i64 (i77)) ∧
 (s88 = s26 →
 (∃ b119 : Bool, ∃ s120 : ByteArray, CellsAt B h87 ⟨k38, 0, none⟩ 0 [(Value.bool b119), (Value.string s120)] ∧
 ∃ p121 : Option Addr, cellH B h87 ⟨k20, 0, none⟩ = some (Value.pointer p121) ∧
 ∃ A122 : Addr, p121 = some A122 ∧
 0 ≤ (0 : Int) ∧ (0 : Int) < (6 : Nat) ∧
 ∃ b124 : Bool, ∃ s125 : ByteArray, CellsAt B h87 A122 0 [(Value.bool b124), (Value.string s125)] ∧
 S_countermandlaw14_SheetDoes_J5 B k8 p16 k29 i77 (b119) s120 (b124) s125 h87 Q) ∧
 (∃ p126 : Option Addr, cellH B h87 ⟨k20, 0, none⟩ = some (Value.pointer p126) ∧
 ∃ A127 : Addr, p126 = some A127 ∧
 0 ≤ (0 : Int) ∧ (0 : Int) < (6 : Nat) ∧
 (∃ b129 : Bool, ∃ s130 : ByteArray, CellsAt B h87 ⟨k38, 0, none⟩ 0 [(Value.bool b129), (Value.string s130)] ∧
 ∃ b131 : Bool, ∃ s132 : ByteArray, CellsAt B h87 A127 0 [(Value.bool b131), (Value.string s132)] ∧
 S_countermandlaw14_SheetDoes_J5 B k8 p16 k29 i77 (b129) s130 (b131) s132 h87 Q) ∧
 (∃ b133 : Bool, ∃ s134 : ByteArray, CellsAt B h87 A127 0 [(Value.bool b133), (Value.string s134)] ∧
 ∃ b135 : Bool, ∃ s136 : ByteArray, CellsAt B h87 ⟨k38, 0, none⟩ 0 [(Value.bool b135), (Value.string s136)] ∧
 S_countermandlaw14_SheetDoes_J5 B k8 p16 k29 i77 (b135) s136 (b133) s134 h87 Q))) ∧ (¬ (s88 = s26) →
 (S_countermandlaw14_SheetDoes_J6 B k8 p16 k29 i77 h87 Q) ∧
 ((S_countermandlaw14_SheetDoes_J6 B k8 p16 k29 i77 h87 Q) ∧
 (S_countermandlaw14_SheetDoes_J6 B k8 p16 k29 i77 h87 Q))))) ∧ (¬ ((i77 : Int) = i84) →
 (S_countermandlaw14_SheetDoes_J7 B k8 p16 k29 i77 h83 Q) ∧
 ((S_countermandlaw14_SheetDoes_J7 B k8 p16 k29 i77 h83 Q) ∧
 (S_countermandlaw14_SheetDoes_J7 B k8 p16 k29 i77 h83 Q)))))))
def S_countermandlaw14_SheetDoes_J12 (B : RO) (k8 : Nat) (k29 : Nat) (q267 : Nat) (J268 : Nat → Heap → Prop) (b274 : Bool) (h275 : Heap) (Q : Bool → Heap → Prop) : Prop :=
 (b274 = true →
 ∃ h278 : Heap, storeH h275 ⟨k8, 0, none⟩ (Value.bool false) = some h278 ∧
 ∃ b279 : Bool, cellH B h278 ⟨k8, 0, none⟩ = some (Value.bool b279) ∧ Fin B h278 (Q (b279))) ∧ (b274 = false →
 ∃ i276 : Int, cellH B h275 ⟨k29, 0, none⟩ = some (Value.int .i64 (i276)) ∧
 ∃ h277 : Heap, storeH h275 ⟨k29, 0, none⟩ (Value.int .i64 (IntKind.wrap .i64 ((i276) + (1)))) = some h277 ∧
 Fin B h277 (J268 (q267 + 1)))
def S_countermandlaw14_SheetDoes_J13 (B : RO) (k8 : Nat) (k29 : Nat) (q267 : Nat) (J268 : Nat → Heap → Prop) (h284 : Heap) (Q : Bool → Heap → Prop) : Prop :=
 Fin B h284 (fun h' => S_countermandlaw14_SheetDoes_J12 B k8 k29 q267 J268 (true) h' Q)
def S_countermandlaw14_SheetDoes_J14 (B : RO) (k8 : Nat) (k29 : Nat) (q267 : Nat) (J268 : Nat → Heap → Prop) (h290 : Heap) (Q : Bool → Heap → Prop) : Prop :=
 Fin B h290 (fun h' => S_countermandlaw14_SheetDoes_J12 B k8 k29 q267 J268 (true) h' Q)
def S_countermandlaw14_SheetDoes_J15 (B : RO) (k8 : Nat) (k29 : Nat) (q267 : Nat) (J268 : Nat → Heap → Prop) (b310 : Bool) (s311 : ByteArray) (b312 : Bool) (s313 : ByteArray) (h314 : Heap) (Q : Bool → Heap → Prop) : Prop :=
 (eqL [(Value.bool b310), (Value.string s311)] [(Value.bool b312), (Value.string s313)] = true →
 Fin B h314 (fun h' => S_countermandlaw14_SheetDoes_J12 B k8 k29 q267 J268 (false) h' Q)) ∧ (¬ (eqL [(Value.bool b310), (Value.string s311)] [(Value.bool b312), (Value.string s313)] = true) →
 Fin B h314 (fun h' => S_countermandlaw14_SheetDoes_J12 B k8 k29 q267 J268 (true) h' Q))
def S_countermandlaw14_SheetDoes_J2 (B : RO) (k8 : Nat) (p16 : Option Addr) (p17 : Option Addr) (k20 : Nat) (s26 : ByteArray) (h28 : Heap) (Q : Bool → Heap → Prop) : Prop :=
 ∀ k29 : Nat, h28 k29 = none → B k29 = none → ∀ h30 : Heap, h30 = Heap.set h28 k29 (.vec 3 (plains [(Value.int .i64 (0))]) 1) →
 ∃ h31 : Heap, storeH h30 ⟨k29, 0, none⟩ (Value.int .i64 (0)) = some h31 ∧
 C_sheet_Sheet_Draft B p17 h31 (fun p259 h258 =>
 C_draft_Draft_file_File_All B p259 h258 (fun v261 h260 =>
 ∃ (xs269 : List (Int × Bool × ByteArray)) (G265 : Heap → Prop) (J268 : Nat → Heap → Prop), Iter PG B v261 (xs269.map (fun x : Int × Bool × ByteArray => [(Value.int .i64 (x.1)), (Value.agg #[(Value.bool x.2.1), (Value.string x.2.2)])])) G265 ∧ Ins G265 ∧ (∀ i h, J268 i h → G265 h) ∧ Fin B h260 (J268 0) ∧
 (∀ (q267 : Nat) (h266 : Heap) (i262 : Int) (b263 : Bool) (s264 : ByteArray), xs269[q267]? = some (i262, b263, s264) → J268 q267 h266 →
 ∀ k270 : Nat, h266 k270 = none → B k270 = none → ∀ h271 : Heap, h271 = Heap.set h266 k270 (.vec 41 (plains [(Value.bool false), (Value.string ByteArray.empty)]) 2) →
 ∃ h272 : Heap, StoresAt ⟨k270, 0, none⟩ h271 0 [(Value.bool b263), (Value.string s264)] h272 ∧
 C_countermandref14_Is B (i262) h272 (fun b282 h281 =>
 (b282 = true →
 ∃ p285 : Option Addr, cellH B h281 ⟨k20, 0, none⟩ = some (Value.pointer p285) ∧
 ∃ A286 : Addr, p285 = some A286 ∧
 0 ≤ (i262 : Int) ∧ (i262 : Int) < (6 : Nat) ∧
 ∃ b288 : Bool, cellH B h281 (Addr.add (Addr.add A286 24) (Int.toNat (i262) * 1)) = some (Value.bool b288) ∧ (b288 = true →
 (∃ b316 : Bool, ∃ s317 : ByteArray, CellsAt B h281 ⟨k270, 0, none⟩ 0 [(Value.bool b316), (Value.string s317)] ∧
 ∃ p318 : Option Addr, cellH B h281 ⟨k20, 0, none⟩ = some (Value.pointer p318) ∧
 ∃ A319 : Addr, p318 = some A319 ∧
 0 ≤ (i262 : Int) ∧ (i262 : Int) < (6 : Nat) ∧
 ∃ b321 : Bool, ∃ s322 : ByteArray, CellsAt B h281 (Addr.add (Addr.add A319 12) (Int.toNat (i262) * 2)) 0 [(Value.bool b321), (Value.string s322)] ∧
 S_countermandlaw14_SheetDoes_J15 B k8 k29 q267 J268 (b316) s317 (b321) s322 h281 Q) ∧
 (∃ p323 : Option Addr, cellH B h281 ⟨k20, 0, none⟩ = some (Value.pointer p323) ∧
 ∃ A324 : Addr, p323 = some A324 ∧
 0 ≤ (i262 : Int) ∧ (i262 : Int) < (6 : Nat) ∧
 (∃ b326 : Bool, ∃ s327 : ByteArray, CellsAt B h281 ⟨k270, 0, none⟩ 0 [(Value.bool b326), (Value.string s327)] ∧
 ∃ b328 : Bool, ∃ s329 : ByteArray, CellsAt B h281 (Addr.add (Addr.add A324 12) (Int.toNat (i262) * 2)) 0 [(Value.bool b328), (Value.string s329)] ∧
 S_countermandlaw14_SheetDoes_J15 B k8 k29 q267 J268 (b326) s327 (b328) s329 h281 Q) ∧
 (∃ b330 : Bool, ∃ s331 : ByteArray, CellsAt B h281 (Addr.add (Addr.add A324 12) (Int.toNat (i262) * 2)) 0 [(Value.bool b330), (Value.string s331)] ∧
 ∃ b332 : Bool, ∃ s333 : ByteArray, CellsAt B h281 ⟨k270, 0, none⟩ 0 [(Value.bool b332), (Value.string s333)] ∧
 S_countermandlaw14_SheetDoes_J15 B k8 k29 q267 J268 (b332) s333 (b330) s331 h281 Q))) ∧ (b288 = false →
 (S_countermandlaw14_SheetDoes_J14 B k8 k29 q267 J268 h281 Q) ∧
 ((S_countermandlaw14_SheetDoes_J14 B k8 k29 q267 J268 h281 Q) ∧
 (S_countermandlaw14_SheetDoes_J14 B k8 k29 q267 J268 h281 Q)))) ∧ (b282 = false →
 (S_countermandlaw14_SheetDoes_J13 B k8 k29 q267 J268 h281 Q) ∧
 ((S_countermandlaw14_SheetDoes_J13 B k8 k29 q267 J268 h281 Q) ∧
 (S_countermandlaw14_SheetDoes_J13 B k8 k29 q267 J268 h281 Q))))) ∧
 (∀ (h266 : Heap), J268 xs269.length h266 →
 Fin B h266 (fun h' => S_countermandlaw14_SheetDoes_J3 B k8 p16 p17 k20 s26 k29 h' Q))))
def S_countermandlaw14_SheetDoes_J1 (B : RO) (a2 : Option Addr) (n3 : Nat) (c4 : Nat) (k8 : Nat) (p16 : Option Addr) (p17 : Option Addr) (k20 : Nat) (h24 : Heap) (Q : Bool → Heap → Prop) : Prop :=
 C_tome_Tome_Bytes B p16 h24 (fun s26 h25 =>
 ∃ (J339 : Int → Nat → Heap → Prop) (m337 : Nat), Fin B h25 (J339 (0) m337) ∧
 ∀ (i334 : Int) (m336 : Nat) (h335 : Heap), J339 i334 m336 h335 →
 ((i334 : Int) < ((n3 : Nat)) →
 ∃ A341 : Addr, a2 = some A341 ∧ 0 ≤ (i334 : Int) ∧ (i334 : Int) < (n3 : Nat) ∧
 ∃ i343 : Int, ∃ i344 : Int, ∃ i345 : Int, ∃ i346 : Int, CellsAt B h335 (Addr.add A341 (Int.toNat (i334) * 4)) 0 [(Value.int .i64 (i343)), (Value.int .i64 (i344)), (Value.int .i64 (i345)), (Value.int .u8 (i346))] ∧
 ∀ k347 : Nat, h335 k347 = none → B k347 = none → ∀ h348 : Heap, h348 = Heap.set h335 k347 (.vec 81 (plains [(Value.int .i64 (0)), (Value.int .i64 (0)), (Value.int .i64 (0)), (Value.int .u8 (0))]) 4) →
 ∃ h349 : Heap, StoresAt ⟨k347, 0, none⟩ h348 0 [(Value.int .i64 (i343)), (Value.int .i64 (i344)), (Value.int .i64 (i345)), (Value.int .u8 (i346))] h349 ∧
 ∃ p350 : Option Addr, cellH B h349 ⟨k20, 0, none⟩ = some (Value.pointer p350) ∧
 ∃ i351 : Int, ∃ i352 : Int, ∃ i353 : Int, ∃ i354 : Int, CellsAt B h349 ⟨k347, 0, none⟩ 0 [(Value.int .i64 (i351)), (Value.int .i64 (i352)), (Value.int .i64 (i353)), (Value.int .u8 (i354))] ∧
 C_countermandlaw14_does B p16 p17 p350 (i351) (i352) (i353) (i354) h349 (fun b356 h355 =>
 (b356 = true →
 ∃ (J364 : Int → Nat → Heap → Prop) (m362 : Nat), Fin B h355 (J364 (0) m362) ∧
 ∀ (i359 : Int) (m361 : Nat) (h360 : Heap), J364 i359 m361 h360 →
 ((i359 : Int) < (6) →
 C_sheet_Sheet_Get B p17 p16 (i359) h360 (fun b367 s368 b369 h366 =>
 ∀ k370 : Nat, h366 k370 = none → B k370 = none → ∀ h371 : Heap, h371 = Heap.set h366 k370 (.vec 41 (plains [(Value.bool false), (Value.string ByteArray.empty)]) 2) →
 ∃ h372 : Heap, StoresAt ⟨k370, 0, none⟩ h371 0 [(Value.bool b367), (Value.string s368)] h372 ∧
 ∃ b373 : Bool, ∃ s374 : ByteArray, CellsAt B h372 ⟨k370, 0, none⟩ 0 [(Value.bool b373), (Value.string s374)] ∧
 ∃ p375 : Option Addr, cellH B h372 ⟨k20, 0, none⟩ = some (Value.pointer p375) ∧
 ∃ A376 : Addr, p375 = some A376 ∧
 0 ≤ (i359 : Int) ∧ (i359 : Int) < (6 : Nat) ∧
 ∃ b378 : Bool, ∃ s379 : ByteArray, CellsAt B h372 (Addr.add (Addr.add A376 12) (Int.toNat (i359) * 2)) 0 [(Value.bool b378), (Value.string s379)] ∧
 (eqL [(Value.bool b373), (Value.string s374)] [(Value.bool b378), (Value.string s379)] = true →
 ∃ p381 : Option Addr, cellH B h372 ⟨k20, 0, none⟩ = some (Value.pointer p381) ∧
 ∃ A382 : Addr, p381 = some A382 ∧
 0 ≤ (i359 : Int) ∧ (i359 : Int) < (6 : Nat) ∧
 ∃ b384 : Bool, cellH B h372 (Addr.add (Addr.add A382 24) (Int.toNat (i359) * 1)) = some (Value.bool b384) ∧
 (b369 = b384 →
 Fin B h372 (fun h' => ∃ m', m' < m361 ∧ J364 (IntKind.wrap .i64 ((i359) + (1))) m' h')) ∧ (¬ (b369 = b384) →
 ∃ h386 : Heap, storeH h372 ⟨k8, 0, none⟩ (Value.bool false) = some h386 ∧
 ∃ b387 : Bool, cellH B h386 ⟨k8, 0, none⟩ = some (Value.bool b387) ∧ Fin B h386 (Q (b387)))) ∧ (¬ (eqL [(Value.bool b373), (Value.string s374)] [(Value.bool b378), (Value.string s379)] = true) →
 ∃ h388 : Heap, storeH h372 ⟨k8, 0, none⟩ (Value.bool false) = some h388 ∧
 ∃ b389 : Bool, cellH B h388 ⟨k8, 0, none⟩ = some (Value.bool b389) ∧ Fin B h388 (Q (b389))))) ∧ (¬ ((i359 : Int) < (6)) →
 Fin B h360 (fun h' => ∃ m', m' < m336 ∧ J339 (IntKind.wrap .i64 ((i334) + (1))) m' h'))) ∧ (b356 = false →
 ∃ h357 : Heap, storeH h355 ⟨k8, 0, none⟩ (Value.bool false) = some h357 ∧
 ∃ b358 : Bool, cellH B h357 ⟨k8, 0, none⟩ = some (Value.bool b358) ∧ Fin B h357 (Q (b358))))) ∧ (¬ ((i334 : Int) < ((n3 : Nat))) →
 Fin B h335 (fun h' => S_countermandlaw14_SheetDoes_J2 B k8 p16 p17 k20 s26 h' Q)))
def S_countermandlaw14_SheetDoes_J19 (B : RO) (k8 : Nat) (p16 : Option Addr) (h414 : Heap) (Q : Bool → Heap → Prop) : Prop :=
 C_sheet_Sheet_Write B none p16 (0) (0) (0) h414 (fun b416 h415 =>
 (b416 = true →
 ∃ h447 : Heap, storeH h415 ⟨k8, 0, none⟩ (Value.bool false) = some h447 ∧
 ∃ b448 : Bool, cellH B h447 ⟨k8, 0, none⟩ = some (Value.bool b448) ∧ Fin B h447 (Q (b448))) ∧ (b416 = false →
 C_sheet_Sheet_Cut B none p16 (0) (0) h415 (fun b418 h417 =>
 (b418 = true →
 ∃ h445 : Heap, storeH h417 ⟨k8, 0, none⟩ (Value.bool false) = some h445 ∧
 ∃ b446 : Bool, cellH B h445 ⟨k8, 0, none⟩ = some (Value.bool b446) ∧ Fin B h445 (Q (b446))) ∧ (b418 = false →
 C_sheet_Sheet_Create B none p16 (0) h417 (fun b420 h419 =>
 (b420 = true →
 ∃ h443 : Heap, storeH h419 ⟨k8, 0, none⟩ (Value.bool false) = some h443 ∧
 ∃ b444 : Bool, cellH B h443 ⟨k8, 0, none⟩ = some (Value.bool b444) ∧ Fin B h443 (Q (b444))) ∧ (b420 = false →
 C_sheet_Sheet_Remove B none p16 (0) h419 (fun b422 h421 =>
 (b422 = true →
 ∃ h441 : Heap, storeH h421 ⟨k8, 0, none⟩ (Value.bool false) = some h441 ∧
 ∃ b442 : Bool, cellH B h441 ⟨k8, 0, none⟩ = some (Value.bool b442) ∧ Fin B h441 (Q (b442))) ∧ (b422 = false →
 C_sheet_Sheet_Rename B none p16 (0) (1) h421 (fun b424 h423 =>
 (b424 = true →
 ∃ h439 : Heap, storeH h423 ⟨k8, 0, none⟩ (Value.bool false) = some h439 ∧
 ∃ b440 : Bool, cellH B h439 ⟨k8, 0, none⟩ = some (Value.bool b440) ∧ Fin B h439 (Q (b440))) ∧ (b424 = false →
 C_sheet_Sheet_Draft B none h423 (fun p426 h425 =>
 (p426 = none →
 C_sheet_Sheet_Copy B none h425 (fun p429 h428 =>
 (p429 = none →
 C_sheet_Sheet_Over B none p16 (1) h428 (fun i432 h431 =>
 ∃ h433 : Heap, storeH h431 ⟨k8, 0, none⟩ (Value.bool ((i432 : Int) == (0))) = some h433 ∧
 ∃ b434 : Bool, cellH B h433 ⟨k8, 0, none⟩ = some (Value.bool b434) ∧ Fin B h433 (Q (b434)))) ∧ (¬ (p429 = none) →
 ∃ h435 : Heap, storeH h428 ⟨k8, 0, none⟩ (Value.bool false) = some h435 ∧
 ∃ b436 : Bool, cellH B h435 ⟨k8, 0, none⟩ = some (Value.bool b436) ∧ Fin B h435 (Q (b436))))) ∧ (¬ (p426 = none) →
 ∃ h437 : Heap, storeH h425 ⟨k8, 0, none⟩ (Value.bool false) = some h437 ∧
 ∃ b438 : Bool, cellH B h437 ⟨k8, 0, none⟩ = some (Value.bool b438) ∧ Fin B h437 (Q (b438))))))))))))))
def S_countermandlaw14_SheetDoes_J20 (B : RO) (k8 : Nat) (p16 : Option Addr) (k401 : Nat) (i449 : Int) (b482 : Bool) (s483 : ByteArray) (b484 : Bool) (s485 : ByteArray) (h486 : Heap) (Q : Bool → Heap → Prop) : Prop :=
 (eqL [(Value.bool b482), (Value.string s483)] [(Value.bool b484), (Value.string s485)] = true →
 Fin B h486 (fun h' => S_countermandlaw14_SheetDoes_J19 B k8 p16 h' Q)) ∧ (¬ (eqL [(Value.bool b482), (Value.string s483)] [(Value.bool b484), (Value.string s485)] = true) →
 ∃ h489 : Heap, storeH h486 ⟨k8, 0, none⟩ (Value.bool false) = some h489 ∧
 ∃ b490 : Bool, cellH B h489 ⟨k8, 0, none⟩ = some (Value.bool b490) ∧ Fin B h489 (Q (b490)))
def S_countermandlaw14_SheetDoes_J21 (B : RO) (k8 : Nat) (p16 : Option Addr) (k401 : Nat) (i449 : Int) (h510 : Heap) (Q : Bool → Heap → Prop) : Prop :=
 ∃ h512 : Heap, storeH h510 ⟨k8, 0, none⟩ (Value.bool false) = some h512 ∧
 ∃ b513 : Bool, cellH B h512 ⟨k8, 0, none⟩ = some (Value.bool b513) ∧ Fin B h512 (Q (b513))
def S_countermandlaw14_SheetDoes_J22 (B : RO) (k8 : Nat) (p16 : Option Addr) (k401 : Nat) (i449 : Int) (h515 : Heap) (Q : Bool → Heap → Prop) : Prop :=
 ∃ h517 : Heap, storeH h515 ⟨k8, 0, none⟩ (Value.bool false) = some h517 ∧
 ∃ b518 : Bool, cellH B h517 ⟨k8, 0, none⟩ = some (Value.bool b518) ∧ Fin B h517 (Q (b518))
def S_countermandlaw14_SheetDoes_J23 (B : RO) (k8 : Nat) (p16 : Option Addr) (h523 : Heap) (Q : Bool → Heap → Prop) : Prop :=
 C_sheet_Sheet_Write B none p16 (0) (0) (0) h523 (fun b525 h524 =>
 (b525 = true →
 ∃ h556 : Heap, storeH h524 ⟨k8, 0, none⟩ (Value.bool false) = some h556 ∧
 ∃ b557 : Bool, cellH B h556 ⟨k8, 0, none⟩ = some (Value.bool b557) ∧ Fin B h556 (Q (b557))) ∧ (b525 = false →
 C_sheet_Sheet_Cut B none p16 (0) (0) h524 (fun b527 h526 =>
 (b527 = true →
 ∃ h554 : Heap, storeH h526 ⟨k8, 0, none⟩ (Value.bool false) = some h554 ∧
 ∃ b555 : Bool, cellH B h554 ⟨k8, 0, none⟩ = some (Value.bool b555) ∧ Fin B h554 (Q (b555))) ∧ (b527 = false →
 C_sheet_Sheet_Create B none p16 (0) h526 (fun b529 h528 =>
 (b529 = true →
 ∃ h552 : Heap, storeH h528 ⟨k8, 0, none⟩ (Value.bool false) = some h552 ∧
 ∃ b553 : Bool, cellH B h552 ⟨k8, 0, none⟩ = some (Value.bool b553) ∧ Fin B h552 (Q (b553))) ∧ (b529 = false →
 C_sheet_Sheet_Remove B none p16 (0) h528 (fun b531 h530 =>
 (b531 = true →
 ∃ h550 : Heap, storeH h530 ⟨k8, 0, none⟩ (Value.bool false) = some h550 ∧
 ∃ b551 : Bool, cellH B h550 ⟨k8, 0, none⟩ = some (Value.bool b551) ∧ Fin B h550 (Q (b551))) ∧ (b531 = false →
 C_sheet_Sheet_Rename B none p16 (0) (1) h530 (fun b533 h532 =>
 (b533 = true →
 ∃ h548 : Heap, storeH h532 ⟨k8, 0, none⟩ (Value.bool false) = some h548 ∧
 ∃ b549 : Bool, cellH B h548 ⟨k8, 0, none⟩ = some (Value.bool b549) ∧ Fin B h548 (Q (b549))) ∧ (b533 = false →
 C_sheet_Sheet_Draft B none h532 (fun p535 h534 =>
 (p535 = none →
 C_sheet_Sheet_Copy B none h534 (fun p538 h537 =>
 (p538 = none →
 C_sheet_Sheet_Over B none p16 (1) h537 (fun i541 h540 =>
 ∃ h542 : Heap, storeH h540 ⟨k8, 0, none⟩ (Value.bool ((i541 : Int) == (0))) = some h542 ∧
 ∃ b543 : Bool, cellH B h542 ⟨k8, 0, none⟩ = some (Value.bool b543) ∧ Fin B h542 (Q (b543)))) ∧ (¬ (p538 = none) →
 ∃ h544 : Heap, storeH h537 ⟨k8, 0, none⟩ (Value.bool false) = some h544 ∧
 ∃ b545 : Bool, cellH B h544 ⟨k8, 0, none⟩ = some (Value.bool b545) ∧ Fin B h544 (Q (b545))))) ∧ (¬ (p535 = none) →
 ∃ h546 : Heap, storeH h534 ⟨k8, 0, none⟩ (Value.bool false) = some h546 ∧
 ∃ b547 : Bool, cellH B h546 ⟨k8, 0, none⟩ = some (Value.bool b547) ∧ Fin B h546 (Q (b547))))))))))))))
def S_countermandlaw14_SheetDoes_J24 (B : RO) (k8 : Nat) (p16 : Option Addr) (k401 : Nat) (i558 : Int) (b591 : Bool) (s592 : ByteArray) (b593 : Bool) (s594 : ByteArray) (h595 : Heap) (Q : Bool → Heap → Prop) : Prop :=
 (eqL [(Value.bool b591), (Value.string s592)] [(Value.bool b593), (Value.string s594)] = true →
 ∃ h598 : Heap, storeH h595 ⟨k8, 0, none⟩ (Value.bool false) = some h598 ∧
 ∃ b599 : Bool, cellH B h598 ⟨k8, 0, none⟩ = some (Value.bool b599) ∧ Fin B h598 (Q (b599))) ∧ (¬ (eqL [(Value.bool b591), (Value.string s592)] [(Value.bool b593), (Value.string s594)] = true) →
 ∃ h600 : Heap, storeH h595 ⟨k8, 0, none⟩ (Value.bool false) = some h600 ∧
 ∃ b601 : Bool, cellH B h600 ⟨k8, 0, none⟩ = some (Value.bool b601) ∧ Fin B h600 (Q (b601)))
def S_countermandlaw14_SheetDoes_J25 (B : RO) (k8 : Nat) (p16 : Option Addr) (k401 : Nat) (i558 : Int) (h621 : Heap) (Q : Bool → Heap → Prop) : Prop :=
 ∃ h623 : Heap, storeH h621 ⟨k8, 0, none⟩ (Value.bool false) = some h623 ∧
 ∃ b624 : Bool, cellH B h623 ⟨k8, 0, none⟩ = some (Value.bool b624) ∧ Fin B h623 (Q (b624))
def S_countermandlaw14_SheetDoes_J26 (B : RO) (k8 : Nat) (p16 : Option Addr) (k401 : Nat) (i558 : Int) (h626 : Heap) (Q : Bool → Heap → Prop) : Prop :=
 ∃ h628 : Heap, storeH h626 ⟨k8, 0, none⟩ (Value.bool false) = some h628 ∧
 ∃ b629 : Bool, cellH B h628 ⟨k8, 0, none⟩ = some (Value.bool b629) ∧ Fin B h628 (Q (b629))
def S_countermandlaw14_SheetDoes_J18 (B : RO) (k8 : Nat) (p16 : Option Addr) (p17 : Option Addr) (k392 : Nat) (s398 : ByteArray) (k401 : Nat) (h405 : Heap) (Q : Bool → Heap → Prop) : Prop :=
 C_sheet_Sheet_Get B none p16 (0) h405 (fun b407 s408 b409 h406 =>
 (b409 = true →
 ∀ k519 : Nat, h406 k519 = none → B k519 = none → ∀ h520 : Heap, h520 = Heap.set h406 k519 (.vec 41 (plains [(Value.bool false), (Value.string ByteArray.empty)]) 2) →
 ∃ h521 : Heap, StoresAt ⟨k519, 0, none⟩ h520 0 [(Value.bool b407), (Value.string s408)] h521 ∧
 ∃ i558 : Int, cellH B h521 ⟨k401, 0, none⟩ = some (Value.int .i64 (i558)) ∧
 C_sheet_Sheet_Draft B p17 h521 (fun p562 h561 =>
 cellH B h561 ⟨k401, 0, none⟩ = some (Value.int .i64 (i558)) ∧
 C_draft_Draft_file_File_Len B p562 h561 (fun i565 h564 =>
 cellH B h564 ⟨k401, 0, none⟩ = some (Value.int .i64 (i558)) ∧
 ((i558 : Int) = i565 →
 C_tome_Tome_Bytes B p16 h564 (fun s569 h568 =>
 cellH B h568 ⟨k401, 0, none⟩ = some (Value.int .i64 (i558)) ∧
 (s569 = s398 →
 (∃ b602 : Bool, ∃ s603 : ByteArray, CellsAt B h568 ⟨k519, 0, none⟩ 0 [(Value.bool b602), (Value.string s603)] ∧
 ∃ p604 : Option Addr, cellH B h568 ⟨k392, 0, none⟩ = some (Value.pointer p604) ∧
 ∃ A605 : Addr, p604 = some A605 ∧
 0 ≤ (0 : Int) ∧ (0 : Int) < (6 : Nat) ∧
 ∃ b607 : Bool, ∃ s608 : ByteArray, CellsAt B h568 A605 0 [(Value.bool b607), (Value.string s608)] ∧
 S_countermandlaw14_SheetDoes_J24 B k8 p16 k401 i558 (b602) s603 (b607) s608 h568 Q) ∧
 (∃ p609 : Option Addr, cellH B h568 ⟨k392, 0, none⟩ = some (Value.pointer p609) ∧
 ∃ A610 : Addr, p609 = some A610 ∧
 0 ≤ (0 : Int) ∧ (0 : Int) < (6 : Nat) ∧
 (∃ b612 : Bool, ∃ s613 : ByteArray, CellsAt B h568 ⟨k519, 0, none⟩ 0 [(Value.bool b612), (Value.string s613)] ∧
 ∃ b614 : Bool, ∃ s615 : ByteArray, CellsAt B h568 A610 0 [(Value.bool b614), (Value.string s615)] ∧
 S_countermandlaw14_SheetDoes_J24 B k8 p16 k401 i558 (b612) s613 (b614) s615 h568 Q) ∧
 (∃ b616 : Bool, ∃ s617 : ByteArray, CellsAt B h568 A610 0 [(Value.bool b616), (Value.string s617)] ∧
 ∃ b618 : Bool, ∃ s619 : ByteArray, CellsAt B h568 ⟨k519, 0, none⟩ 0 [(Value.bool b618), (Value.string s619)] ∧
 S_countermandlaw14_SheetDoes_J24 B k8 p16 k401 i558 (b618) s619 (b616) s617 h568 Q))) ∧ (¬ (s569 = s398) →
 (S_countermandlaw14_SheetDoes_J25 B k8 p16 k401 i558 h568 Q) ∧
 ((S_countermandlaw14_SheetDoes_J25 B k8 p16 k401 i558 h568 Q) ∧
 (S_countermandlaw14_SheetDoes_J25 B k8 p16 k401 i558 h568 Q))))) ∧ (¬ ((i558 : Int) = i565) →
 (S_countermandlaw14_SheetDoes_J26 B k8 p16 k401 i558 h564 Q) ∧
 ((S_countermandlaw14_SheetDoes_J26 B k8 p16 k401 i558 h564 Q) ∧
 (S_countermandlaw14_SheetDoes_J26 B k8 p16 k401 i558 h564 Q)))))) ∧ (b409 = false →
 ∀ k410 : Nat, h406 k410 = none → B k410 = none → ∀ h411 : Heap, h411 = Heap.set h406 k410 (.vec 41 (plains [(Value.bool false), (Value.string ByteArray.empty)]) 2) →
 ∃ h412 : Heap, StoresAt ⟨k410, 0, none⟩ h411 0 [(Value.bool b407), (Value.string s408)] h412 ∧
 ∃ i449 : Int, cellH B h412 ⟨k401, 0, none⟩ = some (Value.int .i64 (i449)) ∧
 C_sheet_Sheet_Draft B p17 h412 (fun p453 h452 =>
 cellH B h452 ⟨k401, 0, none⟩ = some (Value.int .i64 (i449)) ∧
 C_draft_Draft_file_File_Len B p453 h452 (fun i456 h455 =>
 cellH B h455 ⟨k401, 0, none⟩ = some (Value.int .i64 (i449)) ∧
 ((i449 : Int) = i456 →
 C_tome_Tome_Bytes B p16 h455 (fun s460 h459 =>
 cellH B h459 ⟨k401, 0, none⟩ = some (Value.int .i64 (i449)) ∧
 (s460 = s398 →
 (∃ b491 : Bool, ∃ s492 : ByteArray, CellsAt B h459 ⟨k410, 0, none⟩ 0 [(Value.bool b491), (Value.string s492)] ∧
 ∃ p493 : Option Addr, cellH B h459 ⟨k392, 0, none⟩ = some (Value.pointer p493) ∧
 ∃ A494 : Addr, p493 = some A494 ∧
 0 ≤ (0 : Int) ∧ (0 : Int) < (6 : Nat) ∧
 ∃ b496 : Bool, ∃ s497 : ByteArray, CellsAt B h459 A494 0 [(Value.bool b496), (Value.string s497)] ∧
 S_countermandlaw14_SheetDoes_J20 B k8 p16 k401 i449 (b491) s492 (b496) s497 h459 Q) ∧
 (∃ p498 : Option Addr, cellH B h459 ⟨k392, 0, none⟩ = some (Value.pointer p498) ∧
 ∃ A499 : Addr, p498 = some A499 ∧
 0 ≤ (0 : Int) ∧ (0 : Int) < (6 : Nat) ∧
 (∃ b501 : Bool, ∃ s502 : ByteArray, CellsAt B h459 ⟨k410, 0, none⟩ 0 [(Value.bool b501), (Value.string s502)] ∧
 ∃ b503 : Bool, ∃ s504 : ByteArray, CellsAt B h459 A499 0 [(Value.bool b503), (Value.string s504)] ∧
 S_countermandlaw14_SheetDoes_J20 B k8 p16 k401 i449 (b501) s502 (b503) s504 h459 Q) ∧
 (∃ b505 : Bool, ∃ s506 : ByteArray, CellsAt B h459 A499 0 [(Value.bool b505), (Value.string s506)] ∧
 ∃ b507 : Bool, ∃ s508 : ByteArray, CellsAt B h459 ⟨k410, 0, none⟩ 0 [(Value.bool b507), (Value.string s508)] ∧
 S_countermandlaw14_SheetDoes_J20 B k8 p16 k401 i449 (b507) s508 (b505) s506 h459 Q))) ∧ (¬ (s460 = s398) →
 (S_countermandlaw14_SheetDoes_J21 B k8 p16 k401 i449 h459 Q) ∧
 ((S_countermandlaw14_SheetDoes_J21 B k8 p16 k401 i449 h459 Q) ∧
 (S_countermandlaw14_SheetDoes_J21 B k8 p16 k401 i449 h459 Q))))) ∧ (¬ ((i449 : Int) = i456) →
 (S_countermandlaw14_SheetDoes_J22 B k8 p16 k401 i449 h455 Q) ∧
 ((S_countermandlaw14_SheetDoes_J22 B k8 p16 k401 i449 h455 Q) ∧
 (S_countermandlaw14_SheetDoes_J22 B k8 p16 k401 i449 h455 Q)))))))
def S_countermandlaw14_SheetDoes_J27 (B : RO) (k8 : Nat) (k401 : Nat) (q639 : Nat) (J640 : Nat → Heap → Prop) (b646 : Bool) (h647 : Heap) (Q : Bool → Heap → Prop) : Prop :=
 (b646 = true →
 ∃ h650 : Heap, storeH h647 ⟨k8, 0, none⟩ (Value.bool false) = some h650 ∧
 ∃ b651 : Bool, cellH B h650 ⟨k8, 0, none⟩ = some (Value.bool b651) ∧ Fin B h650 (Q (b651))) ∧ (b646 = false →
 ∃ i648 : Int, cellH B h647 ⟨k401, 0, none⟩ = some (Value.int .i64 (i648)) ∧
 ∃ h649 : Heap, storeH h647 ⟨k401, 0, none⟩ (Value.int .i64 (IntKind.wrap .i64 ((i648) + (1)))) = some h649 ∧
 Fin B h649 (J640 (q639 + 1)))
def S_countermandlaw14_SheetDoes_J28 (B : RO) (k8 : Nat) (k401 : Nat) (q639 : Nat) (J640 : Nat → Heap → Prop) (h656 : Heap) (Q : Bool → Heap → Prop) : Prop :=
 Fin B h656 (fun h' => S_countermandlaw14_SheetDoes_J27 B k8 k401 q639 J640 (true) h' Q)
def S_countermandlaw14_SheetDoes_J29 (B : RO) (k8 : Nat) (k401 : Nat) (q639 : Nat) (J640 : Nat → Heap → Prop) (h662 : Heap) (Q : Bool → Heap → Prop) : Prop :=
 Fin B h662 (fun h' => S_countermandlaw14_SheetDoes_J27 B k8 k401 q639 J640 (true) h' Q)
def S_countermandlaw14_SheetDoes_J30 (B : RO) (k8 : Nat) (k401 : Nat) (q639 : Nat) (J640 : Nat → Heap → Prop) (b682 : Bool) (s683 : ByteArray) (b684 : Bool) (s685 : ByteArray) (h686 : Heap) (Q : Bool → Heap → Prop) : Prop :=
 (eqL [(Value.bool b682), (Value.string s683)] [(Value.bool b684), (Value.string s685)] = true →
 Fin B h686 (fun h' => S_countermandlaw14_SheetDoes_J27 B k8 k401 q639 J640 (false) h' Q)) ∧ (¬ (eqL [(Value.bool b682), (Value.string s683)] [(Value.bool b684), (Value.string s685)] = true) →
 Fin B h686 (fun h' => S_countermandlaw14_SheetDoes_J27 B k8 k401 q639 J640 (true) h' Q))
def S_countermandlaw14_SheetDoes_J17 (B : RO) (k8 : Nat) (p16 : Option Addr) (p17 : Option Addr) (k392 : Nat) (s398 : ByteArray) (h400 : Heap) (Q : Bool → Heap → Prop) : Prop :=
 ∀ k401 : Nat, h400 k401 = none → B k401 = none → ∀ h402 : Heap, h402 = Heap.set h400 k401 (.vec 3 (plains [(Value.int .i64 (0))]) 1) →
 ∃ h403 : Heap, storeH h402 ⟨k401, 0, none⟩ (Value.int .i64 (0)) = some h403 ∧
 C_sheet_Sheet_Draft B p17 h403 (fun p631 h630 =>
 C_draft_Draft_file_File_All B p631 h630 (fun v633 h632 =>
 ∃ (xs641 : List (Int × Bool × ByteArray)) (G637 : Heap → Prop) (J640 : Nat → Heap → Prop), Iter PG B v633 (xs641.map (fun x : Int × Bool × ByteArray => [(Value.int .i64 (x.1)), (Value.agg #[(Value.bool x.2.1), (Value.string x.2.2)])])) G637 ∧ Ins G637 ∧ (∀ i h, J640 i h → G637 h) ∧ Fin B h632 (J640 0) ∧
 (∀ (q639 : Nat) (h638 : Heap) (i634 : Int) (b635 : Bool) (s636 : ByteArray), xs641[q639]? = some (i634, b635, s636) → J640 q639 h638 →
 ∀ k642 : Nat, h638 k642 = none → B k642 = none → ∀ h643 : Heap, h643 = Heap.set h638 k642 (.vec 41 (plains [(Value.bool false), (Value.string ByteArray.empty)]) 2) →
 ∃ h644 : Heap, StoresAt ⟨k642, 0, none⟩ h643 0 [(Value.bool b635), (Value.string s636)] h644 ∧
 C_countermandref14_Is B (i634) h644 (fun b654 h653 =>
 (b654 = true →
 ∃ p657 : Option Addr, cellH B h653 ⟨k392, 0, none⟩ = some (Value.pointer p657) ∧
 ∃ A658 : Addr, p657 = some A658 ∧
 0 ≤ (i634 : Int) ∧ (i634 : Int) < (6 : Nat) ∧
 ∃ b660 : Bool, cellH B h653 (Addr.add (Addr.add A658 24) (Int.toNat (i634) * 1)) = some (Value.bool b660) ∧ (b660 = true →
 (∃ b688 : Bool, ∃ s689 : ByteArray, CellsAt B h653 ⟨k642, 0, none⟩ 0 [(Value.bool b688), (Value.string s689)] ∧
 ∃ p690 : Option Addr, cellH B h653 ⟨k392, 0, none⟩ = some (Value.pointer p690) ∧
 ∃ A691 : Addr, p690 = some A691 ∧
 0 ≤ (i634 : Int) ∧ (i634 : Int) < (6 : Nat) ∧
 ∃ b693 : Bool, ∃ s694 : ByteArray, CellsAt B h653 (Addr.add (Addr.add A691 12) (Int.toNat (i634) * 2)) 0 [(Value.bool b693), (Value.string s694)] ∧
 S_countermandlaw14_SheetDoes_J30 B k8 k401 q639 J640 (b688) s689 (b693) s694 h653 Q) ∧
 (∃ p695 : Option Addr, cellH B h653 ⟨k392, 0, none⟩ = some (Value.pointer p695) ∧
 ∃ A696 : Addr, p695 = some A696 ∧
 0 ≤ (i634 : Int) ∧ (i634 : Int) < (6 : Nat) ∧
 (∃ b698 : Bool, ∃ s699 : ByteArray, CellsAt B h653 ⟨k642, 0, none⟩ 0 [(Value.bool b698), (Value.string s699)] ∧
 ∃ b700 : Bool, ∃ s701 : ByteArray, CellsAt B h653 (Addr.add (Addr.add A696 12) (Int.toNat (i634) * 2)) 0 [(Value.bool b700), (Value.string s701)] ∧
 S_countermandlaw14_SheetDoes_J30 B k8 k401 q639 J640 (b698) s699 (b700) s701 h653 Q) ∧
 (∃ b702 : Bool, ∃ s703 : ByteArray, CellsAt B h653 (Addr.add (Addr.add A696 12) (Int.toNat (i634) * 2)) 0 [(Value.bool b702), (Value.string s703)] ∧
 ∃ b704 : Bool, ∃ s705 : ByteArray, CellsAt B h653 ⟨k642, 0, none⟩ 0 [(Value.bool b704), (Value.string s705)] ∧
 S_countermandlaw14_SheetDoes_J30 B k8 k401 q639 J640 (b704) s705 (b702) s703 h653 Q))) ∧ (b660 = false →
 (S_countermandlaw14_SheetDoes_J29 B k8 k401 q639 J640 h653 Q) ∧
 ((S_countermandlaw14_SheetDoes_J29 B k8 k401 q639 J640 h653 Q) ∧
 (S_countermandlaw14_SheetDoes_J29 B k8 k401 q639 J640 h653 Q)))) ∧ (b654 = false →
 (S_countermandlaw14_SheetDoes_J28 B k8 k401 q639 J640 h653 Q) ∧
 ((S_countermandlaw14_SheetDoes_J28 B k8 k401 q639 J640 h653 Q) ∧
 (S_countermandlaw14_SheetDoes_J28 B k8 k401 q639 J640 h653 Q))))) ∧
 (∀ (h638 : Heap), J640 xs641.length h638 →
 Fin B h638 (fun h' => S_countermandlaw14_SheetDoes_J18 B k8 p16 p17 k392 s398 k401 h' Q))))
def S_countermandlaw14_SheetDoes_J16 (B : RO) (a2 : Option Addr) (n3 : Nat) (c4 : Nat) (k8 : Nat) (p16 : Option Addr) (p17 : Option Addr) (k392 : Nat) (h396 : Heap) (Q : Bool → Heap → Prop) : Prop :=
 C_tome_Tome_Bytes B p16 h396 (fun s398 h397 =>
 ∃ (J711 : Int → Nat → Heap → Prop) (m709 : Nat), Fin B h397 (J711 (0) m709) ∧
 ∀ (i706 : Int) (m708 : Nat) (h707 : Heap), J711 i706 m708 h707 →
 ((i706 : Int) < ((n3 : Nat)) →
 ∃ A713 : Addr, a2 = some A713 ∧ 0 ≤ (i706 : Int) ∧ (i706 : Int) < (n3 : Nat) ∧
 ∃ i715 : Int, ∃ i716 : Int, ∃ i717 : Int, ∃ i718 : Int, CellsAt B h707 (Addr.add A713 (Int.toNat (i706) * 4)) 0 [(Value.int .i64 (i715)), (Value.int .i64 (i716)), (Value.int .i64 (i717)), (Value.int .u8 (i718))] ∧
 ∀ k719 : Nat, h707 k719 = none → B k719 = none → ∀ h720 : Heap, h720 = Heap.set h707 k719 (.vec 81 (plains [(Value.int .i64 (0)), (Value.int .i64 (0)), (Value.int .i64 (0)), (Value.int .u8 (0))]) 4) →
 ∃ h721 : Heap, StoresAt ⟨k719, 0, none⟩ h720 0 [(Value.int .i64 (i715)), (Value.int .i64 (i716)), (Value.int .i64 (i717)), (Value.int .u8 (i718))] h721 ∧
 ∃ p722 : Option Addr, cellH B h721 ⟨k392, 0, none⟩ = some (Value.pointer p722) ∧
 ∃ i723 : Int, ∃ i724 : Int, ∃ i725 : Int, ∃ i726 : Int, CellsAt B h721 ⟨k719, 0, none⟩ 0 [(Value.int .i64 (i723)), (Value.int .i64 (i724)), (Value.int .i64 (i725)), (Value.int .u8 (i726))] ∧
 C_countermandlaw14_does B p16 p17 p722 (i723) (i724) (i725) (i726) h721 (fun b728 h727 =>
 (b728 = true →
 ∃ (J736 : Int → Nat → Heap → Prop) (m734 : Nat), Fin B h727 (J736 (0) m734) ∧
 ∀ (i731 : Int) (m733 : Nat) (h732 : Heap), J736 i731 m733 h732 →
 ((i731 : Int) < (6) →
 C_sheet_Sheet_Get B p17 p16 (i731) h732 (fun b739 s740 b741 h738 =>
 ∀ k742 : Nat, h738 k742 = none → B k742 = none → ∀ h743 : Heap, h743 = Heap.set h738 k742 (.vec 41 (plains [(Value.bool false), (Value.string ByteArray.empty)]) 2) →
 ∃ h744 : Heap, StoresAt ⟨k742, 0, none⟩ h743 0 [(Value.bool b739), (Value.string s740)] h744 ∧
 ∃ b745 : Bool, ∃ s746 : ByteArray, CellsAt B h744 ⟨k742, 0, none⟩ 0 [(Value.bool b745), (Value.string s746)] ∧
 ∃ p747 : Option Addr, cellH B h744 ⟨k392, 0, none⟩ = some (Value.pointer p747) ∧
 ∃ A748 : Addr, p747 = some A748 ∧
 0 ≤ (i731 : Int) ∧ (i731 : Int) < (6 : Nat) ∧
 ∃ b750 : Bool, ∃ s751 : ByteArray, CellsAt B h744 (Addr.add (Addr.add A748 12) (Int.toNat (i731) * 2)) 0 [(Value.bool b750), (Value.string s751)] ∧
 (eqL [(Value.bool b745), (Value.string s746)] [(Value.bool b750), (Value.string s751)] = true →
 ∃ p753 : Option Addr, cellH B h744 ⟨k392, 0, none⟩ = some (Value.pointer p753) ∧
 ∃ A754 : Addr, p753 = some A754 ∧
 0 ≤ (i731 : Int) ∧ (i731 : Int) < (6 : Nat) ∧
 ∃ b756 : Bool, cellH B h744 (Addr.add (Addr.add A754 24) (Int.toNat (i731) * 1)) = some (Value.bool b756) ∧
 (b741 = b756 →
 Fin B h744 (fun h' => ∃ m', m' < m733 ∧ J736 (IntKind.wrap .i64 ((i731) + (1))) m' h')) ∧ (¬ (b741 = b756) →
 ∃ h758 : Heap, storeH h744 ⟨k8, 0, none⟩ (Value.bool false) = some h758 ∧
 ∃ b759 : Bool, cellH B h758 ⟨k8, 0, none⟩ = some (Value.bool b759) ∧ Fin B h758 (Q (b759)))) ∧ (¬ (eqL [(Value.bool b745), (Value.string s746)] [(Value.bool b750), (Value.string s751)] = true) →
 ∃ h760 : Heap, storeH h744 ⟨k8, 0, none⟩ (Value.bool false) = some h760 ∧
 ∃ b761 : Bool, cellH B h760 ⟨k8, 0, none⟩ = some (Value.bool b761) ∧ Fin B h760 (Q (b761))))) ∧ (¬ ((i731 : Int) < (6)) →
 Fin B h732 (fun h' => ∃ m', m' < m708 ∧ J711 (IntKind.wrap .i64 ((i706) + (1))) m' h'))) ∧ (b728 = false →
 ∃ h729 : Heap, storeH h727 ⟨k8, 0, none⟩ (Value.bool false) = some h729 ∧
 ∃ b730 : Bool, cellH B h729 ⟨k8, 0, none⟩ = some (Value.bool b730) ∧ Fin B h729 (Q (b730))))) ∧ (¬ ((i706 : Int) < ((n3 : Nat))) →
 Fin B h707 (fun h' => S_countermandlaw14_SheetDoes_J17 B k8 p16 p17 k392 s398 h' Q)))
def S_countermandlaw14_SheetDoes (B : RO) (l1 : List Value) (a2 : Option Addr) (n3 : Nat) (c4 : Nat) (h : Heap) (Q : Bool → Heap → Prop) : Prop :=
 ∀ k6 : Nat, h k6 = none → B k6 = none → ∀ h7 : Heap, h7 = Heap.set h k6 (.vec 71 (plains l1) (List.length l1)) →
 ∀ k8 : Nat, h7 k8 = none → B k8 = none → ∀ h9 : Heap, h9 = Heap.set h7 k8 (.vec 4 (plains [(Value.bool false)]) 1) →
 C_countermandlaw14_alive B h9 (fun b11 h10 =>
 (b11 = true →
 ∃ l14 : List Value, List.length l14 = 12 ∧ CellsAt B h10 ⟨k6, 0, none⟩ 0 l14 ∧
 C_countermandlaw14_build B l14 h10 (fun p16 p17 p18 b19 h15 =>
 (b19 = true →
 ∀ k392 : Nat, h15 k392 = none → B k392 = none → ∀ h393 : Heap, h393 = Heap.set h15 k392 (.vec 72 (plains [(Value.pointer none)]) 1) →
 ∃ h394 : Heap, storeH h393 ⟨k392, 0, none⟩ (Value.pointer p18) = some h394 ∧
 (((n3 : Nat) : Int) > (60) →
 ∃ h763 : Heap, storeH h394 ⟨k8, 0, none⟩ (Value.bool true) = some h763 ∧
 ∃ b764 : Bool, cellH B h763 ⟨k8, 0, none⟩ = some (Value.bool b764) ∧ Fin B h763 (Q (b764))) ∧ (¬ (((n3 : Nat) : Int) > (60)) →
 Fin B h394 (fun h' => S_countermandlaw14_SheetDoes_J16 B a2 n3 c4 k8 p16 p17 k392 h' Q))) ∧ (b19 = false →
 ∀ k20 : Nat, h15 k20 = none → B k20 = none → ∀ h21 : Heap, h21 = Heap.set h15 k20 (.vec 72 (plains [(Value.pointer none)]) 1) →
 ∃ h22 : Heap, storeH h21 ⟨k20, 0, none⟩ (Value.pointer p18) = some h22 ∧
 ∃ h390 : Heap, storeH h22 ⟨k8, 0, none⟩ (Value.bool true) = some h390 ∧
 ∃ b391 : Bool, cellH B h390 ⟨k8, 0, none⟩ = some (Value.bool b391) ∧ Fin B h390 (Q (b391))))) ∧ (b11 = false →
 ∃ h12 : Heap, storeH h10 ⟨k8, 0, none⟩ (Value.bool false) = some h12 ∧
 ∃ b13 : Bool, cellH B h12 ⟨k8, 0, none⟩ = some (Value.bool b13) ∧ Fin B h12 (Q (b13))))
def S_tome_New (B : RO) (h : Heap) (Q : Option Addr → Heap → Prop) : Prop :=
 C_cell_New_file_File B (6) (false) ByteArray.empty h (fun p3 h2 =>
 ∀ k4 : Nat, h2 k4 = none → B k4 = none → ∀ h5 : Heap, h5 = Heap.set h2 k4 (.vec 113 (plains [(Value.pointer p3)]) 1) →
 Fin B h5 (Q (some ⟨k4, 0, none⟩)))
def S_sheet_Sheet_Create (B : RO) (p1 : Option Addr) (p2 : Option Addr) (i3 : Int) (h : Heap) (Q : Bool → Heap → Prop) : Prop :=
 C_sheet_Sheet_Get B p1 p2 (i3) h (fun b6 s7 b8 h5 =>
 ∀ k9 : Nat, h5 k9 = none → B k9 = none → ∀ h10 : Heap, h10 = Heap.set h5 k9 (.vec 41 (plains [(Value.bool false), (Value.string ByteArray.empty)]) 2) →
 ∃ h11 : Heap, StoresAt ⟨k9, 0, none⟩ h10 0 [(Value.bool b6), (Value.string s7)] h11 ∧
 ∃ b12 : Bool, ∃ s13 : ByteArray, CellsAt B h11 ⟨k9, 0, none⟩ 0 [(Value.bool b12), (Value.string s13)] ∧
 C_file_Make B (b12) s13 h11 (fun b15 s16 h14 =>
 C_sheet_Sheet_put B p1 p2 (i3) (b15) s16 h14 (fun b18 h17 =>
 Fin B h17 (Q (b18)))))
def S_sheet_Sheet_Get_J1 (B : RO) (p2 : Option Addr) (i3 : Int) (k7 : Nat) (h10 : Heap) (Q : Bool → ByteArray → Bool → Heap → Prop) : Prop :=
 C_tome_Tome_Get B p2 (i3) h10 (fun b12 s13 i14 h11 =>
 ∀ k15 : Nat, h11 k15 = none → B k15 = none → ∀ h16 : Heap, h16 = Heap.set h11 k15 (.vec 41 (plains [(Value.bool false), (Value.string ByteArray.empty)]) 2) →
 ∃ h17 : Heap, StoresAt ⟨k15, 0, none⟩ h16 0 [(Value.bool b12), (Value.string s13)] h17 ∧
 ∃ b18 : Bool, ∃ s19 : ByteArray, CellsAt B h17 ⟨k15, 0, none⟩ 0 [(Value.bool b18), (Value.string s19)] ∧
 ∃ h20 : Heap, StoresAt ⟨k7, 0, none⟩ h17 0 [(Value.bool b18), (Value.string s19)] h20 ∧
 ∃ b21 : Bool, ∃ s22 : ByteArray, CellsAt B h20 ⟨k7, 0, none⟩ 0 [(Value.bool b21), (Value.string s22)] ∧ Fin B h20 (Q (b21) s22 (false)))
def S_sheet_Sheet_Get (B : RO) (p1 : Option Addr) (p2 : Option Addr) (i3 : Int) (h : Heap) (Q : Bool → ByteArray → Bool → Heap → Prop) : Prop :=
 ∀ k7 : Nat, h k7 = none → B k7 = none → ∀ h8 : Heap, h8 = Heap.set h k7 (.vec 41 (plains [(Value.bool false), (Value.string ByteArray.empty)]) 2) →
 (p1 = none →
 Fin B h8 (fun h' => S_sheet_Sheet_Get_J1 B p2 i3 k7 h' Q)) ∧ (¬ (p1 = none) →
 ∃ A24 : Addr, p1 = some A24 ∧
 ∃ p26 : Option Addr, cellH B h8 A24 = some (Value.pointer p26) ∧
 C_draft_Draft_file_File_Get B p26 (i3) h8 (fun b28 s29 b30 h27 =>
 (b30 = true →
 ∀ k34 : Nat, h27 k34 = none → B k34 = none → ∀ h35 : Heap, h35 = Heap.set h27 k34 (.vec 41 (plains [(Value.bool false), (Value.string ByteArray.empty)]) 2) →
 ∃ h36 : Heap, StoresAt ⟨k34, 0, none⟩ h35 0 [(Value.bool b28), (Value.string s29)] h36 ∧
 ∃ b37 : Bool, ∃ s38 : ByteArray, CellsAt B h36 ⟨k34, 0, none⟩ 0 [(Value.bool b37), (Value.string s38)] ∧
 ∃ h39 : Heap, StoresAt ⟨k7, 0, none⟩ h36 0 [(Value.bool b37), (Value.string s38)] h39 ∧
 ∃ b40 : Bool, ∃ s41 : ByteArray, CellsAt B h39 ⟨k7, 0, none⟩ 0 [(Value.bool b40), (Value.string s41)] ∧ Fin B h39 (Q (b40) s41 (true))) ∧ (b30 = false →
 ∀ k31 : Nat, h27 k31 = none → B k31 = none → ∀ h32 : Heap, h32 = Heap.set h27 k31 (.vec 41 (plains [(Value.bool false), (Value.string ByteArray.empty)]) 2) →
 ∃ h33 : Heap, StoresAt ⟨k31, 0, none⟩ h32 0 [(Value.bool b28), (Value.string s29)] h33 ∧
 Fin B h33 (fun h' => S_sheet_Sheet_Get_J1 B p2 i3 k7 h' Q))))
def S_countermandlaw14_alive_J1 (B : RO) (p3 : Option Addr) (p5 : Option Addr) (h7 : Heap) (Q : Bool → Heap → Prop) : Prop :=
 C_sheet_Sheet_Get B p3 p5 (2) h7 (fun b9 s10 b11 h8 =>
 (b11 = true →
 ∀ k23 : Nat, h8 k23 = none → B k23 = none → ∀ h24 : Heap, h24 = Heap.set h8 k23 (.vec 41 (plains [(Value.bool false), (Value.string ByteArray.empty)]) 2) →
 ∃ h25 : Heap, StoresAt ⟨k23, 0, none⟩ h24 0 [(Value.bool b9), (Value.string s10)] h25 ∧
 C_sheet_Sheet_Get B p3 p5 (1) h25 (fun b27 s28 b29 h26 =>
 ∀ k30 : Nat, h26 k30 = none → B k30 = none → ∀ h31 : Heap, h31 = Heap.set h26 k30 (.vec 41 (plains [(Value.bool false), (Value.string ByteArray.empty)]) 2) →
 ∃ h32 : Heap, StoresAt ⟨k30, 0, none⟩ h31 0 [(Value.bool b27), (Value.string s28)] h32 ∧
 ∃ b33 : Bool, cellH B h32 ⟨k23, 0, none⟩ = some (Value.bool b33) ∧ (b33 = true →
 ∃ b34 : Bool, cellH B h32 ⟨k30, 0, none⟩ = some (Value.bool b34) ∧
 Fin B h32 (Q ((!b34)))) ∧ (b33 = false →
 Fin B h32 (Q (false))))) ∧ (b11 = false →
 ∀ k12 : Nat, h8 k12 = none → B k12 = none → ∀ h13 : Heap, h13 = Heap.set h8 k12 (.vec 41 (plains [(Value.bool false), (Value.string ByteArray.empty)]) 2) →
 ∃ h14 : Heap, StoresAt ⟨k12, 0, none⟩ h13 0 [(Value.bool b9), (Value.string s10)] h14 ∧
 C_sheet_Sheet_Get B p3 p5 (1) h14 (fun b16 s17 b18 h15 =>
 ∀ k19 : Nat, h15 k19 = none → B k19 = none → ∀ h20 : Heap, h20 = Heap.set h15 k19 (.vec 41 (plains [(Value.bool false), (Value.string ByteArray.empty)]) 2) →
 ∃ h21 : Heap, StoresAt ⟨k19, 0, none⟩ h20 0 [(Value.bool b16), (Value.string s17)] h21 ∧
 ∃ b22 : Bool, cellH B h21 ⟨k12, 0, none⟩ = some (Value.bool b22) ∧ (b22 = true →
 Fin B h21 (Q (false))) ∧ (b22 = false →
 Fin B h21 (Q (false))))))
def S_countermandlaw14_alive (B : RO) (h : Heap) (Q : Bool → Heap → Prop) : Prop :=
 C_sheet_New B h (fun p3 h2 =>
 C_tome_New B h2 (fun p5 h4 =>
 C_sheet_Sheet_Create B p3 p5 (1) h4 (fun b36 h35 =>
 (b36 = true →
 C_sheet_Sheet_Rename B p3 p5 (1) (2) h35 (fun b38 h37 =>
 (b38 = true →
 Fin B h37 (fun h' => S_countermandlaw14_alive_J1 B p3 p5 h' Q)) ∧ (b38 = false →
 Fin B h37 (Q (false))))) ∧ (b36 = false →
 Fin B h35 (Q (false))))))
def S_countermandlaw14_build_J1 (B : RO) (p9 : Option Addr) (k10 : Nat) (h13 : Heap) (Q : Option Addr → Option Addr → Option Addr → Bool → Heap → Prop) : Prop :=
 C_sheet_New B h13 (fun p15 h14 =>
 Fin B h14 (Q p9 p15 (some ⟨k10, 0, none⟩) (true)))
def S_countermandlaw14_build (B : RO) (l1 : List Value) (h : Heap) (Q : Option Addr → Option Addr → Option Addr → Bool → Heap → Prop) : Prop :=
 ∀ k6 : Nat, h k6 = none → B k6 = none → ∀ h7 : Heap, h7 = Heap.set h k6 (.vec 71 (plains l1) (List.length l1)) →
 C_tome_New B h7 (fun p9 h8 =>
 ∀ k10 : Nat, h8 k10 = none → B k10 = none → ∀ h11 : Heap, h11 = Heap.set h8 k10 (.vec 86 (plains [(Value.bool false), (Value.string ByteArray.empty), (Value.bool false), (Value.string ByteArray.empty), (Value.bool false), (Value.string ByteArray.empty), (Value.bool false), (Value.string ByteArray.empty), (Value.bool false), (Value.string ByteArray.empty), (Value.bool false), (Value.string ByteArray.empty), (Value.bool false), (Value.string ByteArray.empty), (Value.bool false), (Value.string ByteArray.empty), (Value.bool false), (Value.string ByteArray.empty), (Value.bool false), (Value.string ByteArray.empty), (Value.bool false), (Value.string ByteArray.empty), (Value.bool false), (Value.string ByteArray.empty), (Value.bool false), (Value.bool false), (Value.bool false), (Value.bool false), (Value.bool false), (Value.bool false)]) 30) →
 ∃ l16 : List Value, List.length l16 = 12 ∧ CellsAt B h11 ⟨k6, 0, none⟩ 0 l16 ∧
 ∃ (J22 : Int → Nat → Heap → Prop) (m20 : Nat), Fin B h11 (J22 (0) m20) ∧
 ∀ (i17 : Int) (m19 : Nat) (h18 : Heap), J22 i17 m19 h18 →
 ((i17 : Int) < (6) →
 0 ≤ (i17 : Int) ∧ (i17 : Int) < (6 : Nat) ∧ ∃ b24 : Bool, ∃ s25 : ByteArray, Array.extract (List.toArray l16) (Int.toNat (i17) * 2) (Int.toNat (i17) * 2 + 2) = #[(Value.bool b24), (Value.string s25)] ∧
 ∀ k26 : Nat, h18 k26 = none → B k26 = none → ∀ h27 : Heap, h27 = Heap.set h18 k26 (.vec 41 (plains [(Value.bool false), (Value.string ByteArray.empty)]) 2) →
 ∃ h28 : Heap, StoresAt ⟨k26, 0, none⟩ h27 0 [(Value.bool b24), (Value.string s25)] h28 ∧
 ∃ b29 : Bool, ∃ s30 : ByteArray, CellsAt B h28 ⟨k26, 0, none⟩ 0 [(Value.bool b29), (Value.string s30)] ∧
 C_tome_Tome_Set B p9 (i17) (b29) s30 (i17) h28 (fun b32 h31 =>
 (b32 = true →
 ∃ b33 : Bool, ∃ s34 : ByteArray, CellsAt B h31 ⟨k26, 0, none⟩ 0 [(Value.bool b33), (Value.string s34)] ∧
 0 ≤ (i17 : Int) ∧ (i17 : Int) < (6 : Nat) ∧
 ∃ h35 : Heap, StoresAt (Addr.add ⟨k10, 0, none⟩ (Int.toNat (i17) * 2)) h31 0 [(Value.bool b33), (Value.string s34)] h35 ∧
 0 ≤ (i17 : Int) ∧ (i17 : Int) < (6 : Nat) ∧
 ∃ b36 : Bool, ∃ s37 : ByteArray, CellsAt B h35 (Addr.add ⟨k10, 0, none⟩ (Int.toNat (i17) * 2)) 0 [(Value.bool b36), (Value.string s37)] ∧
 0 ≤ (i17 : Int) ∧ (i17 : Int) < (6 : Nat) ∧
 ∃ h38 : Heap, StoresAt (Addr.add ⟨k10, 12, none⟩ (Int.toNat (i17) * 2)) h35 0 [(Value.bool b36), (Value.string s37)] h38 ∧
 Fin B h38 (fun h' => ∃ m', m' < m19 ∧ J22 (IntKind.wrap .i64 ((i17) + (1))) m' h')) ∧ (b32 = false →
 Fin B h31 (Q none none none (false))))) ∧ (¬ ((i17 : Int) < (6)) →
 Fin B h18 (fun h' => S_countermandlaw14_build_J1 B p9 k10 h' Q)))
def S_countermandref14_Is (B : RO) (i1 : Int) (h : Heap) (Q : Bool → Heap → Prop) : Prop :=
 ((i1 : Int) ≥ (0) →
 Fin B h (Q ((decide ((i1 : Int) ≤ (5)))))) ∧ (¬ ((i1 : Int) ≥ (0)) →
 Fin B h (Q (false)))
def S_sheet_Sheet_Rename_J1 (B : RO) (p1 : Option Addr) (p2 : Option Addr) (i3 : Int) (i4 : Int) (k10 : Nat) (h14 : Heap) (Q : Bool → Heap → Prop) : Prop :=
 ∃ b15 : Bool, ∃ s16 : ByteArray, CellsAt B h14 ⟨k10, 0, none⟩ 0 [(Value.bool b15), (Value.string s16)] ∧
 C_sheet_Sheet_put B p1 p2 (i4) (b15) s16 h14 (fun b18 h17 =>
 C_sheet_Sheet_put B p1 p2 (i3) (false) ByteArray.empty h17 (fun b20 h19 =>
 Fin B h19 (Q (b20))))
def S_sheet_Sheet_Rename_J2 (B : RO) (p1 : Option Addr) (p2 : Option Addr) (i3 : Int) (i4 : Int) (k10 : Nat) (b22 : Bool) (h23 : Heap) (Q : Bool → Heap → Prop) : Prop :=
 (b22 = true →
 Fin B h23 (Q (false))) ∧ (b22 = false →
 ∃ b24 : Bool, cellH B h23 ⟨k10, 0, none⟩ = some (Value.bool b24) ∧ (b24 = true →
 ((i3 : Int) = i4 →
 Fin B h23 (Q (true))) ∧ (¬ ((i3 : Int) = i4) →
 Fin B h23 (fun h' => S_sheet_Sheet_Rename_J1 B p1 p2 i3 i4 k10 h' Q))) ∧ (b24 = false →
 Fin B h23 (Q (true))))
def S_sheet_Sheet_Rename (B : RO) (p1 : Option Addr) (p2 : Option Addr) (i3 : Int) (i4 : Int) (h : Heap) (Q : Bool → Heap → Prop) : Prop :=
 C_sheet_Sheet_Get B p1 p2 (i3) h (fun b7 s8 b9 h6 =>
 ∀ k10 : Nat, h6 k10 = none → B k10 = none → ∀ h11 : Heap, h11 = Heap.set h6 k10 (.vec 41 (plains [(Value.bool false), (Value.string ByteArray.empty)]) 2) →
 ∃ h12 : Heap, StoresAt ⟨k10, 0, none⟩ h11 0 [(Value.bool b7), (Value.string s8)] h12 ∧
 (p1 = none →
 Fin B h12 (fun h' => S_sheet_Sheet_Rename_J2 B p1 p2 i3 i4 k10 (true) h' Q)) ∧ (¬ (p1 = none) →
 ((i3 : Int) < (0) →
 Fin B h12 (fun h' => S_sheet_Sheet_Rename_J2 B p1 p2 i3 i4 k10 (true) h' Q)) ∧ (¬ ((i3 : Int) < (0)) →
 ((i3 : Int) ≥ (6) →
 Fin B h12 (fun h' => S_sheet_Sheet_Rename_J2 B p1 p2 i3 i4 k10 (true) h' Q)) ∧ (¬ ((i3 : Int) ≥ (6)) →
 ((i4 : Int) < (0) →
 Fin B h12 (fun h' => S_sheet_Sheet_Rename_J2 B p1 p2 i3 i4 k10 (true) h' Q)) ∧ (¬ ((i4 : Int) < (0)) →
 ((i4 : Int) ≥ (6) →
 Fin B h12 (fun h' => S_sheet_Sheet_Rename_J2 B p1 p2 i3 i4 k10 (true) h' Q)) ∧ (¬ ((i4 : Int) ≥ (6)) →
 Fin B h12 (fun h' => S_sheet_Sheet_Rename_J2 B p1 p2 i3 i4 k10 (false) h' Q)))))))
def S_countermandlaw14_does (B : RO) (p1 : Option Addr) (p2 : Option Addr) (p3 : Option Addr) (i4 : Int) (i5 : Int) (i6 : Int) (i7 : Int) (h : Heap) (Q : Bool → Heap → Prop) : Prop :=
 ∀ k9 : Nat, h k9 = none → B k9 = none → ∀ h10 : Heap, h10 = Heap.set h k9 (.vec 81 (plains [(Value.int .i64 (i4)), (Value.int .i64 (i5)), (Value.int .i64 (i6)), (Value.int .u8 (i7))]) 4) →
 ∃ i11 : Int, cellH B h10 ⟨k9, 0, none⟩ = some (Value.int .i64 (i11)) ∧
 ((i11 : Int) = 0 →
 ∃ i16 : Int, cellH B h10 ⟨k9, 1, none⟩ = some (Value.int .i64 (i16)) ∧
 ∃ i19 : Int, cellH B h10 ⟨k9, 2, none⟩ = some (Value.int .i64 (i19)) ∧
 ∃ i22 : Int, cellH B h10 ⟨k9, 3, none⟩ = some (Value.int .u8 (i22)) ∧
 ∃ i26 : Int, cellH B h10 ⟨k9, 1, none⟩ = some (Value.int .i64 (i26)) ∧
 ∃ i29 : Int, cellH B h10 ⟨k9, 2, none⟩ = some (Value.int .i64 (i29)) ∧
 ∃ i32 : Int, cellH B h10 ⟨k9, 3, none⟩ = some (Value.int .u8 (i32)) ∧
 C_sheet_Sheet_Write B p2 p1 (i16) (i19) (i22) h10 (fun b35 h34 =>
 cellH B h34 ⟨k9, 1, none⟩ = some (Value.int .i64 (i16)) ∧ cellH B h34 ⟨k9, 2, none⟩ = some (Value.int .i64 (i19)) ∧ cellH B h34 ⟨k9, 3, none⟩ = some (Value.int .u8 (i22)) ∧ cellH B h34 ⟨k9, 1, none⟩ = some (Value.int .i64 (i26)) ∧ cellH B h34 ⟨k9, 2, none⟩ = some (Value.int .i64 (i29)) ∧ cellH B h34 ⟨k9, 3, none⟩ = some (Value.int .u8 (i32)) ∧
 C_countermandref14_Sheet_Write B p3 (i26) (i29) (i32) h34 (fun b43 h42 =>
 cellH B h42 ⟨k9, 1, none⟩ = some (Value.int .i64 (i16)) ∧ cellH B h42 ⟨k9, 2, none⟩ = some (Value.int .i64 (i19)) ∧ cellH B h42 ⟨k9, 3, none⟩ = some (Value.int .u8 (i22)) ∧ cellH B h42 ⟨k9, 1, none⟩ = some (Value.int .i64 (i26)) ∧ cellH B h42 ⟨k9, 2, none⟩ = some (Value.int .i64 (i29)) ∧ cellH B h42 ⟨k9, 3, none⟩ = some (Value.int .u8 (i32)) ∧
 Fin B h42 (Q ((decide (b35 = b43))))))) ∧ (¬ ((i11 : Int) = 0) →
 ((i11 : Int) = 1 →
 ∃ i54 : Int, cellH B h10 ⟨k9, 1, none⟩ = some (Value.int .i64 (i54)) ∧
 ∃ i57 : Int, cellH B h10 ⟨k9, 2, none⟩ = some (Value.int .i64 (i57)) ∧
 ∃ i61 : Int, cellH B h10 ⟨k9, 1, none⟩ = some (Value.int .i64 (i61)) ∧
 ∃ i64 : Int, cellH B h10 ⟨k9, 2, none⟩ = some (Value.int .i64 (i64)) ∧
 C_sheet_Sheet_Cut B p2 p1 (i54) (i57) h10 (fun b67 h66 =>
 cellH B h66 ⟨k9, 1, none⟩ = some (Value.int .i64 (i54)) ∧ cellH B h66 ⟨k9, 2, none⟩ = some (Value.int .i64 (i57)) ∧ cellH B h66 ⟨k9, 1, none⟩ = some (Value.int .i64 (i61)) ∧ cellH B h66 ⟨k9, 2, none⟩ = some (Value.int .i64 (i64)) ∧
 C_countermandref14_Sheet_Cut B p3 (i61) (i64) h66 (fun b73 h72 =>
 cellH B h72 ⟨k9, 1, none⟩ = some (Value.int .i64 (i54)) ∧ cellH B h72 ⟨k9, 2, none⟩ = some (Value.int .i64 (i57)) ∧ cellH B h72 ⟨k9, 1, none⟩ = some (Value.int .i64 (i61)) ∧ cellH B h72 ⟨k9, 2, none⟩ = some (Value.int .i64 (i64)) ∧
 Fin B h72 (Q ((decide (b67 = b73))))))) ∧ (¬ ((i11 : Int) = 1) →
 ((i11 : Int) = 2 →
 ∃ i82 : Int, cellH B h10 ⟨k9, 1, none⟩ = some (Value.int .i64 (i82)) ∧
 ∃ i86 : Int, cellH B h10 ⟨k9, 1, none⟩ = some (Value.int .i64 (i86)) ∧
 C_sheet_Sheet_Create B p2 p1 (i82) h10 (fun b89 h88 =>
 cellH B h88 ⟨k9, 1, none⟩ = some (Value.int .i64 (i82)) ∧ cellH B h88 ⟨k9, 1, none⟩ = some (Value.int .i64 (i86)) ∧
 C_countermandref14_Sheet_Create B p3 (i86) h88 (fun b93 h92 =>
 cellH B h92 ⟨k9, 1, none⟩ = some (Value.int .i64 (i82)) ∧ cellH B h92 ⟨k9, 1, none⟩ = some (Value.int .i64 (i86)) ∧
 Fin B h92 (Q ((decide (b89 = b93))))))) ∧ (¬ ((i11 : Int) = 2) →
 ((i11 : Int) = 3 →
 ∃ i100 : Int, cellH B h10 ⟨k9, 1, none⟩ = some (Value.int .i64 (i100)) ∧
 ∃ i104 : Int, cellH B h10 ⟨k9, 1, none⟩ = some (Value.int .i64 (i104)) ∧
 C_sheet_Sheet_Remove B p2 p1 (i100) h10 (fun b107 h106 =>
 cellH B h106 ⟨k9, 1, none⟩ = some (Value.int .i64 (i100)) ∧ cellH B h106 ⟨k9, 1, none⟩ = some (Value.int .i64 (i104)) ∧
 C_countermandref14_Sheet_Remove B p3 (i104) h106 (fun b111 h110 =>
 cellH B h110 ⟨k9, 1, none⟩ = some (Value.int .i64 (i100)) ∧ cellH B h110 ⟨k9, 1, none⟩ = some (Value.int .i64 (i104)) ∧
 Fin B h110 (Q ((decide (b107 = b111))))))) ∧ (¬ ((i11 : Int) = 3) →
 ((i11 : Int) = 4 →
 ∃ i118 : Int, cellH B h10 ⟨k9, 1, none⟩ = some (Value.int .i64 (i118)) ∧
 ∃ i121 : Int, cellH B h10 ⟨k9, 2, none⟩ = some (Value.int .i64 (i121)) ∧
 ∃ i125 : Int, cellH B h10 ⟨k9, 1, none⟩ = some (Value.int .i64 (i125)) ∧
 ∃ i128 : Int, cellH B h10 ⟨k9, 2, none⟩ = some (Value.int .i64 (i128)) ∧
 C_sheet_Sheet_Rename B p2 p1 (i118) (i121) h10 (fun b131 h130 =>
 cellH B h130 ⟨k9, 1, none⟩ = some (Value.int .i64 (i118)) ∧ cellH B h130 ⟨k9, 2, none⟩ = some (Value.int .i64 (i121)) ∧ cellH B h130 ⟨k9, 1, none⟩ = some (Value.int .i64 (i125)) ∧ cellH B h130 ⟨k9, 2, none⟩ = some (Value.int .i64 (i128)) ∧
 C_countermandref14_Sheet_Rename B p3 (i125) (i128) h130 (fun b137 h136 =>
 cellH B h136 ⟨k9, 1, none⟩ = some (Value.int .i64 (i118)) ∧ cellH B h136 ⟨k9, 2, none⟩ = some (Value.int .i64 (i121)) ∧ cellH B h136 ⟨k9, 1, none⟩ = some (Value.int .i64 (i125)) ∧ cellH B h136 ⟨k9, 2, none⟩ = some (Value.int .i64 (i128)) ∧
 Fin B h136 (Q ((decide (b131 = b137))))))) ∧ (¬ ((i11 : Int) = 4) →
 Fin B h10 (Q (true)))))))
def S_sheet_Sheet_Copy (B : RO) (p1 : Option Addr) (h : Heap) (Q : Option Addr → Heap → Prop) : Prop :=
 (p1 = none →
 Fin B h (Q none)) ∧ (¬ (p1 = none) →
 ∃ A4 : Addr, p1 = some A4 ∧
 ∃ p6 : Option Addr, cellH B h A4 = some (Value.pointer p6) ∧
 C_draft_Draft_file_File_Copy B p6 h (fun p8 h7 =>
 ∀ k9 : Nat, h7 k9 = none → B k9 = none → ∀ h10 : Heap, h10 = Heap.set h7 k9 (.vec 128 (plains [(Value.pointer p8)]) 1) →
 Fin B h10 (Q (some ⟨k9, 0, none⟩))))
def S_sheet_Sheet_Over (B : RO) (p1 : Option Addr) (p2 : Option Addr) (i3 : Int) (h : Heap) (Q : Int → Heap → Prop) : Prop :=
 ∀ k5 : Nat, h k5 = none → B k5 = none → ∀ h6 : Heap, h6 = Heap.set h k5 (.vec 25 [.plain (Value.pointer p2)] 1) →
 ∀ k7 : Nat, h6 k7 = none → B k7 = none → ∀ h8 : Heap, h8 = Heap.set h6 k7 (.vec 3 [.plain (Value.int .i64 (i3))] 1) →
 ∀ k9 : Nat, h8 k9 = none → B k9 = none → ∀ h10 : Heap, h10 = Heap.set h8 k9 (.vec 3 (plains [(Value.int .i64 (0))]) 1) →
 ∃ h11 : Heap, storeH h10 ⟨k9, 0, none⟩ (Value.int .i64 (0)) = some h11 ∧
 C_sheet_Sheet_Draft B p1 h11 (fun p13 h12 =>
 C_draft_Draft_file_File_All B p13 h12 (fun v15 h14 =>
 ∃ (xs23 : List (Int × Bool × ByteArray)) (G19 : Heap → Prop) (J22 : Nat → Heap → Prop), Iter PG B v15 (xs23.map (fun x : Int × Bool × ByteArray => [(Value.int .i64 (x.1)), (Value.agg #[(Value.bool x.2.1), (Value.string x.2.2)])])) G19 ∧ Ins G19 ∧ (∀ i h, J22 i h → G19 h) ∧ Fin B h14 (J22 0) ∧
 (∀ (q21 : Nat) (h20 : Heap) (i16 : Int) (b17 : Bool) (s18 : ByteArray), xs23[q21]? = some (i16, b17, s18) → J22 q21 h20 →
 ∀ k24 : Nat, h20 k24 = none → B k24 = none → ∀ h25 : Heap, h25 = Heap.set h20 k24 (.vec 41 (plains [(Value.bool false), (Value.string ByteArray.empty)]) 2) →
 ∃ h26 : Heap, StoresAt ⟨k24, 0, none⟩ h25 0 [(Value.bool b17), (Value.string s18)] h26 ∧
 ∃ p27 : Option Addr, cellH B h26 ⟨k5, 0, none⟩ = some (Value.pointer p27) ∧
 ∃ b28 : Bool, ∃ s29 : ByteArray, CellsAt B h26 ⟨k24, 0, none⟩ 0 [(Value.bool b28), (Value.string s29)] ∧
 ∃ i30 : Int, cellH B h26 ⟨k7, 0, none⟩ = some (Value.int .i64 (i30)) ∧
 C_tome_Tome_Set B p27 (i16) (b28) s29 (i30) h26 (fun b32 h31 =>
 (b32 = true →
 ∃ i33 : Int, cellH B h31 ⟨k9, 0, none⟩ = some (Value.int .i64 (i33)) ∧
 ∃ h34 : Heap, storeH h31 ⟨k9, 0, none⟩ (Value.int .i64 (IntKind.wrap .i64 ((i33) + (1)))) = some h34 ∧
 Fin B h34 (J22 (q21 + 1))) ∧ (b32 = false →
 Fin B h31 (J22 (q21 + 1))))) ∧
 (∀ (h20 : Heap), J22 xs23.length h20 →
 ∃ i35 : Int, cellH B h20 ⟨k9, 0, none⟩ = some (Value.int .i64 (i35)) ∧
 Fin B h20 (Q (i35)))))
def S_tome_Tome_Get (B : RO) (p1 : Option Addr) (i2 : Int) (h : Heap) (Q : Bool → ByteArray → Int → Heap → Prop) : Prop :=
 ∀ k6 : Nat, h k6 = none → B k6 = none → ∀ h7 : Heap, h7 = Heap.set h k6 (.vec 41 (plains [(Value.bool false), (Value.string ByteArray.empty)]) 2) →
 (p1 = none →
 ∃ h9 : Heap, StoresAt ⟨k6, 0, none⟩ h7 0 [(Value.bool false), (Value.string ByteArray.empty)] h9 ∧
 ∃ b10 : Bool, ∃ s11 : ByteArray, CellsAt B h9 ⟨k6, 0, none⟩ 0 [(Value.bool b10), (Value.string s11)] ∧ Fin B h9 (Q (b10) s11 (0))) ∧ (¬ (p1 = none) →
 ∃ A12 : Addr, p1 = some A12 ∧
 ∃ p14 : Option Addr, cellH B h7 A12 = some (Value.pointer p14) ∧
 C_cell_Row_file_File_Get B p14 (i2) h7 (fun b16 s17 i18 h15 =>
 ∃ h19 : Heap, StoresAt ⟨k6, 0, none⟩ h15 0 [(Value.bool b16), (Value.string s17)] h19 ∧
 ∃ b20 : Bool, ∃ s21 : ByteArray, CellsAt B h19 ⟨k6, 0, none⟩ 0 [(Value.bool b20), (Value.string s21)] ∧ Fin B h19 (Q (b20) s21 (i18))))
def S_tome_Tome_Bytes (B : RO) (p1 : Option Addr) (h : Heap) (Q : ByteArray → Heap → Prop) : Prop :=
 ∀ k3 : Nat, h k3 = none → B k3 = none → ∀ h4 : Heap, h4 = Heap.set h k3 (.vec 146 (plains [(Value.slice none 0 0)]) 1) →
 ∀ k5 : Nat, h4 k5 = none → B k5 = none → ∀ h6 : Heap, h6 = Heap.set h4 k5 (.vec 143 (plains [(Value.pointer none)]) 1) →
 ∃ h7 : Heap, storeH h6 ⟨k5, 0, none⟩ (Value.pointer (some ⟨k3, 0, none⟩)) = some h7 ∧
 C_tome_Tome_All B p1 h7 (fun v9 h8 =>
 ∃ (xs17 : List (Int × Bool × ByteArray)) (G13 : Heap → Prop) (J16 : Nat → Heap → Prop), Iter PG B v9 (xs17.map (fun x : Int × Bool × ByteArray => [(Value.int .i64 (x.1)), (Value.agg #[(Value.bool x.2.1), (Value.string x.2.2)])])) G13 ∧ Ins G13 ∧ (∀ i h, J16 i h → G13 h) ∧ Fin B h8 (J16 0) ∧
 (∀ (q15 : Nat) (h14 : Heap) (i10 : Int) (b11 : Bool) (s12 : ByteArray), xs17[q15]? = some (i10, b11, s12) → J16 q15 h14 →
 ∀ k18 : Nat, h14 k18 = none → B k18 = none → ∀ h19 : Heap, h19 = Heap.set h14 k18 (.vec 41 (plains [(Value.bool false), (Value.string ByteArray.empty)]) 2) →
 ∃ h20 : Heap, StoresAt ⟨k18, 0, none⟩ h19 0 [(Value.bool b11), (Value.string s12)] h20 ∧
 ∃ p21 : Option Addr, cellH B h20 ⟨k5, 0, none⟩ = some (Value.pointer p21) ∧
 ∀ k22 : Nat, h20 k22 = none → B k22 = none → ∀ h23 : Heap, h23 = Heap.set h20 k22 (.vec 3 (plains [(Value.int .i64 (i10))]) 1) →
 C_stylus_Stylus_Nat B p21 (some ⟨k22, 0, none⟩) 1 1 h23 (fun h24 =>
 ∃ p25 : Option Addr, cellH B h24 ⟨k5, 0, none⟩ = some (Value.pointer p25) ∧
 ∃ s26 : ByteArray, cellH B h24 ⟨k18, 1, none⟩ = some (Value.string s26) ∧
 ∀ k27 : Nat, h24 k27 = none → B k27 = none → ∀ h28 : Heap, h28 = Heap.set h24 k27 (.vec 9 (plains [(Value.string s26)]) 1) →
 C_stylus_Stylus_Text B p25 (some ⟨k27, 0, none⟩) 1 1 h28 (fun h29 =>
 Fin B h29 (J16 (q15 + 1))))) ∧
 (∀ (h14 : Heap), J16 xs17.length h14 →
 ∃ p30 : Option Addr, cellH B h14 ⟨k5, 0, none⟩ = some (Value.pointer p30) ∧
 C_stylus_Stylus_Bytes B p30 h14 (fun s32 h31 =>
 Fin B h31 (Q s32))))
def S_sheet_Sheet_Draft (B : RO) (p1 : Option Addr) (h : Heap) (Q : Option Addr → Heap → Prop) : Prop :=
 (p1 = none →
 Fin B h (Q none)) ∧ (¬ (p1 = none) →
 ∃ A4 : Addr, p1 = some A4 ∧
 ∃ p6 : Option Addr, cellH B h A4 = some (Value.pointer p6) ∧
 Fin B h (Q p6))
def S_draft_Draft_file_File_All (B : RO) (p1 : Option Addr) (h : Heap) (Q : Value → Heap → Prop) : Prop :=
 ∀ k3 : Nat, h k3 = none → B k3 = none → ∀ h4 : Heap, h4 = Heap.set h k3 (.vec 95 [.plain (Value.pointer p1)] 1) →
 Fin B h4 (Q (Value.func (.func 95) #[] #[(Value.pointer (some ⟨k3, 0, none⟩))]))
def S_draft_Draft_file_File_Len (B : RO) (p1 : Option Addr) (h : Heap) (Q : Int → Heap → Prop) : Prop :=
 (p1 = none →
 Fin B h (Q (0))) ∧ (¬ (p1 = none) →
 ∃ A4 : Addr, p1 = some A4 ∧
 LdSl B h A4 fun a6 n7 c8 h9 =>
 Fin B h9 (Q ((n7 : Nat))))
def S_sheet_Sheet_Write (B : RO) (p1 : Option Addr) (p2 : Option Addr) (i3 : Int) (i4 : Int) (i5 : Int) (h : Heap) (Q : Bool → Heap → Prop) : Prop :=
 C_sheet_Sheet_Get B p1 p2 (i3) h (fun b8 s9 b10 h7 =>
 ∀ k11 : Nat, h7 k11 = none → B k11 = none → ∀ h12 : Heap, h12 = Heap.set h7 k11 (.vec 41 (plains [(Value.bool false), (Value.string ByteArray.empty)]) 2) →
 ∃ h13 : Heap, StoresAt ⟨k11, 0, none⟩ h12 0 [(Value.bool b8), (Value.string s9)] h13 ∧
 ∃ b14 : Bool, ∃ s15 : ByteArray, CellsAt B h13 ⟨k11, 0, none⟩ 0 [(Value.bool b14), (Value.string s15)] ∧
 C_file_Put B (b14) s15 (i4) (i5) h13 (fun b17 s18 h16 =>
 C_sheet_Sheet_put B p1 p2 (i3) (b17) s18 h16 (fun b20 h19 =>
 Fin B h19 (Q (b20)))))
def S_sheet_Sheet_Cut (B : RO) (p1 : Option Addr) (p2 : Option Addr) (i3 : Int) (i4 : Int) (h : Heap) (Q : Bool → Heap → Prop) : Prop :=
 C_sheet_Sheet_Get B p1 p2 (i3) h (fun b7 s8 b9 h6 =>
 ∀ k10 : Nat, h6 k10 = none → B k10 = none → ∀ h11 : Heap, h11 = Heap.set h6 k10 (.vec 41 (plains [(Value.bool false), (Value.string ByteArray.empty)]) 2) →
 ∃ h12 : Heap, StoresAt ⟨k10, 0, none⟩ h11 0 [(Value.bool b7), (Value.string s8)] h12 ∧
 ∃ b13 : Bool, ∃ s14 : ByteArray, CellsAt B h12 ⟨k10, 0, none⟩ 0 [(Value.bool b13), (Value.string s14)] ∧
 C_file_Cut B (b13) s14 (i4) h12 (fun b16 s17 h15 =>
 C_sheet_Sheet_put B p1 p2 (i3) (b16) s17 h15 (fun b19 h18 =>
 Fin B h18 (Q (b19)))))
def S_sheet_Sheet_Remove (B : RO) (p1 : Option Addr) (p2 : Option Addr) (i3 : Int) (h : Heap) (Q : Bool → Heap → Prop) : Prop :=
 C_sheet_Sheet_put B p1 p2 (i3) (false) ByteArray.empty h (fun b6 h5 =>
 Fin B h5 (Q (b6)))
def S_cell_New_file_File (B : RO) (i1 : Int) (b2 : Bool) (s3 : ByteArray) (h : Heap) (Q : Option Addr → Heap → Prop) : Prop :=
 ∀ k5 : Nat, h k5 = none → B k5 = none → ∀ h6 : Heap, h6 = Heap.set h k5 (.vec 41 (plains [(Value.bool b2), (Value.string s3)]) 2) →
 ∀ k7 : Nat, h6 k7 = none → B k7 = none → ∀ h8 : Heap, h8 = Heap.set h6 k7 (.vec 168 (plains [(Value.slice none 0 0)]) 1) →
 ∃ (J14 : Int → Nat → Heap → Prop) (m12 : Nat), Fin B h8 (J14 (0) m12) ∧
 ∀ (i9 : Int) (m11 : Nat) (h10 : Heap), J14 i9 m11 h10 →
 ((i9 : Int) < (i1) →
 ∃ a20 : Option Addr, ∃ n21 : Nat, ∃ c22 : Nat, cellH B h10 ⟨k7, 0, none⟩ = some (Value.slice a20 n21 c22) ∧
 ∃ b24 : Bool, ∃ s25 : ByteArray, CellsAt B h10 ⟨k5, 0, none⟩ 0 [(Value.bool b24), (Value.string s25)] ∧
 ∀ k28 : Nat, h10 k28 = none → B k28 = none → ∀ h29 : Heap, h29 = Heap.set h10 k28 (.vec 170 (plains [(Value.bool b24), (Value.string s25), (Value.int .i64 (0))]) 3) →
 cellH B h29 ⟨k7, 0, none⟩ = some (Value.slice a20 n21 c22) ∧ CellsAt B h29 ⟨k5, 0, none⟩ 0 [(Value.bool b24), (Value.string s25)] ∧
 semH PG B (Builtin.append_ #[166, 166] 166 #[(Value.slice a20 n21 c22), (Value.slice (some ⟨k28, 0, none⟩) 1 1)]) h29 (fun v h32 => ∃ a33 : Option Addr, ∃ n34 : Nat, ∃ c35 : Nat, v = (Value.slice a33 n34 c35) ∧
 cellH B h32 ⟨k7, 0, none⟩ = some (Value.slice a20 n21 c22) ∧ CellsAt B h32 ⟨k5, 0, none⟩ 0 [(Value.bool b24), (Value.string s25)] ∧
 ∃ h38 : Heap, storeH h32 ⟨k7, 0, none⟩ (Value.slice a33 n34 c35) = some h38 ∧
 Fin B h38 (fun h' => ∃ m', m' < m11 ∧ J14 (IntKind.wrap .i64 ((i9) + (1))) m' h'))) ∧ (¬ ((i9 : Int) < (i1)) →
 Fin B h10 (Q (some ⟨k7, 0, none⟩)))
def S_sheet_New (B : RO) (h : Heap) (Q : Option Addr → Heap → Prop) : Prop :=
 ∀ k2 : Nat, h k2 = none → B k2 = none → ∀ h3 : Heap, h3 = Heap.set h k2 (.vec 160 (plains [(Value.slice none 0 0)]) 1) →
 ∀ k4 : Nat, h3 k4 = none → B k4 = none → ∀ h5 : Heap, h5 = Heap.set h3 k4 (.vec 128 (plains [(Value.pointer (some ⟨k2, 0, none⟩))]) 1) →
 Fin B h5 (Q (some ⟨k4, 0, none⟩))
def S_sheet_Sheet_put_J1 (B : RO) (p1 : Option Addr) (p2 : Option Addr) (i3 : Int) (k7 : Nat) (h10 : Heap) (Q : Bool → Heap → Prop) : Prop :=
 C_sheet_Sheet_Get B p1 p2 (i3) h10 (fun b12 s13 b14 h11 =>
 ∀ k15 : Nat, h11 k15 = none → B k15 = none → ∀ h16 : Heap, h16 = Heap.set h11 k15 (.vec 41 (plains [(Value.bool false), (Value.string ByteArray.empty)]) 2) →
 ∃ h17 : Heap, StoresAt ⟨k15, 0, none⟩ h16 0 [(Value.bool b12), (Value.string s13)] h17 ∧
 ∃ b18 : Bool, ∃ s19 : ByteArray, CellsAt B h17 ⟨k15, 0, none⟩ 0 [(Value.bool b18), (Value.string s19)] ∧
 ∃ b20 : Bool, ∃ s21 : ByteArray, CellsAt B h17 ⟨k7, 0, none⟩ 0 [(Value.bool b20), (Value.string s21)] ∧
 (eqL [(Value.bool b18), (Value.string s19)] [(Value.bool b20), (Value.string s21)] = true →
 Fin B h17 (Q (true))) ∧ (¬ (eqL [(Value.bool b18), (Value.string s19)] [(Value.bool b20), (Value.string s21)] = true) →
 ∃ A24 : Addr, p1 = some A24 ∧
 ∃ p28 : Option Addr, cellH B h17 A24 = some (Value.pointer p28) ∧
 ∃ b31 : Bool, ∃ s32 : ByteArray, CellsAt B h17 ⟨k7, 0, none⟩ 0 [(Value.bool b31), (Value.string s32)] ∧
 C_draft_Draft_file_File_Put B p28 (i3) (b31) s32 h17 (fun b35 h34 =>
 cellH B h34 A24 = some (Value.pointer p28) ∧ CellsAt B h34 ⟨k7, 0, none⟩ 0 [(Value.bool b31), (Value.string s32)] ∧
 Fin B h34 (Q (b35)))))
def S_sheet_Sheet_put (B : RO) (p1 : Option Addr) (p2 : Option Addr) (i3 : Int) (b4 : Bool) (s5 : ByteArray) (h : Heap) (Q : Bool → Heap → Prop) : Prop :=
 ∀ k7 : Nat, h k7 = none → B k7 = none → ∀ h8 : Heap, h8 = Heap.set h k7 (.vec 41 (plains [(Value.bool b4), (Value.string s5)]) 2) →
 (p1 = none →
 Fin B h8 (Q (false))) ∧ (¬ (p1 = none) →
 ((i3 : Int) < (0) →
 Fin B h8 (Q (false))) ∧ (¬ ((i3 : Int) < (0)) →
 ((i3 : Int) ≥ (6) →
 Fin B h8 (Q (false))) ∧ (¬ ((i3 : Int) ≥ (6)) →
 Fin B h8 (fun h' => S_sheet_Sheet_put_J1 B p1 p2 i3 k7 h' Q))))
def S_file_Make (B : RO) (b1 : Bool) (s2 : ByteArray) (h : Heap) (Q : Bool → ByteArray → Heap → Prop) : Prop :=
 ∀ k5 : Nat, h k5 = none → B k5 = none → ∀ h6 : Heap, h6 = Heap.set h k5 (.vec 41 (plains [(Value.bool b1), (Value.string s2)]) 2) →
 ∀ k7 : Nat, h6 k7 = none → B k7 = none → ∀ h8 : Heap, h8 = Heap.set h6 k7 (.vec 41 (plains [(Value.bool false), (Value.string ByteArray.empty)]) 2) →
 ∃ s9 : ByteArray, cellH B h8 ⟨k5, 1, none⟩ = some (Value.string s9) ∧
 ∃ h10 : Heap, StoresAt ⟨k7, 0, none⟩ h8 0 [(Value.bool true), (Value.string s9)] h10 ∧
 ∃ b11 : Bool, ∃ s12 : ByteArray, CellsAt B h10 ⟨k7, 0, none⟩ 0 [(Value.bool b11), (Value.string s12)] ∧ Fin B h10 (Q (b11) s12)
def S_draft_Draft_file_File_Get (B : RO) (p1 : Option Addr) (i2 : Int) (h : Heap) (Q : Bool → ByteArray → Bool → Heap → Prop) : Prop :=
 ∀ k6 : Nat, h k6 = none → B k6 = none → ∀ h7 : Heap, h7 = Heap.set h k6 (.vec 41 (plains [(Value.bool false), (Value.string ByteArray.empty)]) 2) →
 ∀ k8 : Nat, h7 k8 = none → B k8 = none → ∀ h9 : Heap, h9 = Heap.set h7 k8 (.vec 41 (plains [(Value.bool false), (Value.string ByteArray.empty)]) 2) →
 (p1 = none →
 ∃ b11 : Bool, ∃ s12 : ByteArray, CellsAt B h9 ⟨k8, 0, none⟩ 0 [(Value.bool b11), (Value.string s12)] ∧
 ∃ h13 : Heap, StoresAt ⟨k6, 0, none⟩ h9 0 [(Value.bool b11), (Value.string s12)] h13 ∧
 ∃ b14 : Bool, ∃ s15 : ByteArray, CellsAt B h13 ⟨k6, 0, none⟩ 0 [(Value.bool b14), (Value.string s15)] ∧ Fin B h13 (Q (b14) s15 (false))) ∧ (¬ (p1 = none) →
 C_draft_Draft_file_File_find B p1 (i2) h9 (fun i17 b18 h16 =>
 (b18 = true →
 ∃ A24 : Addr, p1 = some A24 ∧
 LdSl B h16 A24 fun a26 n27 c28 h29 =>
 ∃ A30 : Addr, a26 = some A30 ∧ 0 ≤ (i17 : Int) ∧ (i17 : Int) < (n27 : Nat) ∧
 ∃ b32 : Bool, ∃ s33 : ByteArray, CellsAt B h29 (Addr.add (Addr.add A30 (Int.toNat (i17) * 3)) 1) 0 [(Value.bool b32), (Value.string s33)] ∧
 ∃ h34 : Heap, StoresAt ⟨k6, 0, none⟩ h29 0 [(Value.bool b32), (Value.string s33)] h34 ∧
 ∃ b35 : Bool, ∃ s36 : ByteArray, CellsAt B h34 ⟨k6, 0, none⟩ 0 [(Value.bool b35), (Value.string s36)] ∧ Fin B h34 (Q (b35) s36 (true))) ∧ (b18 = false →
 ∃ b19 : Bool, ∃ s20 : ByteArray, CellsAt B h16 ⟨k8, 0, none⟩ 0 [(Value.bool b19), (Value.string s20)] ∧
 ∃ h21 : Heap, StoresAt ⟨k6, 0, none⟩ h16 0 [(Value.bool b19), (Value.string s20)] h21 ∧
 ∃ b22 : Bool, ∃ s23 : ByteArray, CellsAt B h21 ⟨k6, 0, none⟩ 0 [(Value.bool b22), (Value.string s23)] ∧ Fin B h21 (Q (b22) s23 (false)))))
def S_stylus_Stylus_Nat_J1 (B : RO) (p1 : Option Addr) (a2 : Option Addr) (n3 : Nat) (c4 : Nat) (i5 : Int) (m7 : Nat) (J10 : Int → Nat → Heap → Prop) (i17 : Int) (h18 : Heap) (Q : Heap → Prop) : Prop :=
 ∃ A19 : Addr, p1 = some A19 ∧
 LdSl B h18 A19 fun a21 n22 c23 h24 =>
 ∀ k25 : Nat, h24 k25 = none → B k25 = none → ∀ h26 : Heap, h26 = Heap.set h24 k25 (.vec 5 (plains [(Value.int .u8 (IntKind.wrap .u8 (i17)))]) 1) →
 semH PG B (Builtin.append_ #[144, 144] 144 #[(Value.slice a21 n22 c23), (Value.slice (some ⟨k25, 0, none⟩) 1 1)]) h26 (fun v h27 => ∃ a28 : Option Addr, ∃ n29 : Nat, ∃ c30 : Nat, v = (Value.slice a28 n29 c30) ∧
 ∃ A31 : Addr, p1 = some A31 ∧
 ∃ h33 : Heap, storeH h27 A31 (Value.slice a28 n29 c30) = some h33 ∧
 Fin B h33 (fun h' => ∃ m', m' < m7 ∧ J10 (IntKind.wrap .i64 ((i5) + (1))) m' h'))
def S_stylus_Stylus_Nat (B : RO) (p1 : Option Addr) (a2 : Option Addr) (n3 : Nat) (c4 : Nat) (h : Heap) (Q : Heap → Prop) : Prop :=
 ∃ (J10 : Int → Nat → Heap → Prop) (m8 : Nat), Fin B h (J10 (0) m8) ∧
 ∀ (i5 : Int) (m7 : Nat) (h6 : Heap), J10 i5 m7 h6 →
 ((i5 : Int) < ((n3 : Nat)) →
 ∃ A12 : Addr, a2 = some A12 ∧ 0 ≤ (i5 : Int) ∧ (i5 : Int) < (n3 : Nat) ∧
 ∃ i14 : Int, cellH B h6 (Addr.add A12 (Int.toNat (i5) * 1)) = some (Value.int .i64 (i14)) ∧
 ((i14 : Int) < (0) →
 Fin B h6 (fun h' => ∃ m', m' < m7 ∧ J10 (IntKind.wrap .i64 ((i5) + (1))) m' h')) ∧ (¬ ((i14 : Int) < (0)) →
 ∃ (J39 : Int → Nat → Heap → Prop) (m37 : Nat), Fin B h6 (J39 (i14) m37) ∧
 ∀ (i34 : Int) (m36 : Nat) (h35 : Heap), J39 i34 m36 h35 →
 ((i34 : Int) ≥ (128) →
 ∃ A41 : Addr, p1 = some A41 ∧
 LdSl B h35 A41 fun a43 n44 c45 h46 =>
 ∀ k47 : Nat, h46 k47 = none → B k47 = none → ∀ h48 : Heap, h48 = Heap.set h46 k47 (.vec 5 (plains [(Value.int .u8 (IntKind.wrap .u8 ((BitVec.ofInt (IntKind.bits .u8) (IntKind.wrap .u8 (i34)) ||| BitVec.ofInt (IntKind.bits .u8) (128)).toNat : Int)))]) 1) →
 semH PG B (Builtin.append_ #[144, 144] 144 #[(Value.slice a43 n44 c45), (Value.slice (some ⟨k47, 0, none⟩) 1 1)]) h48 (fun v h49 => ∃ a50 : Option Addr, ∃ n51 : Nat, ∃ c52 : Nat, v = (Value.slice a50 n51 c52) ∧
 ∃ A53 : Addr, p1 = some A53 ∧
 ∃ h55 : Heap, storeH h49 A53 (Value.slice a50 n51 c52) = some h55 ∧
 ¬ ((7 : Int) < 0) ∧
 Fin B h55 (fun h' => ∃ m', m' < m36 ∧ J39 (Int.fdiv (i34) (2 ^ (min (Int.toNat (7)) (IntKind.bits .i64)))) m' h'))) ∧ (¬ ((i34 : Int) ≥ (128)) →
 Fin B h35 (fun h' => S_stylus_Stylus_Nat_J1 B p1 a2 n3 c4 i5 m7 J10 (i34) h' Q)))) ∧ (¬ ((i5 : Int) < ((n3 : Nat))) →
 Fin B h6 (Q))
def S_stylus_Stylus_Raw (B : RO) (p1 : Option Addr) (s2 : ByteArray) (h : Heap) (Q : Heap → Prop) : Prop :=
 ∃ A3 : Addr, p1 = some A3 ∧
 LdSl B h A3 fun a5 n6 c7 h8 =>
 semH PG B (Builtin.append_ #[144, 9] 144 #[(Value.slice a5 n6 c7), (Value.string s2)]) h8 (fun v h9 => ∃ a10 : Option Addr, ∃ n11 : Nat, ∃ c12 : Nat, v = (Value.slice a10 n11 c12) ∧
 ∃ A13 : Addr, p1 = some A13 ∧
 ∃ h15 : Heap, storeH h9 A13 (Value.slice a10 n11 c12) = some h15 ∧
 Fin B h15 (Q))
def S_stylus_Stylus_Bytes (B : RO) (p1 : Option Addr) (h : Heap) (Q : ByteArray → Heap → Prop) : Prop :=
 ∃ A3 : Addr, p1 = some A3 ∧
 LdSl B h A3 fun a5 n6 c7 h8 =>
 semH PG B (convert 144 9 (Value.slice a5 n6 c7)) h8 (fun v h10 => ∃ s9 : ByteArray, v = (Value.string s9) ∧
 Fin B h10 (Q s9))
def S_tome_Tome_Set_J1 (B : RO) (h14 : Heap) (Q : Bool → Heap → Prop) : Prop :=
 Fin B h14 (Q (false))
def S_tome_Tome_Set_J2 (B : RO) (k7 : Nat) (b17 : Bool) (s18 : ByteArray) (h24 : Heap) (Q : Bool → Heap → Prop) : Prop :=
 Fin B h24 (Q (false))
def S_tome_Tome_Set_J3 (B : RO) (i2 : Int) (i5 : Int) (k7 : Nat) (b17 : Bool) (s18 : ByteArray) (p36 : Option Addr) (b37 : Bool) (s38 : ByteArray) (h39 : Heap) (Q : Bool → Heap → Prop) : Prop :=
 C_cell_Row_file_File_Set B p36 (i2) (b37) s38 (i5) h39 (fun b42 h41 =>
 CellsAt B h41 ⟨k7, 0, none⟩ 0 [(Value.bool b17), (Value.string s18)] ∧
 Fin B h41 (Q (b42)))
def S_tome_Tome_Set (B : RO) (p1 : Option Addr) (i2 : Int) (b3 : Bool) (s4 : ByteArray) (i5 : Int) (h : Heap) (Q : Bool → Heap → Prop) : Prop :=
 ∀ k7 : Nat, h k7 = none → B k7 = none → ∀ h8 : Heap, h8 = Heap.set h k7 (.vec 41 (plains [(Value.bool b3), (Value.string s4)]) 2) →
 (p1 = none →
 (S_tome_Tome_Set_J1 B h8 Q) ∧
 (S_tome_Tome_Set_J1 B h8 Q)) ∧ (¬ (p1 = none) →
 ∃ b17 : Bool, ∃ s18 : ByteArray, CellsAt B h8 ⟨k7, 0, none⟩ 0 [(Value.bool b17), (Value.string s18)] ∧
 C_file_Good B (b17) s18 h8 (fun b21 h20 =>
 (b21 = true →
 CellsAt B h20 ⟨k7, 0, none⟩ 0 [(Value.bool b17), (Value.string s18)] ∧
 ∃ A27 : Addr, p1 = some A27 ∧
 (∃ p44 : Option Addr, cellH B h20 A27 = some (Value.pointer p44) ∧
 ∃ b45 : Bool, ∃ s46 : ByteArray, CellsAt B h20 ⟨k7, 0, none⟩ 0 [(Value.bool b45), (Value.string s46)] ∧
 S_tome_Tome_Set_J3 B i2 i5 k7 b17 s18 p44 (b45) s46 h20 Q) ∧
 (∃ b47 : Bool, ∃ s48 : ByteArray, CellsAt B h20 ⟨k7, 0, none⟩ 0 [(Value.bool b47), (Value.string s48)] ∧
 ∃ p49 : Option Addr, cellH B h20 A27 = some (Value.pointer p49) ∧
 S_tome_Tome_Set_J3 B i2 i5 k7 b17 s18 p49 (b47) s48 h20 Q)) ∧ (b21 = false →
 CellsAt B h20 ⟨k7, 0, none⟩ 0 [(Value.bool b17), (Value.string s18)] ∧
 (S_tome_Tome_Set_J2 B k7 b17 s18 h20 Q) ∧
 (S_tome_Tome_Set_J2 B k7 b17 s18 h20 Q))))
def S_countermandref14_Sheet_Write (B : RO) (p1 : Option Addr) (i2 : Int) (i3 : Int) (i4 : Int) (h : Heap) (Q : Bool → Heap → Prop) : Prop :=
 C_countermandref14_Is B (i2) h (fun b7 h6 =>
 (b7 = true →
 ∃ A10 : Addr, p1 = some A10 ∧
 0 ≤ (i2 : Int) ∧ (i2 : Int) < (6 : Nat) ∧
 ∃ b12 : Bool, ∃ s13 : ByteArray, CellsAt B h6 (Addr.add (Addr.add A10 12) (Int.toNat (i2) * 2)) 0 [(Value.bool b12), (Value.string s13)] ∧
 C_countermandref09_Put B (b12) s13 (i3) (i4) h6 (fun b15 s16 h14 =>
 C_countermandref14_Sheet_put B p1 (i2) (b15) s16 h14 (fun h17 =>
 C_countermandref14_Is B (i2) h17 (fun b19 h18 =>
 Fin B h18 (Q (b19)))))) ∧ (b7 = false →
 C_countermandref14_Is B (i2) h6 (fun b9 h8 =>
 Fin B h8 (Q (b9)))))
def S_countermandref14_Sheet_Cut (B : RO) (p1 : Option Addr) (i2 : Int) (i3 : Int) (h : Heap) (Q : Bool → Heap → Prop) : Prop :=
 C_countermandref14_Is B (i2) h (fun b6 h5 =>
 (b6 = true →
 ∃ A9 : Addr, p1 = some A9 ∧
 0 ≤ (i2 : Int) ∧ (i2 : Int) < (6 : Nat) ∧
 ∃ b11 : Bool, ∃ s12 : ByteArray, CellsAt B h5 (Addr.add (Addr.add A9 12) (Int.toNat (i2) * 2)) 0 [(Value.bool b11), (Value.string s12)] ∧
 C_countermandref09_Cut B (b11) s12 (i3) h5 (fun b14 s15 h13 =>
 C_countermandref14_Sheet_put B p1 (i2) (b14) s15 h13 (fun h16 =>
 C_countermandref14_Is B (i2) h16 (fun b18 h17 =>
 Fin B h17 (Q (b18)))))) ∧ (b6 = false →
 C_countermandref14_Is B (i2) h5 (fun b8 h7 =>
 Fin B h7 (Q (b8)))))
def S_countermandref14_Sheet_Create (B : RO) (p1 : Option Addr) (i2 : Int) (h : Heap) (Q : Bool → Heap → Prop) : Prop :=
 C_countermandref14_Is B (i2) h (fun b5 h4 =>
 (b5 = true →
 ∃ A8 : Addr, p1 = some A8 ∧
 0 ≤ (i2 : Int) ∧ (i2 : Int) < (6 : Nat) ∧
 ∃ s10 : ByteArray, cellH B h4 (Addr.add (Addr.add (Addr.add A8 12) (Int.toNat (i2) * 2)) 1) = some (Value.string s10) ∧
 C_countermandref14_Sheet_put B p1 (i2) (true) s10 h4 (fun h11 =>
 C_countermandref14_Is B (i2) h11 (fun b13 h12 =>
 Fin B h12 (Q (b13))))) ∧ (b5 = false →
 C_countermandref14_Is B (i2) h4 (fun b7 h6 =>
 Fin B h6 (Q (b7)))))
def S_countermandref14_Sheet_Remove (B : RO) (p1 : Option Addr) (i2 : Int) (h : Heap) (Q : Bool → Heap → Prop) : Prop :=
 C_countermandref14_Is B (i2) h (fun b5 h4 =>
 (b5 = true →
 C_countermandref14_Sheet_put B p1 (i2) (false) ByteArray.empty h4 (fun h8 =>
 C_countermandref14_Is B (i2) h8 (fun b10 h9 =>
 Fin B h9 (Q (b10))))) ∧ (b5 = false →
 C_countermandref14_Is B (i2) h4 (fun b7 h6 =>
 Fin B h6 (Q (b7)))))
def S_countermandref14_Sheet_Rename_J2 (B : RO) (p1 : Option Addr) (i2 : Int) (i3 : Int) (b8 : Bool) (h9 : Heap) (Q : Bool → Heap → Prop) : Prop :=
 (b8 = true →
 ∃ A10 : Addr, p1 = some A10 ∧
 0 ≤ (i2 : Int) ∧ (i2 : Int) < (6 : Nat) ∧
 ∃ b12 : Bool, ∃ s13 : ByteArray, CellsAt B h9 (Addr.add (Addr.add A10 12) (Int.toNat (i2) * 2)) 0 [(Value.bool b12), (Value.string s13)] ∧
 C_countermandref14_Sheet_put B p1 (i3) (b12) s13 h9 (fun h14 =>
 C_countermandref14_Sheet_put B p1 (i2) (false) ByteArray.empty h14 (fun h15 =>
 Fin B h15 (Q (true))))) ∧ (b8 = false →
 Fin B h9 (Q (true)))
def S_countermandref14_Sheet_Rename_J1 (B : RO) (p1 : Option Addr) (i2 : Int) (i3 : Int) (h6 : Heap) (Q : Bool → Heap → Prop) : Prop :=
 ∃ A16 : Addr, p1 = some A16 ∧
 0 ≤ (i2 : Int) ∧ (i2 : Int) < (6 : Nat) ∧
 ∃ b18 : Bool, cellH B h6 (Addr.add (Addr.add A16 12) (Int.toNat (i2) * 2)) = some (Value.bool b18) ∧ (b18 = true →
 ((i2 : Int) = i3 →
 Fin B h6 (fun h' => S_countermandref14_Sheet_Rename_J2 B p1 i2 i3 (false) h' Q)) ∧ (¬ ((i2 : Int) = i3) →
 Fin B h6 (fun h' => S_countermandref14_Sheet_Rename_J2 B p1 i2 i3 (true) h' Q))) ∧ (b18 = false →
 Fin B h6 (fun h' => S_countermandref14_Sheet_Rename_J2 B p1 i2 i3 (false) h' Q))
def S_countermandref14_Sheet_Rename (B : RO) (p1 : Option Addr) (i2 : Int) (i3 : Int) (h : Heap) (Q : Bool → Heap → Prop) : Prop :=
 C_countermandref14_Is B (i2) h (fun b21 h20 =>
 (b21 = true →
 C_countermandref14_Is B (i3) h20 (fun b23 h22 =>
 (b23 = true →
 Fin B h22 (fun h' => S_countermandref14_Sheet_Rename_J1 B p1 i2 i3 h' Q)) ∧ (b23 = false →
 Fin B h22 (Q (false))))) ∧ (b21 = false →
 Fin B h20 (Q (false))))
def S_draft_Draft_file_File_Copy (B : RO) (p1 : Option Addr) (h : Heap) (Q : Option Addr → Heap → Prop) : Prop :=
 (p1 = none →
 Fin B h (Q none)) ∧ (¬ (p1 = none) →
 ∃ A4 : Addr, p1 = some A4 ∧
 LdSl B h A4 fun a6 n7 c8 h9 =>
 C_slices_Clone_s_draft_entry_file_File_draft_entry_file_File B a6 n7 c8 h9 (fun a11 n12 c13 h10 =>
 ∀ k14 : Nat, h10 k14 = none → B k14 = none → ∀ h15 : Heap, h15 = Heap.set h10 k14 (.vec 160 (plains [(Value.slice a11 n12 c13)]) 1) →
 Fin B h15 (Q (some ⟨k14, 0, none⟩))))
def S_cell_Row_file_File_Get (B : RO) (p1 : Option Addr) (i2 : Int) (h : Heap) (Q : Bool → ByteArray → Int → Heap → Prop) : Prop :=
 ∀ k6 : Nat, h k6 = none → B k6 = none → ∀ h7 : Heap, h7 = Heap.set h k6 (.vec 41 (plains [(Value.bool false), (Value.string ByteArray.empty)]) 2) →
 C_cell_Row_file_File_is B p1 (i2) h7 (fun b9 h8 =>
 (b9 = true →
 ∃ A18 : Addr, p1 = some A18 ∧
 ∃ a22 : Option Addr, ∃ n23 : Nat, ∃ c24 : Nat, cellH B h8 A18 = some (Value.slice a22 n23 c24) ∧
 ∃ A27 : Addr, a22 = some A27 ∧ 0 ≤ (i2 : Int) ∧ (i2 : Int) < (n23 : Nat) ∧
 ∃ b33 : Bool, ∃ s34 : ByteArray, CellsAt B h8 (Addr.add A27 (Int.toNat (i2) * 3)) 0 [(Value.bool b33), (Value.string s34)] ∧
 ∃ A37 : Addr, p1 = some A37 ∧
 ∃ a41 : Option Addr, ∃ n42 : Nat, ∃ c43 : Nat, cellH B h8 A37 = some (Value.slice a41 n42 c43) ∧
 ∃ A46 : Addr, a41 = some A46 ∧ 0 ≤ (i2 : Int) ∧ (i2 : Int) < (n42 : Nat) ∧
 ∃ i52 : Int, cellH B h8 (Addr.add (Addr.add A46 (Int.toNat (i2) * 3)) 2) = some (Value.int .i64 (i52)) ∧
 ∃ h54 : Heap, StoresAt ⟨k6, 0, none⟩ h8 0 [(Value.bool b33), (Value.string s34)] h54 ∧
 cellH B h54 A18 = some (Value.slice a22 n23 c24) ∧ CellsAt B h54 (Addr.add A27 (Int.toNat (i2) * 3)) 0 [(Value.bool b33), (Value.string s34)] ∧ cellH B h54 A37 = some (Value.slice a41 n42 c43) ∧ cellH B h54 (Addr.add (Addr.add A46 (Int.toNat (i2) * 3)) 2) = some (Value.int .i64 (i52)) ∧
 ∃ b59 : Bool, ∃ s60 : ByteArray, CellsAt B h54 ⟨k6, 0, none⟩ 0 [(Value.bool b59), (Value.string s60)] ∧ Fin B h54 (Q (b59) s60 (i52))) ∧ (b9 = false →
 ∀ k10 : Nat, h8 k10 = none → B k10 = none → ∀ h11 : Heap, h11 = Heap.set h8 k10 (.vec 41 (plains [(Value.bool false), (Value.string ByteArray.empty)]) 2) →
 ∃ b12 : Bool, ∃ s13 : ByteArray, CellsAt B h11 ⟨k10, 0, none⟩ 0 [(Value.bool b12), (Value.string s13)] ∧
 ∃ h14 : Heap, StoresAt ⟨k6, 0, none⟩ h11 0 [(Value.bool b12), (Value.string s13)] h14 ∧
 ∃ b15 : Bool, ∃ s16 : ByteArray, CellsAt B h14 ⟨k6, 0, none⟩ 0 [(Value.bool b15), (Value.string s16)] ∧ Fin B h14 (Q (b15) s16 (0))))
def S_tome_Tome_All (B : RO) (p1 : Option Addr) (h : Heap) (Q : Value → Heap → Prop) : Prop :=
 ∀ k3 : Nat, h k3 = none → B k3 = none → ∀ h4 : Heap, h4 = Heap.set h k3 (.vec 25 [.plain (Value.pointer p1)] 1) →
 Fin B h4 (Q (Value.func (.func 121) #[] #[(Value.pointer (some ⟨k3, 0, none⟩))]))
def S_stylus_Stylus_Text (B : RO) (p1 : Option Addr) (a2 : Option Addr) (n3 : Nat) (c4 : Nat) (h : Heap) (Q : Heap → Prop) : Prop :=
 ∃ (J10 : Int → Nat → Heap → Prop) (m8 : Nat), Fin B h (J10 (0) m8) ∧
 ∀ (i5 : Int) (m7 : Nat) (h6 : Heap), J10 i5 m7 h6 →
 ((i5 : Int) < ((n3 : Nat)) →
 ∃ A12 : Addr, a2 = some A12 ∧ 0 ≤ (i5 : Int) ∧ (i5 : Int) < (n3 : Nat) ∧
 ∃ s14 : ByteArray, cellH B h6 (Addr.add A12 (Int.toNat (i5) * 1)) = some (Value.string s14) ∧
 ∀ k15 : Nat, h6 k15 = none → B k15 = none → ∀ h16 : Heap, h16 = Heap.set h6 k15 (.vec 3 (plains [(Value.int .i64 ((ByteArray.size s14 : Nat)))]) 1) →
 C_stylus_Stylus_Nat B p1 (some ⟨k15, 0, none⟩) 1 1 h16 (fun h17 =>
 C_stylus_Stylus_Raw B p1 s14 h17 (fun h18 =>
 Fin B h18 (fun h' => ∃ m', m' < m7 ∧ J10 (IntKind.wrap .i64 ((i5) + (1))) m' h')))) ∧ (¬ ((i5 : Int) < ((n3 : Nat))) →
 Fin B h6 (Q))
def S_draft_Draft_file_File_All_1 (B : RO) (v1 : Value) (A2 : Addr) (h : Heap) (Q : Heap → Prop) : Prop :=
 ∃ p3 : Option Addr, cellH B h A2 = some (Value.pointer p3) ∧
 (p3 = none →
 Fin B h (Q)) ∧ (¬ (p3 = none) →
 ∃ p5 : Option Addr, cellH B h A2 = some (Value.pointer p5) ∧
 ∃ A6 : Addr, p5 = some A6 ∧
 LdSl B h A6 fun a8 n9 c10 h11 =>
 ∃ (J17 : Int → Nat → Heap → Prop) (m15 : Nat), Fin B h11 (J17 (0) m15) ∧
 ∀ (i12 : Int) (m14 : Nat) (h13 : Heap), J17 i12 m14 h13 →
 ((i12 : Int) < ((n9 : Nat)) →
 ∃ A19 : Addr, a8 = some A19 ∧ 0 ≤ (i12 : Int) ∧ (i12 : Int) < (n9 : Nat) ∧
 ∃ i21 : Int, ∃ b22 : Bool, ∃ s23 : ByteArray, CellsAt B h13 (Addr.add A19 (Int.toNat (i12) * 3)) 0 [(Value.int .i64 (i21)), (Value.bool b22), (Value.string s23)] ∧
 ∀ k24 : Nat, h13 k24 = none → B k24 = none → ∀ h25 : Heap, h25 = Heap.set h13 k24 (.vec 162 (plains [(Value.int .i64 (0)), (Value.bool false), (Value.string ByteArray.empty)]) 3) →
 ∃ h26 : Heap, StoresAt ⟨k24, 0, none⟩ h25 0 [(Value.int .i64 (i21)), (Value.bool b22), (Value.string s23)] h26 ∧
 ∃ i27 : Int, cellH B h26 ⟨k24, 0, none⟩ = some (Value.int .i64 (i27)) ∧
 ∃ b28 : Bool, ∃ s29 : ByteArray, CellsAt B h26 ⟨k24, 1, none⟩ 0 [(Value.bool b28), (Value.string s29)] ∧
 CallV PG B v1 [(Value.int .i64 (i27)), (Value.agg #[(Value.bool b28), (Value.string s29)])] h26 (fun v h30 => ∃ b31 : Bool, v = (Value.bool b31) ∧
 (b31 = true →
 Fin B h30 (fun h' => ∃ m', m' < m14 ∧ J17 (IntKind.wrap .i64 ((i12) + (1))) m' h')) ∧ (b31 = false →
 Fin B h30 (Q)))) ∧ (¬ ((i12 : Int) < ((n9 : Nat))) →
 Fin B h13 (Q)))
def S_file_Put_J2 (B : RO) (i3 : Int) (i4 : Int) (k9 : Nat) (a19 : Option Addr) (n20 : Nat) (c21 : Nat) (h22 : Heap) (Q : Bool → ByteArray → Heap → Prop) : Prop :=
 ∃ A23 : Addr, a19 = some A23 ∧ 0 ≤ (i3 : Int) ∧ (i3 : Int) < (n20 : Nat) ∧
 ∃ h25 : Heap, storeH h22 (Addr.add A23 (Int.toNat (i3) * 1)) (Value.int .u8 (i4)) = some h25 ∧
 semH PG B (convert 144 9 (Value.slice a19 n20 c21)) h25 (fun v h27 => ∃ s26 : ByteArray, v = (Value.string s26) ∧
 ∃ h28 : Heap, StoresAt ⟨k9, 0, none⟩ h27 0 [(Value.bool true), (Value.string s26)] h28 ∧
 ∃ b29 : Bool, ∃ s30 : ByteArray, CellsAt B h28 ⟨k9, 0, none⟩ 0 [(Value.bool b29), (Value.string s30)] ∧ Fin B h28 (Q (b29) s30))
def S_file_Put_J1 (B : RO) (i3 : Int) (i4 : Int) (k7 : Nat) (k9 : Nat) (h12 : Heap) (Q : Bool → ByteArray → Heap → Prop) : Prop :=
 ∃ s13 : ByteArray, cellH B h12 ⟨k7, 1, none⟩ = some (Value.string s13) ∧
 semH PG B (convert 9 144 (Value.string s13)) h12 (fun v h17 => ∃ a14 : Option Addr, ∃ n15 : Nat, ∃ c16 : Nat, v = (Value.slice a14 n15 c16) ∧
 ∃ (J38 : Option Addr → Nat → Nat → Nat → Heap → Prop) (m36 : Nat), Fin B h17 (J38 a14 n15 c16 m36) ∧
 ∀ (a31 : Option Addr) (n32 : Nat) (c33 : Nat) (m35 : Nat) (h34 : Heap), J38 a31 n32 c33 m35 h34 →
 (((n32 : Nat) : Int) ≤ (i3) →
 ∀ k40 : Nat, h34 k40 = none → B k40 = none → ∀ h41 : Heap, h41 = Heap.set h34 k40 (.vec 5 (plains [(Value.int .u8 (0))]) 1) →
 semH PG B (Builtin.append_ #[144, 144] 144 #[(Value.slice a31 n32 c33), (Value.slice (some ⟨k40, 0, none⟩) 1 1)]) h41 (fun v h42 => ∃ a43 : Option Addr, ∃ n44 : Nat, ∃ c45 : Nat, v = (Value.slice a43 n44 c45) ∧
 Fin B h42 (fun h' => ∃ m', m' < m35 ∧ J38 a43 n44 c45 m' h'))) ∧ (¬ (((n32 : Nat) : Int) ≤ (i3)) →
 Fin B h34 (fun h' => S_file_Put_J2 B i3 i4 k9 a31 n32 c33 h' Q)))
def S_file_Put (B : RO) (b1 : Bool) (s2 : ByteArray) (i3 : Int) (i4 : Int) (h : Heap) (Q : Bool → ByteArray → Heap → Prop) : Prop :=
 ∀ k7 : Nat, h k7 = none → B k7 = none → ∀ h8 : Heap, h8 = Heap.set h k7 (.vec 41 (plains [(Value.bool b1), (Value.string s2)]) 2) →
 ∀ k9 : Nat, h8 k9 = none → B k9 = none → ∀ h10 : Heap, h10 = Heap.set h8 k9 (.vec 41 (plains [(Value.bool false), (Value.string ByteArray.empty)]) 2) →
 ((i3 : Int) < (0) →
 ∃ b47 : Bool, ∃ s48 : ByteArray, CellsAt B h10 ⟨k7, 0, none⟩ 0 [(Value.bool b47), (Value.string s48)] ∧
 ∃ h49 : Heap, StoresAt ⟨k9, 0, none⟩ h10 0 [(Value.bool b47), (Value.string s48)] h49 ∧
 ∃ b50 : Bool, ∃ s51 : ByteArray, CellsAt B h49 ⟨k9, 0, none⟩ 0 [(Value.bool b50), (Value.string s51)] ∧ Fin B h49 (Q (b50) s51)) ∧ (¬ ((i3 : Int) < (0)) →
 ((i3 : Int) ≥ (32) →
 ∃ b53 : Bool, ∃ s54 : ByteArray, CellsAt B h10 ⟨k7, 0, none⟩ 0 [(Value.bool b53), (Value.string s54)] ∧
 ∃ h55 : Heap, StoresAt ⟨k9, 0, none⟩ h10 0 [(Value.bool b53), (Value.string s54)] h55 ∧
 ∃ b56 : Bool, ∃ s57 : ByteArray, CellsAt B h55 ⟨k9, 0, none⟩ 0 [(Value.bool b56), (Value.string s57)] ∧ Fin B h55 (Q (b56) s57)) ∧ (¬ ((i3 : Int) ≥ (32)) →
 Fin B h10 (fun h' => S_file_Put_J1 B i3 i4 k7 k9 h' Q)))
def S_file_Cut_J1 (B : RO) (i3 : Int) (k6 : Nat) (k8 : Nat) (h11 : Heap) (Q : Bool → ByteArray → Heap → Prop) : Prop :=
 ∃ s12 : ByteArray, cellH B h11 ⟨k6, 1, none⟩ = some (Value.string s12) ∧
 ((i3 : Int) ≤ ((ByteArray.size s12 : Nat)) →
 ∃ s14 : ByteArray, cellH B h11 ⟨k6, 1, none⟩ = some (Value.string s14) ∧
 0 ≤ (0 : Int) ∧ (0 : Int) ≤ (i3 : Int) ∧ (i3 : Int) ≤ (ByteArray.size s14 : Nat) ∧
 ∃ h15 : Heap, StoresAt ⟨k8, 0, none⟩ h11 0 [(Value.bool true), (Value.string (ByteArray.extract s14 (Int.toNat (0)) (Int.toNat (i3))))] h15 ∧
 ∃ b16 : Bool, ∃ s17 : ByteArray, CellsAt B h15 ⟨k8, 0, none⟩ 0 [(Value.bool b16), (Value.string s17)] ∧ Fin B h15 (Q (b16) s17)) ∧ (¬ ((i3 : Int) ≤ ((ByteArray.size s12 : Nat))) →
 ∃ s19 : ByteArray, cellH B h11 ⟨k6, 1, none⟩ = some (Value.string s19) ∧
 ∃ s23 : ByteArray, cellH B h11 ⟨k6, 1, none⟩ = some (Value.string s23) ∧
 C_strings_Repeat B (ByteArray.mk #[0]) (IntKind.wrap .i64 ((i3) - ((ByteArray.size s23 : Nat)))) h11 (fun s28 h27 =>
 cellH B h27 ⟨k6, 1, none⟩ = some (Value.string s19) ∧ cellH B h27 ⟨k6, 1, none⟩ = some (Value.string s23) ∧
 ByteArray.size s19 + ByteArray.size s28 ≤ 4611686018427387904 ∧
 ∃ h31 : Heap, StoresAt ⟨k8, 0, none⟩ h27 0 [(Value.bool true), (Value.string (s19 ++ s28))] h31 ∧
 ∃ b32 : Bool, ∃ s33 : ByteArray, CellsAt B h31 ⟨k8, 0, none⟩ 0 [(Value.bool b32), (Value.string s33)] ∧ Fin B h31 (Q (b32) s33)))
def S_file_Cut (B : RO) (b1 : Bool) (s2 : ByteArray) (i3 : Int) (h : Heap) (Q : Bool → ByteArray → Heap → Prop) : Prop :=
 ∀ k6 : Nat, h k6 = none → B k6 = none → ∀ h7 : Heap, h7 = Heap.set h k6 (.vec 41 (plains [(Value.bool b1), (Value.string s2)]) 2) →
 ∀ k8 : Nat, h7 k8 = none → B k8 = none → ∀ h9 : Heap, h9 = Heap.set h7 k8 (.vec 41 (plains [(Value.bool false), (Value.string ByteArray.empty)]) 2) →
 ∃ b34 : Bool, cellH B h9 ⟨k6, 0, none⟩ = some (Value.bool b34) ∧ (b34 = true →
 ((i3 : Int) < (0) →
 ∃ b41 : Bool, ∃ s42 : ByteArray, CellsAt B h9 ⟨k6, 0, none⟩ 0 [(Value.bool b41), (Value.string s42)] ∧
 ∃ h43 : Heap, StoresAt ⟨k8, 0, none⟩ h9 0 [(Value.bool b41), (Value.string s42)] h43 ∧
 ∃ b44 : Bool, ∃ s45 : ByteArray, CellsAt B h43 ⟨k8, 0, none⟩ 0 [(Value.bool b44), (Value.string s45)] ∧ Fin B h43 (Q (b44) s45)) ∧ (¬ ((i3 : Int) < (0)) →
 ((i3 : Int) > (32) →
 ∃ b47 : Bool, ∃ s48 : ByteArray, CellsAt B h9 ⟨k6, 0, none⟩ 0 [(Value.bool b47), (Value.string s48)] ∧
 ∃ h49 : Heap, StoresAt ⟨k8, 0, none⟩ h9 0 [(Value.bool b47), (Value.string s48)] h49 ∧
 ∃ b50 : Bool, ∃ s51 : ByteArray, CellsAt B h49 ⟨k8, 0, none⟩ 0 [(Value.bool b50), (Value.string s51)] ∧ Fin B h49 (Q (b50) s51)) ∧ (¬ ((i3 : Int) > (32)) →
 Fin B h9 (fun h' => S_file_Cut_J1 B i3 k6 k8 h' Q)))) ∧ (b34 = false →
 ∃ b35 : Bool, ∃ s36 : ByteArray, CellsAt B h9 ⟨k6, 0, none⟩ 0 [(Value.bool b35), (Value.string s36)] ∧
 ∃ h37 : Heap, StoresAt ⟨k8, 0, none⟩ h9 0 [(Value.bool b35), (Value.string s36)] h37 ∧
 ∃ b38 : Bool, ∃ s39 : ByteArray, CellsAt B h37 ⟨k8, 0, none⟩ 0 [(Value.bool b38), (Value.string s39)] ∧ Fin B h37 (Q (b38) s39))
def S_draft_Draft_file_File_Put (B : RO) (p1 : Option Addr) (i2 : Int) (b3 : Bool) (s4 : ByteArray) (h : Heap) (Q : Bool → Heap → Prop) : Prop :=
 ∀ k6 : Nat, h k6 = none → B k6 = none → ∀ h7 : Heap, h7 = Heap.set h k6 (.vec 41 (plains [(Value.bool b3), (Value.string s4)]) 2) →
 (p1 = none →
 Fin B h7 (Q (false))) ∧ (¬ (p1 = none) →
 C_draft_Draft_file_File_find B p1 (i2) h7 (fun i10 b11 h9 =>
 (b11 = true →
 ∃ A41 : Addr, p1 = some A41 ∧
 ∃ a43 : Option Addr, ∃ n44 : Nat, ∃ c45 : Nat, cellH B h9 A41 = some (Value.slice a43 n44 c45) ∧
 ∃ b46 : Bool, ∃ s47 : ByteArray, CellsAt B h9 ⟨k6, 0, none⟩ 0 [(Value.bool b46), (Value.string s47)] ∧
 ∃ A48 : Addr, a43 = some A48 ∧ 0 ≤ (i10 : Int) ∧ (i10 : Int) < (n44 : Nat) ∧
 ∃ h50 : Heap, StoresAt (Addr.add (Addr.add A48 (Int.toNat (i10) * 3)) 1) h9 0 [(Value.bool b46), (Value.string s47)] h50 ∧
 Fin B h50 (Q (true))) ∧ (b11 = false →
 ∃ A14 : Addr, p1 = some A14 ∧
 ∃ a18 : Option Addr, ∃ n19 : Nat, ∃ c20 : Nat, cellH B h9 A14 = some (Value.slice a18 n19 c20) ∧
 ∃ b24 : Bool, ∃ s25 : ByteArray, CellsAt B h9 ⟨k6, 0, none⟩ 0 [(Value.bool b24), (Value.string s25)] ∧
 ∀ k28 : Nat, h9 k28 = none → B k28 = none → ∀ h29 : Heap, h29 = Heap.set h9 k28 (.vec 162 (plains [(Value.int .i64 (i2)), (Value.bool b24), (Value.string s25)]) 3) →
 cellH B h29 A14 = some (Value.slice a18 n19 c20) ∧ CellsAt B h29 ⟨k6, 0, none⟩ 0 [(Value.bool b24), (Value.string s25)] ∧
 C_slices_Insert_s_draft_entry_file_File_draft_entry_file_File B a18 n19 c20 (i10) (some ⟨k28, 0, none⟩) 1 1 h29 (fun a33 n34 c35 h32 =>
 cellH B h32 A14 = some (Value.slice a18 n19 c20) ∧ CellsAt B h32 ⟨k6, 0, none⟩ 0 [(Value.bool b24), (Value.string s25)] ∧
 ∃ A38 : Addr, p1 = some A38 ∧
 ∃ h40 : Heap, storeH h32 A38 (Value.slice a33 n34 c35) = some h40 ∧
 Fin B h40 (Q (true))))))
def S_draft_Draft_file_File_find (B : RO) (p1 : Option Addr) (i2 : Int) (h : Heap) (Q : Int → Bool → Heap → Prop) : Prop :=
 ∃ A5 : Addr, p1 = some A5 ∧
 LdSl B h A5 fun a7 n8 c9 h10 =>
 C_slices_BinarySearchFunc_s_draft_entry_file_File_draft_entry_file_File_int B a7 n8 c9 (i2) (Value.func (.func 127) #[] #[]) h10 (fun i12 b13 h11 =>
 Fin B h11 (Q (i12) (b13)))
def S_file_Good (B : RO) (b1 : Bool) (s2 : ByteArray) (h : Heap) (Q : Bool → Heap → Prop) : Prop :=
 ∀ k4 : Nat, h k4 = none → B k4 = none → ∀ h5 : Heap, h5 = Heap.set h k4 (.vec 41 (plains [(Value.bool b1), (Value.string s2)]) 2) →
 ∃ s6 : ByteArray, cellH B h5 ⟨k4, 1, none⟩ = some (Value.string s6) ∧
 (((ByteArray.size s6 : Nat) : Int) ≤ (32) →
 ∃ b8 : Bool, cellH B h5 ⟨k4, 0, none⟩ = some (Value.bool b8) ∧ (b8 = true →
 Fin B h5 (Q (true))) ∧ (b8 = false →
 ∃ s9 : ByteArray, cellH B h5 ⟨k4, 1, none⟩ = some (Value.string s9) ∧
 Fin B h5 (Q ((decide (s9 = (ByteArray.mk #[]))))))) ∧ (¬ (((ByteArray.size s6 : Nat) : Int) ≤ (32)) →
 Fin B h5 (Q (false)))
def S_cell_Row_file_File_Set (B : RO) (p1 : Option Addr) (i2 : Int) (b3 : Bool) (s4 : ByteArray) (i5 : Int) (h : Heap) (Q : Bool → Heap → Prop) : Prop :=
 ∀ k7 : Nat, h k7 = none → B k7 = none → ∀ h8 : Heap, h8 = Heap.set h k7 (.vec 41 (plains [(Value.bool b3), (Value.string s4)]) 2) →
 C_cell_Row_file_File_is B p1 (i2) h8 (fun b10 h9 =>
 (b10 = true →
 ∃ A11 : Addr, p1 = some A11 ∧
 ∃ a13 : Option Addr, ∃ n14 : Nat, ∃ c15 : Nat, cellH B h9 A11 = some (Value.slice a13 n14 c15) ∧
 ∃ b16 : Bool, ∃ s17 : ByteArray, CellsAt B h9 ⟨k7, 0, none⟩ 0 [(Value.bool b16), (Value.string s17)] ∧
 ∃ A18 : Addr, a13 = some A18 ∧ 0 ≤ (i2 : Int) ∧ (i2 : Int) < (n14 : Nat) ∧
 ∃ h20 : Heap, StoresAt (Addr.add A18 (Int.toNat (i2) * 3)) h9 0 [(Value.bool b16), (Value.string s17), (Value.int .i64 (i5))] h20 ∧
 Fin B h20 (Q (true))) ∧ (b10 = false →
 Fin B h9 (Q (false))))
def S_countermandref14_Sheet_put (B : RO) (p1 : Option Addr) (i2 : Int) (b3 : Bool) (s4 : ByteArray) (h : Heap) (Q : Heap → Prop) : Prop :=
 ∀ k5 : Nat, h k5 = none → B k5 = none → ∀ h6 : Heap, h6 = Heap.set h k5 (.vec 76 (plains [(Value.bool b3), (Value.string s4)]) 2) →
 ∃ A7 : Addr, p1 = some A7 ∧
 0 ≤ (i2 : Int) ∧ (i2 : Int) < (6 : Nat) ∧
 ∃ b9 : Bool, ∃ s10 : ByteArray, CellsAt B h6 (Addr.add (Addr.add A7 12) (Int.toNat (i2) * 2)) 0 [(Value.bool b9), (Value.string s10)] ∧
 ∃ b11 : Bool, ∃ s12 : ByteArray, CellsAt B h6 ⟨k5, 0, none⟩ 0 [(Value.bool b11), (Value.string s12)] ∧
 (eqL [(Value.bool b9), (Value.string s10)] [(Value.bool b11), (Value.string s12)] = true →
 Fin B h6 (Q)) ∧ (¬ (eqL [(Value.bool b9), (Value.string s10)] [(Value.bool b11), (Value.string s12)] = true) →
 ∃ b14 : Bool, ∃ s15 : ByteArray, CellsAt B h6 ⟨k5, 0, none⟩ 0 [(Value.bool b14), (Value.string s15)] ∧
 ∃ A16 : Addr, p1 = some A16 ∧
 0 ≤ (i2 : Int) ∧ (i2 : Int) < (6 : Nat) ∧
 ∃ h18 : Heap, StoresAt (Addr.add (Addr.add A16 12) (Int.toNat (i2) * 2)) h6 0 [(Value.bool b14), (Value.string s15)] h18 ∧
 ∃ A19 : Addr, p1 = some A19 ∧
 0 ≤ (i2 : Int) ∧ (i2 : Int) < (6 : Nat) ∧
 ∃ h21 : Heap, storeH h18 (Addr.add (Addr.add A19 24) (Int.toNat (i2) * 1)) (Value.bool true) = some h21 ∧
 Fin B h21 (Q))
def S_countermandref09_Put_J3 (B : RO) (i3 : Int) (i4 : Int) (k7 : Nat) (k9 : Nat) (s13 : ByteArray) (i14 : Int) (m16 : Nat) (J19 : ByteArray → Int → Nat → Heap → Prop) (i27 : Int) (h28 : Heap) (Q : Bool → ByteArray → Heap → Prop) : Prop :=
 ∀ k29 : Nat, h28 k29 = none → B k29 = none → ∀ h30 : Heap, h30 = Heap.set h28 k29 (.vec 5 (plains [(Value.int .u8 (IntKind.wrap .u8 (i27)))]) 1) →
 semH PG B (convert 144 9 (Value.slice (some ⟨k29, 0, none⟩) 1 1)) h30 (fun v h32 => ∃ s31 : ByteArray, v = (Value.string s31) ∧
 ByteArray.size s13 + ByteArray.size s31 ≤ 4611686018427387904 ∧
 Fin B h32 (fun h' => ∃ m', m' < m16 ∧ J19 (s13 ++ s31) (IntKind.wrap .i64 ((i14) + (1))) m' h'))
def S_countermandref09_Put_J2 (B : RO) (i3 : Int) (i4 : Int) (k7 : Nat) (k9 : Nat) (s13 : ByteArray) (i14 : Int) (m16 : Nat) (J19 : ByteArray → Int → Nat → Heap → Prop) (h21 : Heap) (Q : Bool → ByteArray → Heap → Prop) : Prop :=
 ∃ b22 : Bool, ∃ s23 : ByteArray, CellsAt B h21 ⟨k7, 0, none⟩ 0 [(Value.bool b22), (Value.string s23)] ∧
 C_countermandref09_At B (b22) s23 (i14) h21 (fun i25 h24 =>
 ((i14 : Int) = i3 →
 Fin B h24 (fun h' => S_countermandref09_Put_J3 B i3 i4 k7 k9 s13 i14 m16 J19 (IntKind.wrap .i64 (i4)) h' Q)) ∧ (¬ ((i14 : Int) = i3) →
 Fin B h24 (fun h' => S_countermandref09_Put_J3 B i3 i4 k7 k9 s13 i14 m16 J19 (if (0 : Int) > (i25) then (0 : Int) else (i25)) h' Q)))
def S_countermandref09_Put_J1 (B : RO) (i3 : Int) (i4 : Int) (k7 : Nat) (k9 : Nat) (h12 : Heap) (Q : Bool → ByteArray → Heap → Prop) : Prop :=
 ∃ (J19 : ByteArray → Int → Nat → Heap → Prop) (m17 : Nat), Fin B h12 (J19 (ByteArray.mk #[]) (0) m17) ∧
 ∀ (s13 : ByteArray) (i14 : Int) (m16 : Nat) (h15 : Heap), J19 s13 i14 m16 h15 →
 ∃ s34 : ByteArray, cellH B h15 ⟨k7, 1, none⟩ = some (Value.string s34) ∧
 ((i14 : Int) < ((ByteArray.size s34 : Nat)) →
 Fin B h15 (fun h' => S_countermandref09_Put_J2 B i3 i4 k7 k9 s13 i14 m16 J19 h' Q)) ∧ (¬ ((i14 : Int) < ((ByteArray.size s34 : Nat))) →
 ((i14 : Int) ≤ (i3) →
 Fin B h15 (fun h' => S_countermandref09_Put_J2 B i3 i4 k7 k9 s13 i14 m16 J19 h' Q)) ∧ (¬ ((i14 : Int) ≤ (i3)) →
 ∃ h37 : Heap, StoresAt ⟨k9, 0, none⟩ h15 0 [(Value.bool true), (Value.string s13)] h37 ∧
 ∃ b38 : Bool, ∃ s39 : ByteArray, CellsAt B h37 ⟨k9, 0, none⟩ 0 [(Value.bool b38), (Value.string s39)] ∧ Fin B h37 (Q (b38) s39)))
def S_countermandref09_Put (B : RO) (b1 : Bool) (s2 : ByteArray) (i3 : Int) (i4 : Int) (h : Heap) (Q : Bool → ByteArray → Heap → Prop) : Prop :=
 ∀ k7 : Nat, h k7 = none → B k7 = none → ∀ h8 : Heap, h8 = Heap.set h k7 (.vec 76 (plains [(Value.bool b1), (Value.string s2)]) 2) →
 ∀ k9 : Nat, h8 k9 = none → B k9 = none → ∀ h10 : Heap, h10 = Heap.set h8 k9 (.vec 76 (plains [(Value.bool false), (Value.string ByteArray.empty)]) 2) →
 ((i3 : Int) < (0) →
 ∃ b41 : Bool, ∃ s42 : ByteArray, CellsAt B h10 ⟨k7, 0, none⟩ 0 [(Value.bool b41), (Value.string s42)] ∧
 ∃ h43 : Heap, StoresAt ⟨k9, 0, none⟩ h10 0 [(Value.bool b41), (Value.string s42)] h43 ∧
 ∃ b44 : Bool, ∃ s45 : ByteArray, CellsAt B h43 ⟨k9, 0, none⟩ 0 [(Value.bool b44), (Value.string s45)] ∧ Fin B h43 (Q (b44) s45)) ∧ (¬ ((i3 : Int) < (0)) →
 ((i3 : Int) > (31) →
 ∃ b47 : Bool, ∃ s48 : ByteArray, CellsAt B h10 ⟨k7, 0, none⟩ 0 [(Value.bool b47), (Value.string s48)] ∧
 ∃ h49 : Heap, StoresAt ⟨k9, 0, none⟩ h10 0 [(Value.bool b47), (Value.string s48)] h49 ∧
 ∃ b50 : Bool, ∃ s51 : ByteArray, CellsAt B h49 ⟨k9, 0, none⟩ 0 [(Value.bool b50), (Value.string s51)] ∧ Fin B h49 (Q (b50) s51)) ∧ (¬ ((i3 : Int) > (31)) →
 Fin B h10 (fun h' => S_countermandref09_Put_J1 B i3 i4 k7 k9 h' Q)))
def S_countermandref09_Cut_J1 (B : RO) (i3 : Int) (k6 : Nat) (k8 : Nat) (h11 : Heap) (Q : Bool → ByteArray → Heap → Prop) : Prop :=
 ∃ (J18 : ByteArray → Int → Nat → Heap → Prop) (m16 : Nat), Fin B h11 (J18 (ByteArray.mk #[]) (0) m16) ∧
 ∀ (s12 : ByteArray) (i13 : Int) (m15 : Nat) (h14 : Heap), J18 s12 i13 m15 h14 →
 ((i13 : Int) < (i3) →
 ∃ b20 : Bool, ∃ s21 : ByteArray, CellsAt B h14 ⟨k6, 0, none⟩ 0 [(Value.bool b20), (Value.string s21)] ∧
 C_countermandref09_At B (b20) s21 (i13) h14 (fun i23 h22 =>
 ∀ k24 : Nat, h22 k24 = none → B k24 = none → ∀ h25 : Heap, h25 = Heap.set h22 k24 (.vec 5 (plains [(Value.int .u8 (IntKind.wrap .u8 (if (0 : Int) > (i23) then (0 : Int) else (i23))))]) 1) →
 semH PG B (convert 144 9 (Value.slice (some ⟨k24, 0, none⟩) 1 1)) h25 (fun v h27 => ∃ s26 : ByteArray, v = (Value.string s26) ∧
 ByteArray.size s12 + ByteArray.size s26 ≤ 4611686018427387904 ∧
 Fin B h27 (fun h' => ∃ m', m' < m15 ∧ J18 (s12 ++ s26) (IntKind.wrap .i64 ((i13) + (1))) m' h')))) ∧ (¬ ((i13 : Int) < (i3)) →
 ∃ h28 : Heap, StoresAt ⟨k8, 0, none⟩ h14 0 [(Value.bool true), (Value.string s12)] h28 ∧
 ∃ b29 : Bool, ∃ s30 : ByteArray, CellsAt B h28 ⟨k8, 0, none⟩ 0 [(Value.bool b29), (Value.string s30)] ∧ Fin B h28 (Q (b29) s30))
def S_countermandref09_Cut (B : RO) (b1 : Bool) (s2 : ByteArray) (i3 : Int) (h : Heap) (Q : Bool → ByteArray → Heap → Prop) : Prop :=
 ∀ k6 : Nat, h k6 = none → B k6 = none → ∀ h7 : Heap, h7 = Heap.set h k6 (.vec 76 (plains [(Value.bool b1), (Value.string s2)]) 2) →
 ∀ k8 : Nat, h7 k8 = none → B k8 = none → ∀ h9 : Heap, h9 = Heap.set h7 k8 (.vec 76 (plains [(Value.bool false), (Value.string ByteArray.empty)]) 2) →
 ∃ b31 : Bool, cellH B h9 ⟨k6, 0, none⟩ = some (Value.bool b31) ∧ (b31 = true →
 ((i3 : Int) < (0) →
 ∃ b38 : Bool, ∃ s39 : ByteArray, CellsAt B h9 ⟨k6, 0, none⟩ 0 [(Value.bool b38), (Value.string s39)] ∧
 ∃ h40 : Heap, StoresAt ⟨k8, 0, none⟩ h9 0 [(Value.bool b38), (Value.string s39)] h40 ∧
 ∃ b41 : Bool, ∃ s42 : ByteArray, CellsAt B h40 ⟨k8, 0, none⟩ 0 [(Value.bool b41), (Value.string s42)] ∧ Fin B h40 (Q (b41) s42)) ∧ (¬ ((i3 : Int) < (0)) →
 ((i3 : Int) > (32) →
 ∃ b44 : Bool, ∃ s45 : ByteArray, CellsAt B h9 ⟨k6, 0, none⟩ 0 [(Value.bool b44), (Value.string s45)] ∧
 ∃ h46 : Heap, StoresAt ⟨k8, 0, none⟩ h9 0 [(Value.bool b44), (Value.string s45)] h46 ∧
 ∃ b47 : Bool, ∃ s48 : ByteArray, CellsAt B h46 ⟨k8, 0, none⟩ 0 [(Value.bool b47), (Value.string s48)] ∧ Fin B h46 (Q (b47) s48)) ∧ (¬ ((i3 : Int) > (32)) →
 Fin B h9 (fun h' => S_countermandref09_Cut_J1 B i3 k6 k8 h' Q)))) ∧ (b31 = false →
 ∃ b32 : Bool, ∃ s33 : ByteArray, CellsAt B h9 ⟨k6, 0, none⟩ 0 [(Value.bool b32), (Value.string s33)] ∧
 ∃ h34 : Heap, StoresAt ⟨k8, 0, none⟩ h9 0 [(Value.bool b32), (Value.string s33)] h34 ∧
 ∃ b35 : Bool, ∃ s36 : ByteArray, CellsAt B h34 ⟨k8, 0, none⟩ 0 [(Value.bool b35), (Value.string s36)] ∧ Fin B h34 (Q (b35) s36))
def S_slices_Clone_s_draft_entry_file_File_draft_entry_file_File (B : RO) (a1 : Option Addr) (n2 : Nat) (c3 : Nat) (h : Heap) (Q : Option Addr → Nat → Nat → Heap → Prop) : Prop :=
 (a1 = none →
 Fin B h (Q none 0 0)) ∧ (¬ (a1 = none) →
 ∀ k8 : Nat, h k8 = none → B k8 = none → ∀ h9 : Heap, h9 = Heap.set h k8 (.vec 162 [] 0) →
 semH PG B (Builtin.append_ #[158, 158] 158 #[(Value.slice (some ⟨k8, 0, none⟩) 0 0), (Value.slice a1 n2 c3)]) h9 (fun v h10 => ∃ a11 : Option Addr, ∃ n12 : Nat, ∃ c13 : Nat, v = (Value.slice a11 n12 c13) ∧
 Fin B h10 (Q a11 n12 c13)))
def S_cell_Row_file_File_is (B : RO) (p1 : Option Addr) (i2 : Int) (h : Heap) (Q : Bool → Heap → Prop) : Prop :=
 (p1 = none →
 Fin B h (Q (false))) ∧ (¬ (p1 = none) →
 ((i2 : Int) ≥ (0) →
 ∃ A6 : Addr, p1 = some A6 ∧
 LdSl B h A6 fun a8 n9 c10 h11 =>
 Fin B h11 (Q ((decide ((i2 : Int) < ((n9 : Nat))))))) ∧ (¬ ((i2 : Int) ≥ (0)) →
 Fin B h (Q (false))))
def S_tome_Tome_All_1 (B : RO) (v1 : Value) (A2 : Addr) (h : Heap) (Q : Heap → Prop) : Prop :=
 isOne v1 = true ∧
 ∀ k3 : Nat, h k3 = none → B k3 = none → ∀ h4 : Heap, h4 = Heap.set h k3 (.vec 157 [.plain v1] 1) →
 ∃ p5 : Option Addr, cellH B h4 A2 = some (Value.pointer p5) ∧
 (p5 = none →
 Fin B h4 (Q)) ∧ (¬ (p5 = none) →
 ∃ p7 : Option Addr, cellH B h4 A2 = some (Value.pointer p7) ∧
 ∃ A8 : Addr, p7 = some A8 ∧
 ∃ p10 : Option Addr, cellH B h4 A8 = some (Value.pointer p10) ∧
 C_cell_Row_file_File_All B p10 h4 (fun v12 h11 =>
 ∃ (xs20 : List (Int × Bool × ByteArray)) (G16 : Heap → Prop) (J19 : Nat → Heap → Prop), Iter PG B v12 (xs20.map (fun x : Int × Bool × ByteArray => [(Value.int .i64 (x.1)), (Value.agg #[(Value.bool x.2.1), (Value.string x.2.2)])])) G16 ∧ Ins G16 ∧ (∀ i h, J19 i h → G16 h) ∧ Fin B h11 (J19 0) ∧
 (∀ (q18 : Nat) (h17 : Heap) (i13 : Int) (b14 : Bool) (s15 : ByteArray), xs20[q18]? = some (i13, b14, s15) → J19 q18 h17 →
 ∀ k21 : Nat, h17 k21 = none → B k21 = none → ∀ h22 : Heap, h22 = Heap.set h17 k21 (.vec 41 (plains [(Value.bool false), (Value.string ByteArray.empty)]) 2) →
 ∃ h23 : Heap, StoresAt ⟨k21, 0, none⟩ h22 0 [(Value.bool b14), (Value.string s15)] h23 ∧
 ∃ b24 : Bool, cellH B h23 ⟨k21, 0, none⟩ = some (Value.bool b24) ∧ (b24 = true →
 ∃ v25 : Value, cellH B h23 ⟨k3, 0, none⟩ = some v25 ∧
 ∃ b26 : Bool, ∃ s27 : ByteArray, CellsAt B h23 ⟨k21, 0, none⟩ 0 [(Value.bool b26), (Value.string s27)] ∧
 CallV PG B v25 [(Value.int .i64 (i13)), (Value.agg #[(Value.bool b26), (Value.string s27)])] h23 (fun v h28 => ∃ b29 : Bool, v = (Value.bool b29) ∧
 (b29 = true →
 Fin B h28 (J19 (q18 + 1))) ∧ (b29 = false →
 Fin B h28 (Q)))) ∧ (b24 = false →
 Fin B h23 (J19 (q18 + 1)))) ∧
 (∀ (h17 : Heap), J19 xs20.length h17 →
 Fin B h17 (Q))))
def S_cell_Row_file_File_All (B : RO) (p1 : Option Addr) (h : Heap) (Q : Value → Heap → Prop) : Prop :=
 ∀ k3 : Nat, h k3 = none → B k3 = none → ∀ h4 : Heap, h4 = Heap.set h k3 (.vec 110 [.plain (Value.pointer p1)] 1) →
 Fin B h4 (Q (Value.func (.func 139) #[] #[(Value.pointer (some ⟨k3, 0, none⟩))]))
def S_slices_Insert_s_draft_entry_file_File_draft_entry_file_File (B : RO) (a1 : Option Addr) (n2 : Nat) (c3 : Nat) (i4 : Int) (a5 : Option Addr) (n6 : Nat) (c7 : Nat) (h : Heap) (Q : Option Addr → Nat → Nat → Heap → Prop) : Prop :=
 0 ≤ (i4 : Int) ∧ (i4 : Int) ≤ ((n2 : Nat) : Int) ∧ ((n2 : Nat) : Int) ≤ (c3 : Nat) ∧
 (((n6 : Nat) : Int) = 0 →
 Fin B h (Q a1 n2 c3)) ∧ (¬ (((n6 : Nat) : Int) = 0) →
 ((i4 : Int) = (n2 : Nat) →
 semH PG B (Builtin.append_ #[158, 158] 158 #[(Value.slice a1 n2 c3), (Value.slice a5 n6 c7)]) h (fun v h13 => ∃ a14 : Option Addr, ∃ n15 : Nat, ∃ c16 : Nat, v = (Value.slice a14 n15 c16) ∧
 Fin B h13 (Q a14 n15 c16))) ∧ (¬ ((i4 : Int) = (n2 : Nat)) →
 ((IntKind.wrap .i64 (((n2 : Nat)) + ((n6 : Nat))) : Int) > ((c3 : Nat)) →
 0 ≤ (0 : Int) ∧ (0 : Int) ≤ (i4 : Int) ∧ (i4 : Int) ≤ (c3 : Nat) ∧
 semH PG B (Builtin.append_ #[158, 3] 158 #[(Value.slice (if c3 = Int.toNat (0) then a1 else Option.map (·.add (Int.toNat (0) * 3)) a1) (Int.toNat (i4) - Int.toNat (0)) (c3 - Int.toNat (0))), (Value.int .i64 (IntKind.wrap .i64 ((IntKind.wrap .i64 (((n2 : Nat)) + ((n6 : Nat)))) - (i4))))]) h (fun v h18 => ∃ a19 : Option Addr, ∃ n20 : Nat, ∃ c21 : Nat, v = (Value.slice a19 n20 c21) ∧
 0 ≤ (i4 : Int) ∧ (i4 : Int) ≤ ((n20 : Nat) : Int) ∧ ((n20 : Nat) : Int) ≤ (c21 : Nat) ∧
 semH PG B (Builtin.copy_ #[158, 158] 3 #[(Value.slice (if c21 = Int.toNat (i4) then a19 else Option.map (·.add (Int.toNat (i4) * 3)) a19) (Int.toNat ((n20 : Nat)) - Int.toNat (i4)) (c21 - Int.toNat (i4))), (Value.slice a5 n6 c7)]) h18 (fun v h22 => ∃ i23 : Int, v = (Value.int .i64 (i23)) ∧
 0 ≤ (IntKind.wrap .i64 ((i4) + ((n6 : Nat))) : Int) ∧ (IntKind.wrap .i64 ((i4) + ((n6 : Nat))) : Int) ≤ ((n20 : Nat) : Int) ∧ ((n20 : Nat) : Int) ≤ (c21 : Nat) ∧
 0 ≤ (i4 : Int) ∧ (i4 : Int) ≤ ((n2 : Nat) : Int) ∧ ((n2 : Nat) : Int) ≤ (c3 : Nat) ∧
 semH PG B (Builtin.copy_ #[158, 158] 3 #[(Value.slice (if c21 = Int.toNat (IntKind.wrap .i64 ((i4) + ((n6 : Nat)))) then a19 else Option.map (·.add (Int.toNat (IntKind.wrap .i64 ((i4) + ((n6 : Nat)))) * 3)) a19) (Int.toNat ((n20 : Nat)) - Int.toNat (IntKind.wrap .i64 ((i4) + ((n6 : Nat))))) (c21 - Int.toNat (IntKind.wrap .i64 ((i4) + ((n6 : Nat)))))), (Value.slice (if c3 = Int.toNat (i4) then a1 else Option.map (·.add (Int.toNat (i4) * 3)) a1) (Int.toNat ((n2 : Nat)) - Int.toNat (i4)) (c3 - Int.toNat (i4)))]) h22 (fun v h24 => ∃ i25 : Int, v = (Value.int .i64 (i25)) ∧
 Fin B h24 (Q a19 n20 c21))))) ∧ (¬ ((IntKind.wrap .i64 (((n2 : Nat)) + ((n6 : Nat))) : Int) > ((c3 : Nat))) →
 0 ≤ (0 : Int) ∧ (0 : Int) ≤ (IntKind.wrap .i64 (((n2 : Nat)) + ((n6 : Nat))) : Int) ∧ (IntKind.wrap .i64 (((n2 : Nat)) + ((n6 : Nat))) : Int) ≤ (c3 : Nat) ∧
 0 ≤ (IntKind.wrap .i64 ((i4) + ((n6 : Nat))) : Int) ∧ (IntKind.wrap .i64 ((i4) + ((n6 : Nat))) : Int) ≤ (((Int.toNat (IntKind.wrap .i64 (((n2 : Nat)) + ((n6 : Nat)))) - Int.toNat (0)) : Nat) : Int) ∧ (((Int.toNat (IntKind.wrap .i64 (((n2 : Nat)) + ((n6 : Nat)))) - Int.toNat (0)) : Nat) : Int) ≤ ((c3 - Int.toNat (0)) : Nat) ∧
 semH PG B (Extern.SlicesOverlaps.overlaps #[158, 158] #[4] #[(Value.slice a5 n6 c7), (Value.slice (if (c3 - Int.toNat (0)) = Int.toNat (IntKind.wrap .i64 ((i4) + ((n6 : Nat)))) then (if c3 = Int.toNat (0) then a1 else Option.map (·.add (Int.toNat (0) * 3)) a1) else Option.map (·.add (Int.toNat (IntKind.wrap .i64 ((i4) + ((n6 : Nat)))) * 3)) (if c3 = Int.toNat (0) then a1 else Option.map (·.add (Int.toNat (0) * 3)) a1)) (Int.toNat (((Int.toNat (IntKind.wrap .i64 (((n2 : Nat)) + ((n6 : Nat)))) - Int.toNat (0)) : Nat)) - Int.toNat (IntKind.wrap .i64 ((i4) + ((n6 : Nat))))) ((c3 - Int.toNat (0)) - Int.toNat (IntKind.wrap .i64 ((i4) + ((n6 : Nat))))))]) h (fun v h26 => ∃ b27 : Bool, v = (Value.bool b27) ∧
 (b27 = true →
 0 ≤ ((n2 : Nat) : Int) ∧ ((n2 : Nat) : Int) ≤ (((Int.toNat (IntKind.wrap .i64 (((n2 : Nat)) + ((n6 : Nat)))) - Int.toNat (0)) : Nat) : Int) ∧ (((Int.toNat (IntKind.wrap .i64 (((n2 : Nat)) + ((n6 : Nat)))) - Int.toNat (0)) : Nat) : Int) ≤ ((c3 - Int.toNat (0)) : Nat) ∧
 semH PG B (Builtin.copy_ #[158, 158] 3 #[(Value.slice (if (c3 - Int.toNat (0)) = Int.toNat ((n2 : Nat)) then (if c3 = Int.toNat (0) then a1 else Option.map (·.add (Int.toNat (0) * 3)) a1) else Option.map (·.add (Int.toNat ((n2 : Nat)) * 3)) (if c3 = Int.toNat (0) then a1 else Option.map (·.add (Int.toNat (0) * 3)) a1)) (Int.toNat (((Int.toNat (IntKind.wrap .i64 (((n2 : Nat)) + ((n6 : Nat)))) - Int.toNat (0)) : Nat)) - Int.toNat ((n2 : Nat))) ((c3 - Int.toNat (0)) - Int.toNat ((n2 : Nat)))), (Value.slice a5 n6 c7)]) h26 (fun v h32 => ∃ i33 : Int, v = (Value.int .i64 (i33)) ∧
 0 ≤ (i4 : Int) ∧ (i4 : Int) ≤ (((Int.toNat (IntKind.wrap .i64 (((n2 : Nat)) + ((n6 : Nat)))) - Int.toNat (0)) : Nat) : Int) ∧ (((Int.toNat (IntKind.wrap .i64 (((n2 : Nat)) + ((n6 : Nat)))) - Int.toNat (0)) : Nat) : Int) ≤ ((c3 - Int.toNat (0)) : Nat) ∧
 C_slices_rotateRight_draft_entry_file_File B (if (c3 - Int.toNat (0)) = Int.toNat (i4) then (if c3 = Int.toNat (0) then a1 else Option.map (·.add (Int.toNat (0) * 3)) a1) else Option.map (·.add (Int.toNat (i4) * 3)) (if c3 = Int.toNat (0) then a1 else Option.map (·.add (Int.toNat (0) * 3)) a1)) (Int.toNat (((Int.toNat (IntKind.wrap .i64 (((n2 : Nat)) + ((n6 : Nat)))) - Int.toNat (0)) : Nat)) - Int.toNat (i4)) ((c3 - Int.toNat (0)) - Int.toNat (i4)) ((n6 : Nat)) h32 (fun h34 =>
 Fin B h34 (Q (if c3 = Int.toNat (0) then a1 else Option.map (·.add (Int.toNat (0) * 3)) a1) (Int.toNat (IntKind.wrap .i64 (((n2 : Nat)) + ((n6 : Nat)))) - Int.toNat (0)) (c3 - Int.toNat (0)))))) ∧ (b27 = false →
 0 ≤ (IntKind.wrap .i64 ((i4) + ((n6 : Nat))) : Int) ∧ (IntKind.wrap .i64 ((i4) + ((n6 : Nat))) : Int) ≤ (((Int.toNat (IntKind.wrap .i64 (((n2 : Nat)) + ((n6 : Nat)))) - Int.toNat (0)) : Nat) : Int) ∧ (((Int.toNat (IntKind.wrap .i64 (((n2 : Nat)) + ((n6 : Nat)))) - Int.toNat (0)) : Nat) : Int) ≤ ((c3 - Int.toNat (0)) : Nat) ∧
 0 ≤ (i4 : Int) ∧ (i4 : Int) ≤ (((Int.toNat (IntKind.wrap .i64 (((n2 : Nat)) + ((n6 : Nat)))) - Int.toNat (0)) : Nat) : Int) ∧ (((Int.toNat (IntKind.wrap .i64 (((n2 : Nat)) + ((n6 : Nat)))) - Int.toNat (0)) : Nat) : Int) ≤ ((c3 - Int.toNat (0)) : Nat) ∧
 semH PG B (Builtin.copy_ #[158, 158] 3 #[(Value.slice (if (c3 - Int.toNat (0)) = Int.toNat (IntKind.wrap .i64 ((i4) + ((n6 : Nat)))) then (if c3 = Int.toNat (0) then a1 else Option.map (·.add (Int.toNat (0) * 3)) a1) else Option.map (·.add (Int.toNat (IntKind.wrap .i64 ((i4) + ((n6 : Nat)))) * 3)) (if c3 = Int.toNat (0) then a1 else Option.map (·.add (Int.toNat (0) * 3)) a1)) (Int.toNat (((Int.toNat (IntKind.wrap .i64 (((n2 : Nat)) + ((n6 : Nat)))) - Int.toNat (0)) : Nat)) - Int.toNat (IntKind.wrap .i64 ((i4) + ((n6 : Nat))))) ((c3 - Int.toNat (0)) - Int.toNat (IntKind.wrap .i64 ((i4) + ((n6 : Nat)))))), (Value.slice (if (c3 - Int.toNat (0)) = Int.toNat (i4) then (if c3 = Int.toNat (0) then a1 else Option.map (·.add (Int.toNat (0) * 3)) a1) else Option.map (·.add (Int.toNat (i4) * 3)) (if c3 = Int.toNat (0) then a1 else Option.map (·.add (Int.toNat (0) * 3)) a1)) (Int.toNat (((Int.toNat (IntKind.wrap .i64 (((n2 : Nat)) + ((n6 : Nat)))) - Int.toNat (0)) : Nat)) - Int.toNat (i4)) ((c3 - Int.toNat (0)) - Int.toNat (i4)))]) h26 (fun v h28 => ∃ i29 : Int, v = (Value.int .i64 (i29)) ∧
 0 ≤ (i4 : Int) ∧ (i4 : Int) ≤ (((Int.toNat (IntKind.wrap .i64 (((n2 : Nat)) + ((n6 : Nat)))) - Int.toNat (0)) : Nat) : Int) ∧ (((Int.toNat (IntKind.wrap .i64 (((n2 : Nat)) + ((n6 : Nat)))) - Int.toNat (0)) : Nat) : Int) ≤ ((c3 - Int.toNat (0)) : Nat) ∧
 semH PG B (Builtin.copy_ #[158, 158] 3 #[(Value.slice (if (c3 - Int.toNat (0)) = Int.toNat (i4) then (if c3 = Int.toNat (0) then a1 else Option.map (·.add (Int.toNat (0) * 3)) a1) else Option.map (·.add (Int.toNat (i4) * 3)) (if c3 = Int.toNat (0) then a1 else Option.map (·.add (Int.toNat (0) * 3)) a1)) (Int.toNat (((Int.toNat (IntKind.wrap .i64 (((n2 : Nat)) + ((n6 : Nat)))) - Int.toNat (0)) : Nat)) - Int.toNat (i4)) ((c3 - Int.toNat (0)) - Int.toNat (i4))), (Value.slice a5 n6 c7)]) h28 (fun v h30 => ∃ i31 : Int, v = (Value.int .i64 (i31)) ∧
 Fin B h30 (Q (if c3 = Int.toNat (0) then a1 else Option.map (·.add (Int.toNat (0) * 3)) a1) (Int.toNat (IntKind.wrap .i64 (((n2 : Nat)) + ((n6 : Nat)))) - Int.toNat (0)) (c3 - Int.toNat (0))))))))))
def S_slices_BinarySearchFunc_s_draft_entry_file_File_draft_entry_file_File_int_J1 (B : RO) (a1 : Option Addr) (n2 : Nat) (c3 : Nat) (i4 : Int) (v5 : Value) (i9 : Int) (h10 : Heap) (Q : Int → Bool → Heap → Prop) : Prop :=
 ((i9 : Int) < ((n2 : Nat)) →
 ∃ A12 : Addr, a1 = some A12 ∧ 0 ≤ (i9 : Int) ∧ (i9 : Int) < (n2 : Nat) ∧
 ∃ i14 : Int, ∃ b15 : Bool, ∃ s16 : ByteArray, CellsAt B h10 (Addr.add A12 (Int.toNat (i9) * 3)) 0 [(Value.int .i64 (i14)), (Value.bool b15), (Value.string s16)] ∧
 CallV PG B v5 [(Value.agg #[(Value.int .i64 (i14)), (Value.bool b15), (Value.string s16)]), (Value.int .i64 (i4))] h10 (fun v h17 => ∃ i18 : Int, v = (Value.int .i64 (i18)) ∧
 Fin B h17 (Q (i9) (((i18 : Int) == (0)))))) ∧ (¬ ((i9 : Int) < ((n2 : Nat))) →
 Fin B h10 (Q (i9) (false)))
def S_slices_BinarySearchFunc_s_draft_entry_file_File_draft_entry_file_File_int (B : RO) (a1 : Option Addr) (n2 : Nat) (c3 : Nat) (i4 : Int) (v5 : Value) (h : Heap) (Q : Int → Bool → Heap → Prop) : Prop :=
 ∃ (J25 : Int → Int → Nat → Heap → Prop) (m23 : Nat), Fin B h (J25 (0) ((n2 : Nat)) m23) ∧
 ∀ (i19 : Int) (i20 : Int) (m22 : Nat) (h21 : Heap), J25 i19 i20 m22 h21 →
 ((i19 : Int) < (i20) →
 ¬ ((1 : Int) < 0) ∧
 ∃ A27 : Addr, a1 = some A27 ∧ 0 ≤ (IntKind.wrap .i64 (Int.fdiv (IntKind.wrap .u64 (IntKind.wrap .i64 ((i19) + (i20)))) (2 ^ (min (Int.toNat (1)) (IntKind.bits .u64)))) : Int) ∧ (IntKind.wrap .i64 (Int.fdiv (IntKind.wrap .u64 (IntKind.wrap .i64 ((i19) + (i20)))) (2 ^ (min (Int.toNat (1)) (IntKind.bits .u64)))) : Int) < (n2 : Nat) ∧
 ∃ i29 : Int, ∃ b30 : Bool, ∃ s31 : ByteArray, CellsAt B h21 (Addr.add A27 (Int.toNat (IntKind.wrap .i64 (Int.fdiv (IntKind.wrap .u64 (IntKind.wrap .i64 ((i19) + (i20)))) (2 ^ (min (Int.toNat (1)) (IntKind.bits .u64))))) * 3)) 0 [(Value.int .i64 (i29)), (Value.bool b30), (Value.string s31)] ∧
 CallV PG B v5 [(Value.agg #[(Value.int .i64 (i29)), (Value.bool b30), (Value.string s31)]), (Value.int .i64 (i4))] h21 (fun v h32 => ∃ i33 : Int, v = (Value.int .i64 (i33)) ∧
 ((i33 : Int) < (0) →
 Fin B h32 (fun h' => ∃ m', m' < m22 ∧ J25 (IntKind.wrap .i64 ((IntKind.wrap .i64 (Int.fdiv (IntKind.wrap .u64 (IntKind.wrap .i64 ((i19) + (i20)))) (2 ^ (min (Int.toNat (1)) (IntKind.bits .u64))))) + (1))) (i20) m' h')) ∧ (¬ ((i33 : Int) < (0)) →
 Fin B h32 (fun h' => ∃ m', m' < m22 ∧ J25 (i19) (IntKind.wrap .i64 (Int.fdiv (IntKind.wrap .u64 (IntKind.wrap .i64 ((i19) + (i20)))) (2 ^ (min (Int.toNat (1)) (IntKind.bits .u64))))) m' h')))) ∧ (¬ ((i19 : Int) < (i20)) →
 Fin B h21 (fun h' => S_slices_BinarySearchFunc_s_draft_entry_file_File_draft_entry_file_File_int_J1 B a1 n2 c3 i4 v5 (i19) h' Q))
def S_draft_by_file_File (B : RO) (i1 : Int) (b2 : Bool) (s3 : ByteArray) (i4 : Int) (h : Heap) (Q : Int → Heap → Prop) : Prop :=
 ∀ k6 : Nat, h k6 = none → B k6 = none → ∀ h7 : Heap, h7 = Heap.set h k6 (.vec 162 (plains [(Value.int .i64 (i1)), (Value.bool b2), (Value.string s3)]) 3) →
 ∃ i8 : Int, cellH B h7 ⟨k6, 0, none⟩ = some (Value.int .i64 (i8)) ∧
 ((i8 : Int) < (i4) →
 Fin B h7 (Q ((-1)))) ∧ (¬ ((i8 : Int) < (i4)) →
 ∃ i10 : Int, cellH B h7 ⟨k6, 0, none⟩ = some (Value.int .i64 (i10)) ∧
 ((i10 : Int) > (i4) →
 Fin B h7 (Q (1))) ∧ (¬ ((i10 : Int) > (i4)) →
 Fin B h7 (Q (0))))
def S_countermandref09_At (B : RO) (b1 : Bool) (s2 : ByteArray) (i3 : Int) (h : Heap) (Q : Int → Heap → Prop) : Prop :=
 ∀ k5 : Nat, h k5 = none → B k5 = none → ∀ h6 : Heap, h6 = Heap.set h k5 (.vec 76 (plains [(Value.bool b1), (Value.string s2)]) 2) →
 ∃ (J12 : Int → Nat → Heap → Prop) (m10 : Nat), Fin B h6 (J12 (0) m10) ∧
 ∀ (i7 : Int) (m9 : Nat) (h8 : Heap), J12 i7 m9 h8 →
 ∃ s13 : ByteArray, cellH B h8 ⟨k5, 1, none⟩ = some (Value.string s13) ∧
 ((i7 : Int) < ((ByteArray.size s13 : Nat)) →
 ((i7 : Int) = i3 →
 ∃ s16 : ByteArray, cellH B h8 ⟨k5, 1, none⟩ = some (Value.string s16) ∧
 0 ≤ (i7 : Int) ∧ (i7 : Int) < (ByteArray.size s16 : Nat) ∧
 Fin B h8 (Q (IntKind.wrap .i64 (byteAt s16 (Int.toNat (i7)))))) ∧ (¬ ((i7 : Int) = i3) →
 Fin B h8 (fun h' => ∃ m', m' < m9 ∧ J12 (IntKind.wrap .i64 ((i7) + (1))) m' h'))) ∧ (¬ ((i7 : Int) < ((ByteArray.size s13 : Nat))) →
 Fin B h8 (Q ((-1))))
def S_cell_Row_file_File_All_1 (B : RO) (v1 : Value) (A2 : Addr) (h : Heap) (Q : Heap → Prop) : Prop :=
 ∃ p3 : Option Addr, cellH B h A2 = some (Value.pointer p3) ∧
 (p3 = none →
 Fin B h (Q)) ∧ (¬ (p3 = none) →
 ∃ p5 : Option Addr, cellH B h A2 = some (Value.pointer p5) ∧
 ∃ A6 : Addr, p5 = some A6 ∧
 LdSl B h A6 fun a8 n9 c10 h11 =>
 ∃ (J17 : Int → Nat → Heap → Prop) (m15 : Nat), Fin B h11 (J17 (0) m15) ∧
 ∀ (i12 : Int) (m14 : Nat) (h13 : Heap), J17 i12 m14 h13 →
 ((i12 : Int) < ((n9 : Nat)) →
 ∃ A19 : Addr, a8 = some A19 ∧ 0 ≤ (i12 : Int) ∧ (i12 : Int) < (n9 : Nat) ∧
 ∃ b21 : Bool, ∃ s22 : ByteArray, ∃ i23 : Int, CellsAt B h13 (Addr.add A19 (Int.toNat (i12) * 3)) 0 [(Value.bool b21), (Value.string s22), (Value.int .i64 (i23))] ∧
 ∀ k24 : Nat, h13 k24 = none → B k24 = none → ∀ h25 : Heap, h25 = Heap.set h13 k24 (.vec 170 (plains [(Value.bool false), (Value.string ByteArray.empty), (Value.int .i64 (0))]) 3) →
 ∃ h26 : Heap, StoresAt ⟨k24, 0, none⟩ h25 0 [(Value.bool b21), (Value.string s22), (Value.int .i64 (i23))] h26 ∧
 ∃ b27 : Bool, ∃ s28 : ByteArray, CellsAt B h26 ⟨k24, 0, none⟩ 0 [(Value.bool b27), (Value.string s28)] ∧
 CallV PG B v1 [(Value.int .i64 (i12)), (Value.agg #[(Value.bool b27), (Value.string s28)])] h26 (fun v h29 => ∃ b30 : Bool, v = (Value.bool b30) ∧
 (b30 = true →
 Fin B h29 (fun h' => ∃ m', m' < m14 ∧ J17 (IntKind.wrap .i64 ((i12) + (1))) m' h')) ∧ (b30 = false →
 Fin B h29 (Q)))) ∧ (¬ ((i12 : Int) < ((n9 : Nat))) →
 Fin B h13 (Q)))
def S_slices_rotateRight_draft_entry_file_File (B : RO) (a1 : Option Addr) (n2 : Nat) (c3 : Nat) (i4 : Int) (h : Heap) (Q : Heap → Prop) : Prop :=
 C_slices_rotateLeft_draft_entry_file_File B a1 n2 c3 (IntKind.wrap .i64 (((n2 : Nat)) - (i4))) h (fun h5 =>
 Fin B h5 (Q))
def S_slices_rotateLeft_draft_entry_file_File (B : RO) (a1 : Option Addr) (n2 : Nat) (c3 : Nat) (i4 : Int) (h : Heap) (Q : Heap → Prop) : Prop :=
 0 ≤ (0 : Int) ∧ (0 : Int) ≤ (i4 : Int) ∧ (i4 : Int) ≤ (c3 : Nat) ∧
 C_slices_Reverse_s_draft_entry_file_File_draft_entry_file_File B (if c3 = Int.toNat (0) then a1 else Option.map (·.add (Int.toNat (0) * 3)) a1) (Int.toNat (i4) - Int.toNat (0)) (c3 - Int.toNat (0)) h (fun h5 =>
 0 ≤ (i4 : Int) ∧ (i4 : Int) ≤ ((n2 : Nat) : Int) ∧ ((n2 : Nat) : Int) ≤ (c3 : Nat) ∧
 C_slices_Reverse_s_draft_entry_file_File_draft_entry_file_File B (if c3 = Int.toNat (i4) then a1 else Option.map (·.add (Int.toNat (i4) * 3)) a1) (Int.toNat ((n2 : Nat)) - Int.toNat (i4)) (c3 - Int.toNat (i4)) h5 (fun h6 =>
 C_slices_Reverse_s_draft_entry_file_File_draft_entry_file_File B a1 n2 c3 h6 (fun h7 =>
 Fin B h7 (Q))))
def S_slices_Reverse_s_draft_entry_file_File_draft_entry_file_File (B : RO) (a1 : Option Addr) (n2 : Nat) (c3 : Nat) (h : Heap) (Q : Heap → Prop) : Prop :=
 ∃ (J10 : Int → Int → Nat → Heap → Prop) (m8 : Nat), Fin B h (J10 (0) (IntKind.wrap .i64 (((n2 : Nat)) - (1))) m8) ∧
 ∀ (i4 : Int) (i5 : Int) (m7 : Nat) (h6 : Heap), J10 i4 i5 m7 h6 →
 ((i4 : Int) < (i5) →
 ∃ A18 : Addr, a1 = some A18 ∧ 0 ≤ (i5 : Int) ∧ (i5 : Int) < (n2 : Nat) ∧
 ∃ i23 : Int, ∃ b24 : Bool, ∃ s25 : ByteArray, CellsAt B h6 (Addr.add A18 (Int.toNat (i5) * 3)) 0 [(Value.int .i64 (i23)), (Value.bool b24), (Value.string s25)] ∧
 ∃ A29 : Addr, a1 = some A29 ∧ 0 ≤ (i4 : Int) ∧ (i4 : Int) < (n2 : Nat) ∧
 ∃ i34 : Int, ∃ b35 : Bool, ∃ s36 : ByteArray, CellsAt B h6 (Addr.add A29 (Int.toNat (i4) * 3)) 0 [(Value.int .i64 (i34)), (Value.bool b35), (Value.string s36)] ∧
 ∃ A38 : Addr, a1 = some A38 ∧ 0 ≤ (i4 : Int) ∧ (i4 : Int) < (n2 : Nat) ∧
 ∃ h43 : Heap, StoresAt (Addr.add A38 (Int.toNat (i4) * 3)) h6 0 [(Value.int .i64 (i23)), (Value.bool b24), (Value.string s25)] h43 ∧
 CellsAt B h43 (Addr.add A18 (Int.toNat (i5) * 3)) 0 [(Value.int .i64 (i23)), (Value.bool b24), (Value.string s25)] ∧ CellsAt B h43 (Addr.add A29 (Int.toNat (i4) * 3)) 0 [(Value.int .i64 (i34)), (Value.bool b35), (Value.string s36)] ∧
 ∃ A46 : Addr, a1 = some A46 ∧ 0 ≤ (i5 : Int) ∧ (i5 : Int) < (n2 : Nat) ∧
 ∃ h48 : Heap, StoresAt (Addr.add A46 (Int.toNat (i5) * 3)) h43 0 [(Value.int .i64 (i34)), (Value.bool b35), (Value.string s36)] h48 ∧
 Fin B h48 (fun h' => ∃ m', m' < m7 ∧ J10 (IntKind.wrap .i64 ((i4) + (1))) (IntKind.wrap .i64 ((i5) - (1))) m' h')) ∧ (¬ ((i4 : Int) < (i5)) →
 Fin B h6 (Q))
end Go.Proofs.Ytcncdfmnpmmikaa.H
