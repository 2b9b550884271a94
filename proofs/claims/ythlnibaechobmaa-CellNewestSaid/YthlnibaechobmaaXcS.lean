/- What each function asks. No condition. -/
import Derived.Test.YthlnibaechobmaaXcF
namespace Go.Proofs.Ythlnibaechobmaa.H
open Go
set_option linter.unusedVariables false
set_option maxRecDepth 100000

def S_countermandlaw08_CellNewest_J3 (B : RO) (a2 : Option Addr) (n3 : Nat) (c4 : Nat) (p11 : Option Addr) (k12 : Nat) (i14 : Int) (m16 : Nat) (J19 : Int → Nat → Heap → Prop) (i32 : Int) (h33 : Heap) (Q : Bool → Heap → Prop) : Prop :=
 C_cell_Row_int_Newest B p11 h33 (fun i35 h34 =>
 ((i35 : Int) = i32 →
 Fin B h34 (fun h' => ∃ m', m' < m16 ∧ J19 (IntKind.wrap .i64 ((i14) + (1))) m' h')) ∧ (¬ ((i35 : Int) = i32) →
 Fin B h34 (Q (false))))
def S_countermandlaw08_CellNewest_J2 (B : RO) (a2 : Option Addr) (n3 : Nat) (c4 : Nat) (p11 : Option Addr) (k12 : Nat) (i14 : Int) (m16 : Nat) (J19 : Int → Nat → Heap → Prop) (h30 : Heap) (Q : Bool → Heap → Prop) : Prop :=
 ∃ l37 : List Value, List.length l37 = 64 ∧ CellsAt B h30 ⟨k12, 0, none⟩ 0 l37 ∧
 ∃ (J44 : Int → Int → Nat → Heap → Prop) (m42 : Nat), Fin B h30 (J44 (0) (0) m42) ∧
 ∀ (i38 : Int) (i39 : Int) (m41 : Nat) (h40 : Heap), J44 i38 i39 m41 h40 →
 ((i39 : Int) < (64) →
 0 ≤ (i39 : Int) ∧ (i39 : Int) < (64 : Nat) ∧ ∃ i46 : Int, ((List.toArray l37) : Array Value)[Int.toNat (i39) * 1]? = some (Value.int .i64 (i46)) ∧
 Fin B h40 (fun h' => ∃ m', m' < m41 ∧ J44 (if (i46 : Int) > (i38) then (i46 : Int) else (i38)) (IntKind.wrap .i64 ((i39) + (1))) m' h')) ∧ (¬ ((i39 : Int) < (64)) →
 Fin B h40 (fun h' => S_countermandlaw08_CellNewest_J3 B a2 n3 c4 p11 k12 i14 m16 J19 (i38) h' Q))
def S_countermandlaw08_CellNewest_J4 (B : RO) (a2 : Option Addr) (n3 : Nat) (c4 : Nat) (p11 : Option Addr) (k12 : Nat) (i14 : Int) (m16 : Nat) (J19 : Int → Nat → Heap → Prop) (k26 : Nat) (b53 : Bool) (h54 : Heap) (Q : Bool → Heap → Prop) : Prop :=
 (b53 = true →
 Fin B h54 (Q (false))) ∧ (b53 = false →
 ∃ i55 : Int, cellH B h54 ⟨k26, 0, none⟩ = some (Value.int .i64 (i55)) ∧
 ∃ i56 : Int, cellH B h54 ⟨k26, 2, none⟩ = some (Value.int .i64 (i56)) ∧
 0 ≤ (i55 : Int) ∧ (i55 : Int) < (64 : Nat) ∧
 ∃ h57 : Heap, storeH h54 (Addr.add ⟨k12, 0, none⟩ (Int.toNat (i55) * 1)) (Value.int .i64 (i56)) = some h57 ∧
 Fin B h57 (fun h' => S_countermandlaw08_CellNewest_J2 B a2 n3 c4 p11 k12 i14 m16 J19 h' Q))
def S_countermandlaw08_CellNewest_J1 (B : RO) (i1 : Int) (a2 : Option Addr) (n3 : Nat) (c4 : Nat) (h9 : Heap) (Q : Bool → Heap → Prop) : Prop :=
 C_cell_New_int B (i1) (0) h9 (fun p11 h10 =>
 ∀ k12 : Nat, h10 k12 = none → B k12 = none → ∀ h13 : Heap, h13 = Heap.set h10 k12 (.vec 38 (plains (List.replicate 64 (Value.int .i64 (0)))) 64) →
 ∃ (J19 : Int → Nat → Heap → Prop) (m17 : Nat), Fin B h13 (J19 (0) m17) ∧
 ∀ (i14 : Int) (m16 : Nat) (h15 : Heap), J19 i14 m16 h15 →
 ((i14 : Int) < ((n3 : Nat)) →
 ∃ A21 : Addr, a2 = some A21 ∧ 0 ≤ (i14 : Int) ∧ (i14 : Int) < (n3 : Nat) ∧
 ∃ i23 : Int, ∃ i24 : Int, ∃ i25 : Int, CellsAt B h15 (Addr.add A21 (Int.toNat (i14) * 3)) 0 [(Value.int .i64 (i23)), (Value.int .i64 (i24)), (Value.int .i64 (i25))] ∧
 ∀ k26 : Nat, h15 k26 = none → B k26 = none → ∀ h27 : Heap, h27 = Heap.set h15 k26 (.vec 40 (plains [(Value.int .i64 (0)), (Value.int .i64 (0)), (Value.int .i64 (0))]) 3) →
 ∃ h28 : Heap, StoresAt ⟨k26, 0, none⟩ h27 0 [(Value.int .i64 (i23)), (Value.int .i64 (i24)), (Value.int .i64 (i25))] h28 ∧
 ∃ i47 : Int, cellH B h28 ⟨k26, 0, none⟩ = some (Value.int .i64 (i47)) ∧
 ∃ i48 : Int, cellH B h28 ⟨k26, 1, none⟩ = some (Value.int .i64 (i48)) ∧
 ∃ i49 : Int, cellH B h28 ⟨k26, 2, none⟩ = some (Value.int .i64 (i49)) ∧
 C_cell_Row_int_Set B p11 (i47) (i48) (i49) h28 (fun b51 h50 =>
 (b51 = true →
 ∃ i58 : Int, cellH B h50 ⟨k26, 0, none⟩ = some (Value.int .i64 (i58)) ∧
 ((i58 : Int) < (0) →
 Fin B h50 (fun h' => S_countermandlaw08_CellNewest_J4 B a2 n3 c4 p11 k12 i14 m16 J19 k26 (true) h' Q)) ∧ (¬ ((i58 : Int) < (0)) →
 ∃ i60 : Int, cellH B h50 ⟨k26, 0, none⟩ = some (Value.int .i64 (i60)) ∧
 ((i60 : Int) > (63) →
 Fin B h50 (fun h' => S_countermandlaw08_CellNewest_J4 B a2 n3 c4 p11 k12 i14 m16 J19 k26 (true) h' Q)) ∧ (¬ ((i60 : Int) > (63)) →
 Fin B h50 (fun h' => S_countermandlaw08_CellNewest_J4 B a2 n3 c4 p11 k12 i14 m16 J19 k26 (false) h' Q)))) ∧ (b51 = false →
 Fin B h50 (fun h' => S_countermandlaw08_CellNewest_J2 B a2 n3 c4 p11 k12 i14 m16 J19 h' Q)))) ∧ (¬ ((i14 : Int) < ((n3 : Nat))) →
 Fin B h15 (Q (true))))
def S_countermandlaw08_CellNewest (B : RO) (i1 : Int) (a2 : Option Addr) (n3 : Nat) (c4 : Nat) (h : Heap) (Q : Bool → Heap → Prop) : Prop :=
 C_countermandlaw08_alive B h (fun b7 h6 =>
 (b7 = true →
 ((i1 : Int) > (64) →
 Fin B h6 (Q (true))) ∧ (¬ ((i1 : Int) > (64)) →
 (((n3 : Nat) : Int) > (100) →
 Fin B h6 (Q (true))) ∧ (¬ (((n3 : Nat) : Int) > (100)) →
 Fin B h6 (fun h' => S_countermandlaw08_CellNewest_J1 B i1 a2 n3 c4 h' Q)))) ∧ (b7 = false →
 Fin B h6 (Q (false))))
def S_countermandlaw08_CellApart_J3 (B : RO) (i1 : Int) (k12 : Nat) (k14 : Nat) (k39 : Nat) (h43 : Heap) (Q : Bool → Heap → Prop) : Prop :=
 ∃ i44 : Int, cellH B h43 ⟨k39, 0, none⟩ = some (Value.int .i64 (i44)) ∧
 ∃ i45 : Int, cellH B h43 ⟨k12, 0, none⟩ = some (Value.int .i64 (i45)) ∧
 ((i44 : Int) = i45 →
 ∃ h47 : Heap, storeH h43 ⟨k14, 0, none⟩ (Value.bool true) = some h47 ∧
 ∃ b48 : Bool, cellH B h47 ⟨k14, 0, none⟩ = some (Value.bool b48) ∧ Fin B h47 (Q (b48))) ∧ (¬ ((i44 : Int) = i45) →
 ∃ i49 : Int, cellH B h43 ⟨k39, 0, none⟩ = some (Value.int .i64 (i49)) ∧
 ∃ h50 : Heap, storeH h43 ⟨k14, 0, none⟩ (Value.bool ((i49 : Int) == (if (0 : Int) > (i1) then (0 : Int) else (i1)))) = some h50 ∧
 ∃ b51 : Bool, cellH B h50 ⟨k14, 0, none⟩ = some (Value.bool b51) ∧ Fin B h50 (Q (b51)))
def S_countermandlaw08_CellApart_J4 (B : RO) (i1 : Int) (k12 : Nat) (k14 : Nat) (k39 : Nat) (q59 : Nat) (J60 : Nat → Heap → Prop) (b67 : Bool) (h68 : Heap) (Q : Bool → Heap → Prop) : Prop :=
 (b67 = true →
 ∃ h74 : Heap, storeH h68 ⟨k14, 0, none⟩ (Value.bool false) = some h74 ∧
 ∃ b75 : Bool, cellH B h74 ⟨k14, 0, none⟩ = some (Value.bool b75) ∧ Fin B h74 (Q (b75))) ∧ (b67 = false →
 ∃ i69 : Int, cellH B h68 ⟨k39, 0, none⟩ = some (Value.int .i64 (i69)) ∧
 ∃ h70 : Heap, storeH h68 ⟨k39, 0, none⟩ (Value.int .i64 (IntKind.wrap .i64 ((i69) + (1)))) = some h70 ∧
 ∃ i71 : Int, cellH B h70 ⟨k39, 0, none⟩ = some (Value.int .i64 (i71)) ∧
 ∃ i72 : Int, cellH B h70 ⟨k12, 0, none⟩ = some (Value.int .i64 (i72)) ∧
 ((i71 : Int) = i72 →
 Fin B h70 (fun h' => S_countermandlaw08_CellApart_J3 B i1 k12 k14 k39 h' Q)) ∧ (¬ ((i71 : Int) = i72) →
 Fin B h70 (J60 (q59 + 1))))
def S_countermandlaw08_CellApart_J2 (B : RO) (i1 : Int) (k10 : Nat) (k12 : Nat) (k14 : Nat) (k26 : Nat) (k28 : Nat) (h33 : Heap) (Q : Bool → Heap → Prop) : Prop :=
 ∃ p34 : Option Addr, cellH B h33 ⟨k28, 0, none⟩ = some (Value.pointer p34) ∧
 ∃ i35 : Int, cellH B h33 ⟨k10, 0, none⟩ = some (Value.int .i64 (i35)) ∧
 ∃ i36 : Int, cellH B h33 ⟨k10, 2, none⟩ = some (Value.int .i64 (i36)) ∧
 C_cell_Row_string_Set B p34 (i35) (ByteArray.mk #[111, 116, 104, 101, 114]) (i36) h33 (fun b38 h37 =>
 ∀ k39 : Nat, h37 k39 = none → B k39 = none → ∀ h40 : Heap, h40 = Heap.set h37 k39 (.vec 3 (plains [(Value.int .i64 (0))]) 1) →
 ∃ h41 : Heap, storeH h40 ⟨k39, 0, none⟩ (Value.int .i64 (0)) = some h41 ∧
 ∃ p52 : Option Addr, cellH B h41 ⟨k28, 0, none⟩ = some (Value.pointer p52) ∧
 C_cell_Row_string_All B p52 h41 (fun v54 h53 =>
 ∃ (xs61 : List (Int × ByteArray)) (G57 : Heap → Prop) (J60 : Nat → Heap → Prop), Iter PG B v54 (xs61.map (fun x : Int × ByteArray => [(Value.int .i64 (x.1)), (Value.string x.2)])) G57 ∧ Ins G57 ∧ (∀ i h, J60 i h → G57 h) ∧ Fin B h53 (J60 0) ∧
 (∀ (q59 : Nat) (h58 : Heap) (i55 : Int) (s56 : ByteArray), xs61[q59]? = some (i55, s56) → J60 q59 h58 →
 ∃ p62 : Option Addr, cellH B h58 ⟨k26, 0, none⟩ = some (Value.pointer p62) ∧
 C_cell_Row_string_Get B p62 (i55) h58 (fun s64 i65 h63 =>
 ∃ i78 : Int, cellH B h63 ⟨k10, 0, none⟩ = some (Value.int .i64 (i78)) ∧
 ((i55 : Int) = i78 →
 (s56 = (ByteArray.mk #[111, 116, 104, 101, 114]) →
 ∃ p87 : Option Addr, cellH B h63 ⟨k28, 0, none⟩ = some (Value.pointer p87) ∧
 ∃ i91 : Int, cellH B h63 ⟨k10, 2, none⟩ = some (Value.int .i64 (i91)) ∧
 C_cell_Row_string_Version B p87 (i55) h63 (fun i94 h93 =>
 cellH B h93 ⟨k10, 0, none⟩ = some (Value.int .i64 (i78)) ∧ cellH B h93 ⟨k28, 0, none⟩ = some (Value.pointer p87) ∧ cellH B h93 ⟨k10, 2, none⟩ = some (Value.int .i64 (i91)) ∧
 ((i94 : Int) = i91 →
 ∃ i99 : Int, cellH B h93 ⟨k10, 0, none⟩ = some (Value.int .i64 (i99)) ∧
 ((i55 : Int) = i99 →
 Fin B h93 (fun h' => S_countermandlaw08_CellApart_J4 B i1 k12 k14 k39 q59 J60 (false) h' Q)) ∧ (¬ ((i55 : Int) = i99) →
 (s56 = s64 →
 ∃ p102 : Option Addr, cellH B h93 ⟨k28, 0, none⟩ = some (Value.pointer p102) ∧
 C_cell_Row_string_Version B p102 (i55) h93 (fun i104 h103 =>
 cellH B h103 ⟨k10, 0, none⟩ = some (Value.int .i64 (i78)) ∧ cellH B h103 ⟨k28, 0, none⟩ = some (Value.pointer p87) ∧ cellH B h103 ⟨k10, 2, none⟩ = some (Value.int .i64 (i91)) ∧
 ((i104 : Int) = i65 →
 Fin B h103 (fun h' => S_countermandlaw08_CellApart_J4 B i1 k12 k14 k39 q59 J60 (false) h' Q)) ∧ (¬ ((i104 : Int) = i65) →
 Fin B h103 (fun h' => S_countermandlaw08_CellApart_J4 B i1 k12 k14 k39 q59 J60 (true) h' Q)))) ∧ (¬ (s56 = s64) →
 Fin B h93 (fun h' => S_countermandlaw08_CellApart_J4 B i1 k12 k14 k39 q59 J60 (true) h' Q)))) ∧ (¬ ((i94 : Int) = i91) →
 Fin B h93 (fun h' => S_countermandlaw08_CellApart_J4 B i1 k12 k14 k39 q59 J60 (true) h' Q)))) ∧ (¬ (s56 = (ByteArray.mk #[111, 116, 104, 101, 114])) →
 Fin B h63 (fun h' => S_countermandlaw08_CellApart_J4 B i1 k12 k14 k39 q59 J60 (true) h' Q))) ∧ (¬ ((i55 : Int) = i78) →
 ∃ i113 : Int, cellH B h63 ⟨k10, 0, none⟩ = some (Value.int .i64 (i113)) ∧
 ((i55 : Int) = i113 →
 Fin B h63 (fun h' => S_countermandlaw08_CellApart_J4 B i1 k12 k14 k39 q59 J60 (false) h' Q)) ∧ (¬ ((i55 : Int) = i113) →
 (s56 = s64 →
 ∃ p116 : Option Addr, cellH B h63 ⟨k28, 0, none⟩ = some (Value.pointer p116) ∧
 C_cell_Row_string_Version B p116 (i55) h63 (fun i118 h117 =>
 cellH B h117 ⟨k10, 0, none⟩ = some (Value.int .i64 (i78)) ∧
 ((i118 : Int) = i65 →
 Fin B h117 (fun h' => S_countermandlaw08_CellApart_J4 B i1 k12 k14 k39 q59 J60 (false) h' Q)) ∧ (¬ ((i118 : Int) = i65) →
 Fin B h117 (fun h' => S_countermandlaw08_CellApart_J4 B i1 k12 k14 k39 q59 J60 (true) h' Q)))) ∧ (¬ (s56 = s64) →
 Fin B h63 (fun h' => S_countermandlaw08_CellApart_J4 B i1 k12 k14 k39 q59 J60 (true) h' Q)))))) ∧
 (∀ (h58 : Heap), J60 xs61.length h58 →
 Fin B h58 (fun h' => S_countermandlaw08_CellApart_J3 B i1 k12 k14 k39 h' Q))))
def S_countermandlaw08_CellApart_J1 (B : RO) (i1 : Int) (a2 : Option Addr) (n3 : Nat) (c4 : Nat) (k10 : Nat) (k12 : Nat) (k14 : Nat) (h21 : Heap) (Q : Bool → Heap → Prop) : Prop :=
 C_cell_New_string B (i1) (ByteArray.mk #[120]) h21 (fun p23 h22 =>
 C_cell_New_string B (i1) (ByteArray.mk #[120]) h22 (fun p25 h24 =>
 ∀ k26 : Nat, h24 k26 = none → B k26 = none → ∀ h27 : Heap, h27 = Heap.set h24 k26 (.vec 44 (plains [(Value.pointer none)]) 1) →
 ∀ k28 : Nat, h27 k28 = none → B k28 = none → ∀ h29 : Heap, h29 = Heap.set h27 k28 (.vec 44 (plains [(Value.pointer none)]) 1) →
 ∃ h30 : Heap, storeH h29 ⟨k26, 0, none⟩ (Value.pointer p23) = some h30 ∧
 ∃ h31 : Heap, storeH h30 ⟨k28, 0, none⟩ (Value.pointer p25) = some h31 ∧
 ∃ (J126 : Int → Nat → Heap → Prop) (m124 : Nat), Fin B h31 (J126 (0) m124) ∧
 ∀ (i121 : Int) (m123 : Nat) (h122 : Heap), J126 i121 m123 h122 →
 ((i121 : Int) < ((n3 : Nat)) →
 ∃ A128 : Addr, a2 = some A128 ∧ 0 ≤ (i121 : Int) ∧ (i121 : Int) < (n3 : Nat) ∧
 ∃ i130 : Int, ∃ i131 : Int, ∃ i132 : Int, CellsAt B h122 (Addr.add A128 (Int.toNat (i121) * 3)) 0 [(Value.int .i64 (i130)), (Value.int .i64 (i131)), (Value.int .i64 (i132))] ∧
 ∀ k133 : Nat, h122 k133 = none → B k133 = none → ∀ h134 : Heap, h134 = Heap.set h122 k133 (.vec 40 (plains [(Value.int .i64 (0)), (Value.int .i64 (0)), (Value.int .i64 (0))]) 3) →
 ∃ h135 : Heap, StoresAt ⟨k133, 0, none⟩ h134 0 [(Value.int .i64 (i130)), (Value.int .i64 (i131)), (Value.int .i64 (i132))] h135 ∧
 ∃ p136 : Option Addr, cellH B h135 ⟨k26, 0, none⟩ = some (Value.pointer p136) ∧
 ∃ i137 : Int, cellH B h135 ⟨k133, 0, none⟩ = some (Value.int .i64 (i137)) ∧
 ∃ i138 : Int, cellH B h135 ⟨k133, 1, none⟩ = some (Value.int .i64 (i138)) ∧
 ∃ i139 : Int, cellH B h135 ⟨k133, 2, none⟩ = some (Value.int .i64 (i139)) ∧
 C_cell_Row_string_Set B p136 (i137) (Utf8.encode (IntKind.wrap .i32 (IntKind.wrap .i64 ((97) + (IntKind.wrap .i64 ((BitVec.ofInt (IntKind.bits .i64) (i138) &&& BitVec.ofInt (IntKind.bits .i64) (15)).toNat : Int)))))) (i139) h135 (fun b141 h140 =>
 ∃ p142 : Option Addr, cellH B h140 ⟨k28, 0, none⟩ = some (Value.pointer p142) ∧
 ∃ i143 : Int, cellH B h140 ⟨k133, 0, none⟩ = some (Value.int .i64 (i143)) ∧
 ∃ i144 : Int, cellH B h140 ⟨k133, 1, none⟩ = some (Value.int .i64 (i144)) ∧
 ∃ i145 : Int, cellH B h140 ⟨k133, 2, none⟩ = some (Value.int .i64 (i145)) ∧
 C_cell_Row_string_Set B p142 (i143) (Utf8.encode (IntKind.wrap .i32 (IntKind.wrap .i64 ((97) + (IntKind.wrap .i64 ((BitVec.ofInt (IntKind.bits .i64) (i144) &&& BitVec.ofInt (IntKind.bits .i64) (15)).toNat : Int)))))) (i145) h140 (fun b147 h146 =>
 Fin B h146 (fun h' => ∃ m', m' < m123 ∧ J126 (IntKind.wrap .i64 ((i121) + (1))) m' h')))) ∧ (¬ ((i121 : Int) < ((n3 : Nat))) →
 Fin B h122 (fun h' => S_countermandlaw08_CellApart_J2 B i1 k10 k12 k14 k26 k28 h' Q))))
def S_countermandlaw08_CellApart (B : RO) (i1 : Int) (a2 : Option Addr) (n3 : Nat) (c4 : Nat) (i5 : Int) (i6 : Int) (i7 : Int) (i8 : Int) (h : Heap) (Q : Bool → Heap → Prop) : Prop :=
 ∀ k10 : Nat, h k10 = none → B k10 = none → ∀ h11 : Heap, h11 = Heap.set h k10 (.vec 40 (plains [(Value.int .i64 (i5)), (Value.int .i64 (i6)), (Value.int .i64 (i7))]) 3) →
 ∀ k12 : Nat, h11 k12 = none → B k12 = none → ∀ h13 : Heap, h13 = Heap.set h11 k12 (.vec 3 [.plain (Value.int .i64 (i8))] 1) →
 ∀ k14 : Nat, h13 k14 = none → B k14 = none → ∀ h15 : Heap, h15 = Heap.set h13 k14 (.vec 4 (plains [(Value.bool false)]) 1) →
 C_countermandlaw08_alive B h15 (fun b17 h16 =>
 (b17 = true →
 ((i1 : Int) > (64) →
 ∃ h149 : Heap, storeH h16 ⟨k14, 0, none⟩ (Value.bool true) = some h149 ∧
 ∃ b150 : Bool, cellH B h149 ⟨k14, 0, none⟩ = some (Value.bool b150) ∧ Fin B h149 (Q (b150))) ∧ (¬ ((i1 : Int) > (64)) →
 (((n3 : Nat) : Int) > (100) →
 ∃ h152 : Heap, storeH h16 ⟨k14, 0, none⟩ (Value.bool true) = some h152 ∧
 ∃ b153 : Bool, cellH B h152 ⟨k14, 0, none⟩ = some (Value.bool b153) ∧ Fin B h152 (Q (b153))) ∧ (¬ (((n3 : Nat) : Int) > (100)) →
 Fin B h16 (fun h' => S_countermandlaw08_CellApart_J1 B i1 a2 n3 c4 k10 k12 k14 h' Q)))) ∧ (b17 = false →
 ∃ h18 : Heap, storeH h16 ⟨k14, 0, none⟩ (Value.bool false) = some h18 ∧
 ∃ b19 : Bool, cellH B h18 ⟨k14, 0, none⟩ = some (Value.bool b19) ∧ Fin B h18 (Q (b19))))
def S_countermandlaw08_CellSets_J5 (B : RO) (k8 : Nat) (k20 : Nat) (k22 : Nat) (k38 : Nat) (k40 : Nat) (i47 : Int) (i48 : Int) (h50 : Heap) (Q : Bool → Heap → Prop) : Prop :=
 ∃ i51 : Int, cellH B h50 ⟨k38, 0, none⟩ = some (Value.int .i64 (i51)) ∧
 ∃ p53 : Option Addr, cellH B h50 ⟨k22, 0, none⟩ = some (Value.pointer p53) ∧
 ∃ A55 : Addr, p53 = some A55 ∧
 ∃ i59 : Int, cellH B h50 A55 = some (Value.int .i64 (i59)) ∧
 ((i51 : Int) = i59 →
 ∃ p64 : Option Addr, cellH B h50 ⟨k20, 0, none⟩ = some (Value.pointer p64) ∧
 ∃ i66 : Int, cellH B h50 ⟨k40, 0, none⟩ = some (Value.int .i64 (i66)) ∧
 C_cell_Row_int_Newest B p64 h50 (fun i69 h68 =>
 cellH B h68 ⟨k38, 0, none⟩ = some (Value.int .i64 (i51)) ∧ cellH B h68 ⟨k22, 0, none⟩ = some (Value.pointer p53) ∧ cellH B h68 A55 = some (Value.int .i64 (i59)) ∧ cellH B h68 ⟨k20, 0, none⟩ = some (Value.pointer p64) ∧ cellH B h68 ⟨k40, 0, none⟩ = some (Value.int .i64 (i66)) ∧
 ((i69 : Int) = i66 →
 C_cell_Row_int_Version B none (0) h68 (fun i77 h76 =>
 cellH B h76 ⟨k38, 0, none⟩ = some (Value.int .i64 (i51)) ∧ cellH B h76 ⟨k22, 0, none⟩ = some (Value.pointer p53) ∧ cellH B h76 A55 = some (Value.int .i64 (i59)) ∧ cellH B h76 ⟨k20, 0, none⟩ = some (Value.pointer p64) ∧ cellH B h76 ⟨k40, 0, none⟩ = some (Value.int .i64 (i66)) ∧
 C_cell_Row_int_Len B none h76 (fun i84 h83 =>
 cellH B h83 ⟨k38, 0, none⟩ = some (Value.int .i64 (i51)) ∧ cellH B h83 ⟨k22, 0, none⟩ = some (Value.pointer p53) ∧ cellH B h83 A55 = some (Value.int .i64 (i59)) ∧ cellH B h83 ⟨k20, 0, none⟩ = some (Value.pointer p64) ∧ cellH B h83 ⟨k40, 0, none⟩ = some (Value.int .i64 (i66)) ∧
 C_cell_Row_int_Newest B none h83 (fun i91 h90 =>
 cellH B h90 ⟨k38, 0, none⟩ = some (Value.int .i64 (i51)) ∧ cellH B h90 ⟨k22, 0, none⟩ = some (Value.pointer p53) ∧ cellH B h90 A55 = some (Value.int .i64 (i59)) ∧ cellH B h90 ⟨k20, 0, none⟩ = some (Value.pointer p64) ∧ cellH B h90 ⟨k40, 0, none⟩ = some (Value.int .i64 (i66)) ∧
 ((IntKind.wrap .i64 ((IntKind.wrap .i64 ((IntKind.wrap .i64 ((IntKind.wrap .i64 ((i47) + (i48))) + (i77))) + (i84))) + (i91)) : Int) = 0 →
 C_cell_Row_int_Set B none (0) (1) (1) h90 (fun b99 h98 =>
 cellH B h98 ⟨k38, 0, none⟩ = some (Value.int .i64 (i51)) ∧ cellH B h98 ⟨k22, 0, none⟩ = some (Value.pointer p53) ∧ cellH B h98 A55 = some (Value.int .i64 (i59)) ∧ cellH B h98 ⟨k20, 0, none⟩ = some (Value.pointer p64) ∧ cellH B h98 ⟨k40, 0, none⟩ = some (Value.int .i64 (i66)) ∧
 ∃ h105 : Heap, storeH h98 ⟨k8, 0, none⟩ (Value.bool (!b99)) = some h105 ∧
 ∃ b106 : Bool, cellH B h105 ⟨k8, 0, none⟩ = some (Value.bool b106) ∧ Fin B h105 (Q (b106)))) ∧ (¬ ((IntKind.wrap .i64 ((IntKind.wrap .i64 ((IntKind.wrap .i64 ((IntKind.wrap .i64 ((i47) + (i48))) + (i77))) + (i84))) + (i91)) : Int) = 0) →
 ∃ h107 : Heap, storeH h90 ⟨k8, 0, none⟩ (Value.bool false) = some h107 ∧
 ∃ b108 : Bool, cellH B h107 ⟨k8, 0, none⟩ = some (Value.bool b108) ∧ Fin B h107 (Q (b108))))))) ∧ (¬ ((i69 : Int) = i66) →
 ∃ h109 : Heap, storeH h68 ⟨k8, 0, none⟩ (Value.bool false) = some h109 ∧
 ∃ b110 : Bool, cellH B h109 ⟨k8, 0, none⟩ = some (Value.bool b110) ∧ Fin B h109 (Q (b110))))) ∧ (¬ ((i51 : Int) = i59) →
 ∃ h113 : Heap, storeH h50 ⟨k8, 0, none⟩ (Value.bool false) = some h113 ∧
 ∃ b114 : Bool, cellH B h113 ⟨k8, 0, none⟩ = some (Value.bool b114) ∧ Fin B h113 (Q (b114)))
def S_countermandlaw08_CellSets_J4 (B : RO) (k8 : Nat) (k20 : Nat) (k22 : Nat) (k38 : Nat) (k40 : Nat) (h45 : Heap) (Q : Bool → Heap → Prop) : Prop :=
 C_cell_Row_int_Get B none (0) h45 (fun i47 i48 h46 =>
 C_cell_Row_int_All B none h46 (fun v116 h115 =>
 ∃ (xs123 : List (Int × Int)) (G119 : Heap → Prop) (J122 : Nat → Heap → Prop), Iter PG B v116 (xs123.map (fun x : Int × Int => [(Value.int .i64 (x.1)), (Value.int .i64 (x.2))])) G119 ∧ Ins G119 ∧ (∀ i h, J122 i h → G119 h) ∧ Fin B h115 (J122 0) ∧
 (∀ (q121 : Nat) (h120 : Heap) (i117 : Int) (i118 : Int), xs123[q121]? = some (i117, i118) → J122 q121 h120 →
 ∃ h124 : Heap, storeH h120 ⟨k8, 0, none⟩ (Value.bool false) = some h124 ∧
 ∃ b125 : Bool, cellH B h124 ⟨k8, 0, none⟩ = some (Value.bool b125) ∧ Fin B h124 (Q (b125))) ∧
 (∀ (h120 : Heap), J122 xs123.length h120 →
 Fin B h120 (fun h' => S_countermandlaw08_CellSets_J5 B k8 k20 k22 k38 k40 i47 i48 h' Q))))
def S_countermandlaw08_CellSets_J6 (B : RO) (k38 : Nat) (k40 : Nat) (q133 : Nat) (J134 : Nat → Heap → Prop) (i140 : Int) (h142 : Heap) (Q : Bool → Heap → Prop) : Prop :=
 ∃ i143 : Int, cellH B h142 ⟨k40, 0, none⟩ = some (Value.int .i64 (i143)) ∧
 ∃ h144 : Heap, storeH h142 ⟨k40, 0, none⟩ (Value.int .i64 (if (i140 : Int) > (i143) then (i140 : Int) else (i143))) = some h144 ∧
 ∃ i145 : Int, cellH B h144 ⟨k38, 0, none⟩ = some (Value.int .i64 (i145)) ∧
 ∃ h146 : Heap, storeH h144 ⟨k38, 0, none⟩ (Value.int .i64 (IntKind.wrap .i64 ((i145) + (1)))) = some h146 ∧
 Fin B h146 (J134 (q133 + 1))
def S_countermandlaw08_CellSets_J3 (B : RO) (k8 : Nat) (k20 : Nat) (k22 : Nat) (h37 : Heap) (Q : Bool → Heap → Prop) : Prop :=
 ∀ k38 : Nat, h37 k38 = none → B k38 = none → ∀ h39 : Heap, h39 = Heap.set h37 k38 (.vec 3 (plains [(Value.int .i64 (0))]) 1) →
 ∀ k40 : Nat, h39 k40 = none → B k40 = none → ∀ h41 : Heap, h41 = Heap.set h39 k40 (.vec 3 (plains [(Value.int .i64 (0))]) 1) →
 ∃ h42 : Heap, storeH h41 ⟨k38, 0, none⟩ (Value.int .i64 (0)) = some h42 ∧
 ∃ h43 : Heap, storeH h42 ⟨k40, 0, none⟩ (Value.int .i64 (0)) = some h43 ∧
 ∃ p126 : Option Addr, cellH B h43 ⟨k20, 0, none⟩ = some (Value.pointer p126) ∧
 C_cell_Row_int_All B p126 h43 (fun v128 h127 =>
 ∃ (xs135 : List (Int × Int)) (G131 : Heap → Prop) (J134 : Nat → Heap → Prop), Iter PG B v128 (xs135.map (fun x : Int × Int => [(Value.int .i64 (x.1)), (Value.int .i64 (x.2))])) G131 ∧ Ins G131 ∧ (∀ i h, J134 i h → G131 h) ∧ Fin B h127 (J134 0) ∧
 (∀ (q133 : Nat) (h132 : Heap) (i129 : Int) (i130 : Int), xs135[q133]? = some (i129, i130) → J134 q133 h132 →
 ∃ p136 : Option Addr, cellH B h132 ⟨k22, 0, none⟩ = some (Value.pointer p136) ∧
 ∃ i137 : Int, cellH B h132 ⟨k38, 0, none⟩ = some (Value.int .i64 (i137)) ∧
 C_countermandref08_Row_Get B p136 (i137) h132 (fun i139 i140 h138 =>
 ∃ i147 : Int, cellH B h138 ⟨k38, 0, none⟩ = some (Value.int .i64 (i147)) ∧
 ((i129 : Int) = i147 →
 ((i130 : Int) = i139 →
 ∃ p150 : Option Addr, cellH B h138 ⟨k20, 0, none⟩ = some (Value.pointer p150) ∧
 C_cell_Row_int_Version B p150 (i129) h138 (fun i152 h151 =>
 ((i152 : Int) = i140 →
 Fin B h151 (fun h' => S_countermandlaw08_CellSets_J6 B k38 k40 q133 J134 i140 h' Q)) ∧ (¬ ((i152 : Int) = i140) →
 ∃ h154 : Heap, storeH h151 ⟨k8, 0, none⟩ (Value.bool false) = some h154 ∧
 ∃ b155 : Bool, cellH B h154 ⟨k8, 0, none⟩ = some (Value.bool b155) ∧ Fin B h154 (Q (b155))))) ∧ (¬ ((i130 : Int) = i139) →
 ∃ h156 : Heap, storeH h138 ⟨k8, 0, none⟩ (Value.bool false) = some h156 ∧
 ∃ b157 : Bool, cellH B h156 ⟨k8, 0, none⟩ = some (Value.bool b157) ∧ Fin B h156 (Q (b157)))) ∧ (¬ ((i129 : Int) = i147) →
 ∃ h158 : Heap, storeH h138 ⟨k8, 0, none⟩ (Value.bool false) = some h158 ∧
 ∃ b159 : Bool, cellH B h158 ⟨k8, 0, none⟩ = some (Value.bool b159) ∧ Fin B h158 (Q (b159))))) ∧
 (∀ (h132 : Heap), J134 xs135.length h132 →
 Fin B h132 (fun h' => S_countermandlaw08_CellSets_J4 B k8 k20 k22 k38 k40 h' Q)))
def S_countermandlaw08_CellSets_J2 (B : RO) (i6 : Int) (k8 : Nat) (k20 : Nat) (k22 : Nat) (h27 : Heap) (Q : Bool → Heap → Prop) : Prop :=
 ∃ p28 : Option Addr, cellH B h27 ⟨k20, 0, none⟩ = some (Value.pointer p28) ∧
 C_cell_Row_int_Get B p28 (i6) h27 (fun i30 i31 h29 =>
 ∃ p32 : Option Addr, cellH B h29 ⟨k22, 0, none⟩ = some (Value.pointer p32) ∧
 C_countermandref08_Row_Get B p32 (i6) h29 (fun i34 i35 h33 =>
 ((i30 : Int) = i34 →
 ((i31 : Int) = i35 →
 ∃ p162 : Option Addr, cellH B h33 ⟨k20, 0, none⟩ = some (Value.pointer p162) ∧
 C_cell_Row_int_Version B p162 (i6) h33 (fun i164 h163 =>
 h163 = h33 ∧
 ((i164 : Int) = i35 →
 ∃ p166 : Option Addr, cellH B h33 ⟨k20, 0, none⟩ = some (Value.pointer p166) ∧
 ∃ p167 : Option Addr, cellH B h33 ⟨k22, 0, none⟩ = some (Value.pointer p167) ∧
 ∃ A168 : Addr, p167 = some A168 ∧
 ∃ i170 : Int, cellH B h33 A168 = some (Value.int .i64 (i170)) ∧
 C_cell_Row_int_Len B p166 h33 (fun i172 h171 =>
 h171 = h33 ∧
 ((i172 : Int) = i170 →
 Fin B h33 (fun h' => S_countermandlaw08_CellSets_J3 B k8 k20 k22 h' Q)) ∧ (¬ ((i172 : Int) = i170) →
 ∃ h174 : Heap, storeH h33 ⟨k8, 0, none⟩ (Value.bool false) = some h174 ∧
 ∃ b175 : Bool, cellH B h174 ⟨k8, 0, none⟩ = some (Value.bool b175) ∧ Fin B h174 (Q (b175))))) ∧ (¬ ((i164 : Int) = i35) →
 ∃ h176 : Heap, storeH h33 ⟨k8, 0, none⟩ (Value.bool false) = some h176 ∧
 ∃ b177 : Bool, cellH B h176 ⟨k8, 0, none⟩ = some (Value.bool b177) ∧ Fin B h176 (Q (b177))))) ∧ (¬ ((i31 : Int) = i35) →
 ∃ h178 : Heap, storeH h33 ⟨k8, 0, none⟩ (Value.bool false) = some h178 ∧
 ∃ b179 : Bool, cellH B h178 ⟨k8, 0, none⟩ = some (Value.bool b179) ∧ Fin B h178 (Q (b179)))) ∧ (¬ ((i30 : Int) = i34) →
 ∃ h180 : Heap, storeH h33 ⟨k8, 0, none⟩ (Value.bool false) = some h180 ∧
 ∃ b181 : Bool, cellH B h180 ⟨k8, 0, none⟩ = some (Value.bool b181) ∧ Fin B h180 (Q (b181)))))
def S_countermandlaw08_CellSets_J1 (B : RO) (i1 : Int) (i2 : Int) (a3 : Option Addr) (n4 : Nat) (c5 : Nat) (i6 : Int) (k8 : Nat) (h15 : Heap) (Q : Bool → Heap → Prop) : Prop :=
 C_cell_New_int B (i1) (i2) h15 (fun p17 h16 =>
 ∀ k18 : Nat, h16 k18 = none → B k18 = none → ∀ h19 : Heap, h19 = Heap.set h16 k18 (.vec 56 (plains [(Value.int .i64 (if (0 : Int) > (i1) then (0 : Int) else (i1))), (Value.int .i64 (i2)), (Value.slice none 0 0)]) 3) →
 ∀ k20 : Nat, h19 k20 = none → B k20 = none → ∀ h21 : Heap, h21 = Heap.set h19 k20 (.vec 36 (plains [(Value.pointer none)]) 1) →
 ∀ k22 : Nat, h21 k22 = none → B k22 = none → ∀ h23 : Heap, h23 = Heap.set h21 k22 (.vec 54 (plains [(Value.pointer none)]) 1) →
 ∃ h24 : Heap, storeH h23 ⟨k20, 0, none⟩ (Value.pointer p17) = some h24 ∧
 ∃ h25 : Heap, storeH h24 ⟨k22, 0, none⟩ (Value.pointer (some ⟨k18, 0, none⟩)) = some h25 ∧
 ∃ (J187 : Int → Nat → Heap → Prop) (m185 : Nat), Fin B h25 (J187 (0) m185) ∧
 ∀ (i182 : Int) (m184 : Nat) (h183 : Heap), J187 i182 m184 h183 →
 ((i182 : Int) < ((n4 : Nat)) →
 ∃ A189 : Addr, a3 = some A189 ∧ 0 ≤ (i182 : Int) ∧ (i182 : Int) < (n4 : Nat) ∧
 ∃ i191 : Int, ∃ i192 : Int, ∃ i193 : Int, CellsAt B h183 (Addr.add A189 (Int.toNat (i182) * 3)) 0 [(Value.int .i64 (i191)), (Value.int .i64 (i192)), (Value.int .i64 (i193))] ∧
 ∀ k194 : Nat, h183 k194 = none → B k194 = none → ∀ h195 : Heap, h195 = Heap.set h183 k194 (.vec 40 (plains [(Value.int .i64 (0)), (Value.int .i64 (0)), (Value.int .i64 (0))]) 3) →
 ∃ h196 : Heap, StoresAt ⟨k194, 0, none⟩ h195 0 [(Value.int .i64 (i191)), (Value.int .i64 (i192)), (Value.int .i64 (i193))] h196 ∧
 ∃ p197 : Option Addr, cellH B h196 ⟨k22, 0, none⟩ = some (Value.pointer p197) ∧
 ∃ i198 : Int, cellH B h196 ⟨k194, 0, none⟩ = some (Value.int .i64 (i198)) ∧
 C_countermandref08_Row_Is B p197 (i198) h196 (fun b200 h199 =>
 (b200 = true →
 ∃ p210 : Option Addr, cellH B h199 ⟨k20, 0, none⟩ = some (Value.pointer p210) ∧
 ∃ i211 : Int, cellH B h199 ⟨k194, 0, none⟩ = some (Value.int .i64 (i211)) ∧
 ∃ i212 : Int, cellH B h199 ⟨k194, 1, none⟩ = some (Value.int .i64 (i212)) ∧
 ∃ i213 : Int, cellH B h199 ⟨k194, 2, none⟩ = some (Value.int .i64 (i213)) ∧
 C_cell_Row_int_Set B p210 (i211) (i212) (i213) h199 (fun b215 h214 =>
 (b215 = true →
 ∃ p217 : Option Addr, cellH B h214 ⟨k22, 0, none⟩ = some (Value.pointer p217) ∧
 ∃ p219 : Option Addr, cellH B h214 ⟨k22, 0, none⟩ = some (Value.pointer p219) ∧
 ∃ A221 : Addr, p219 = some A221 ∧
 ∃ a225 : Option Addr, ∃ n226 : Nat, ∃ c227 : Nat, cellH B h214 (Addr.add A221 2) = some (Value.slice a225 n226 c227) ∧
 ∃ i229 : Int, ∃ i230 : Int, ∃ i231 : Int, CellsAt B h214 ⟨k194, 0, none⟩ 0 [(Value.int .i64 (i229)), (Value.int .i64 (i230)), (Value.int .i64 (i231))] ∧
 ∀ k233 : Nat, h214 k233 = none → B k233 = none → ∀ h234 : Heap, h234 = Heap.set h214 k233 (.vec 40 (plains [(Value.int .i64 (i229)), (Value.int .i64 (i230)), (Value.int .i64 (i231))]) 3) →
 cellH B h234 ⟨k22, 0, none⟩ = some (Value.pointer p217) ∧ cellH B h234 ⟨k22, 0, none⟩ = some (Value.pointer p219) ∧ cellH B h234 (Addr.add A221 2) = some (Value.slice a225 n226 c227) ∧ CellsAt B h234 ⟨k194, 0, none⟩ 0 [(Value.int .i64 (i229)), (Value.int .i64 (i230)), (Value.int .i64 (i231))] ∧
 semH PG B (Builtin.append_ #[35, 35] 35 #[(Value.slice a225 n226 c227), (Value.slice (some ⟨k233, 0, none⟩) 1 1)]) h234 (fun v h239 => ∃ a240 : Option Addr, ∃ n241 : Nat, ∃ c242 : Nat, v = (Value.slice a240 n241 c242) ∧
 cellH B h239 ⟨k22, 0, none⟩ = some (Value.pointer p217) ∧ cellH B h239 ⟨k22, 0, none⟩ = some (Value.pointer p219) ∧ cellH B h239 (Addr.add A221 2) = some (Value.slice a225 n226 c227) ∧ CellsAt B h239 ⟨k194, 0, none⟩ 0 [(Value.int .i64 (i229)), (Value.int .i64 (i230)), (Value.int .i64 (i231))] ∧
 ∃ A247 : Addr, p217 = some A247 ∧
 ∃ h249 : Heap, storeH h239 (Addr.add A247 2) (Value.slice a240 n241 c242) = some h249 ∧
 Fin B h249 (fun h' => ∃ m', m' < m184 ∧ J187 (IntKind.wrap .i64 ((i182) + (1))) m' h'))) ∧ (¬ (b215 = true) →
 ∃ h250 : Heap, storeH h214 ⟨k8, 0, none⟩ (Value.bool false) = some h250 ∧
 ∃ b251 : Bool, cellH B h250 ⟨k8, 0, none⟩ = some (Value.bool b251) ∧ Fin B h250 (Q (b251))))) ∧ (b200 = false →
 ∃ p201 : Option Addr, cellH B h199 ⟨k20, 0, none⟩ = some (Value.pointer p201) ∧
 ∃ i202 : Int, cellH B h199 ⟨k194, 0, none⟩ = some (Value.int .i64 (i202)) ∧
 ∃ i203 : Int, cellH B h199 ⟨k194, 1, none⟩ = some (Value.int .i64 (i203)) ∧
 ∃ i204 : Int, cellH B h199 ⟨k194, 2, none⟩ = some (Value.int .i64 (i204)) ∧
 C_cell_Row_int_Set B p201 (i202) (i203) (i204) h199 (fun b206 h205 =>
 (b206 = false →
 Fin B h205 (fun h' => ∃ m', m' < m184 ∧ J187 (IntKind.wrap .i64 ((i182) + (1))) m' h')) ∧ (¬ (b206 = false) →
 ∃ h208 : Heap, storeH h205 ⟨k8, 0, none⟩ (Value.bool false) = some h208 ∧
 ∃ b209 : Bool, cellH B h208 ⟨k8, 0, none⟩ = some (Value.bool b209) ∧ Fin B h208 (Q (b209))))))) ∧ (¬ ((i182 : Int) < ((n4 : Nat))) →
 Fin B h183 (fun h' => S_countermandlaw08_CellSets_J2 B i6 k8 k20 k22 h' Q)))
def S_countermandlaw08_CellSets (B : RO) (i1 : Int) (i2 : Int) (a3 : Option Addr) (n4 : Nat) (c5 : Nat) (i6 : Int) (h : Heap) (Q : Bool → Heap → Prop) : Prop :=
 ∀ k8 : Nat, h k8 = none → B k8 = none → ∀ h9 : Heap, h9 = Heap.set h k8 (.vec 4 (plains [(Value.bool false)]) 1) →
 C_countermandlaw08_alive B h9 (fun b11 h10 =>
 (b11 = true →
 ((i1 : Int) > (64) →
 ∃ h253 : Heap, storeH h10 ⟨k8, 0, none⟩ (Value.bool true) = some h253 ∧
 ∃ b254 : Bool, cellH B h253 ⟨k8, 0, none⟩ = some (Value.bool b254) ∧ Fin B h253 (Q (b254))) ∧ (¬ ((i1 : Int) > (64)) →
 (((n4 : Nat) : Int) > (100) →
 ∃ h256 : Heap, storeH h10 ⟨k8, 0, none⟩ (Value.bool true) = some h256 ∧
 ∃ b257 : Bool, cellH B h256 ⟨k8, 0, none⟩ = some (Value.bool b257) ∧ Fin B h256 (Q (b257))) ∧ (¬ (((n4 : Nat) : Int) > (100)) →
 Fin B h10 (fun h' => S_countermandlaw08_CellSets_J1 B i1 i2 a3 n4 c5 i6 k8 h' Q)))) ∧ (b11 = false →
 ∃ h12 : Heap, storeH h10 ⟨k8, 0, none⟩ (Value.bool false) = some h12 ∧
 ∃ b13 : Bool, cellH B h12 ⟨k8, 0, none⟩ = some (Value.bool b13) ∧ Fin B h12 (Q (b13))))
def S_countermandlaw08_alive (B : RO) (h : Heap) (Q : Bool → Heap → Prop) : Prop :=
 C_cell_New_int B (2) (7) h (fun p3 h2 =>
 C_cell_Row_int_Get B p3 (1) h2 (fun i5 i6 h4 =>
 ((i5 : Int) = 7 →
 ((i6 : Int) = 0 →
 C_cell_Row_int_Len B p3 h4 (fun i10 h9 =>
 ((i10 : Int) = 2 →
 C_cell_Row_int_Set B p3 (1) (5) (3) h9 (fun b13 h12 =>
 (b13 = true →
 C_cell_Row_int_Version B p3 (1) h12 (fun i15 h14 =>
 Fin B h14 (Q (((i15 : Int) == (3)))))) ∧ (b13 = false →
 Fin B h12 (Q (false))))) ∧ (¬ ((i10 : Int) = 2) →
 Fin B h9 (Q (false))))) ∧ (¬ ((i6 : Int) = 0) →
 Fin B h4 (Q (false)))) ∧ (¬ ((i5 : Int) = 7) →
 Fin B h4 (Q (false)))))
def S_cell_New_int (B : RO) (i1 : Int) (i2 : Int) (h : Heap) (Q : Option Addr → Heap → Prop) : Prop :=
 ∀ k4 : Nat, h k4 = none → B k4 = none → ∀ h5 : Heap, h5 = Heap.set h k4 (.vec 127 (plains [(Value.slice none 0 0)]) 1) →
 ∃ (J11 : Int → Nat → Heap → Prop) (m9 : Nat), Fin B h5 (J11 (0) m9) ∧
 ∀ (i6 : Int) (m8 : Nat) (h7 : Heap), J11 i6 m8 h7 →
 ((i6 : Int) < (i1) →
 LdSl B h7 ⟨k4, 0, none⟩ fun a13 n14 c15 h16 =>
 ∀ k17 : Nat, h16 k17 = none → B k17 = none → ∀ h18 : Heap, h18 = Heap.set h16 k17 (.vec 129 (plains [(Value.int .i64 (i2)), (Value.int .i64 (0))]) 2) →
 semH PG B (Builtin.append_ #[125, 125] 125 #[(Value.slice a13 n14 c15), (Value.slice (some ⟨k17, 0, none⟩) 1 1)]) h18 (fun v h19 => ∃ a20 : Option Addr, ∃ n21 : Nat, ∃ c22 : Nat, v = (Value.slice a20 n21 c22) ∧
 ∃ h23 : Heap, storeH h19 ⟨k4, 0, none⟩ (Value.slice a20 n21 c22) = some h23 ∧
 Fin B h23 (fun h' => ∃ m', m' < m8 ∧ J11 (IntKind.wrap .i64 ((i6) + (1))) m' h'))) ∧ (¬ ((i6 : Int) < (i1)) →
 Fin B h7 (Q (some ⟨k4, 0, none⟩)))
def S_cell_Row_int_Set (B : RO) (p1 : Option Addr) (i2 : Int) (i3 : Int) (i4 : Int) (h : Heap) (Q : Bool → Heap → Prop) : Prop :=
 C_cell_Row_int_is B p1 (i2) h (fun b7 h6 =>
 (b7 = true →
 ∃ A8 : Addr, p1 = some A8 ∧
 LdSl B h6 A8 fun a10 n11 c12 h13 =>
 ∃ A14 : Addr, a10 = some A14 ∧ 0 ≤ (i2 : Int) ∧ (i2 : Int) < (n11 : Nat) ∧
 ∃ h16 : Heap, StoresAt (Addr.add A14 (Int.toNat (i2) * 2)) h13 0 [(Value.int .i64 (i3)), (Value.int .i64 (i4))] h16 ∧
 Fin B h16 (Q (true))) ∧ (b7 = false →
 Fin B h6 (Q (false))))
def S_cell_Row_int_Newest (B : RO) (p1 : Option Addr) (h : Heap) (Q : Int → Heap → Prop) : Prop :=
 C_cell_Row_int_Len B p1 h (fun i4 h3 =>
 ∃ (J11 : Int → Int → Nat → Heap → Prop) (m9 : Nat), Fin B h3 (J11 (0) (0) m9) ∧
 ∀ (i5 : Int) (i6 : Int) (m8 : Nat) (h7 : Heap), J11 i5 i6 m8 h7 →
 ((i6 : Int) < (i4) →
 C_cell_Row_int_Version B p1 (i6) h7 (fun i14 h13 =>
 Fin B h13 (fun h' => ∃ m', m' < m8 ∧ J11 (if (i14 : Int) > (i5) then (i14 : Int) else (i5)) (IntKind.wrap .i64 ((i6) + (1))) m' h'))) ∧ (¬ ((i6 : Int) < (i4)) →
 Fin B h7 (Q (i5))))
def S_cell_New_string (B : RO) (i1 : Int) (s2 : ByteArray) (h : Heap) (Q : Option Addr → Heap → Prop) : Prop :=
 ∀ k4 : Nat, h k4 = none → B k4 = none → ∀ h5 : Heap, h5 = Heap.set h k4 (.vec 132 (plains [(Value.slice none 0 0)]) 1) →
 ∃ (J11 : Int → Nat → Heap → Prop) (m9 : Nat), Fin B h5 (J11 (0) m9) ∧
 ∀ (i6 : Int) (m8 : Nat) (h7 : Heap), J11 i6 m8 h7 →
 ((i6 : Int) < (i1) →
 LdSl B h7 ⟨k4, 0, none⟩ fun a13 n14 c15 h16 =>
 ∀ k17 : Nat, h16 k17 = none → B k17 = none → ∀ h18 : Heap, h18 = Heap.set h16 k17 (.vec 134 (plains [(Value.string s2), (Value.int .i64 (0))]) 2) →
 semH PG B (Builtin.append_ #[130, 130] 130 #[(Value.slice a13 n14 c15), (Value.slice (some ⟨k17, 0, none⟩) 1 1)]) h18 (fun v h19 => ∃ a20 : Option Addr, ∃ n21 : Nat, ∃ c22 : Nat, v = (Value.slice a20 n21 c22) ∧
 ∃ h23 : Heap, storeH h19 ⟨k4, 0, none⟩ (Value.slice a20 n21 c22) = some h23 ∧
 Fin B h23 (fun h' => ∃ m', m' < m8 ∧ J11 (IntKind.wrap .i64 ((i6) + (1))) m' h'))) ∧ (¬ ((i6 : Int) < (i1)) →
 Fin B h7 (Q (some ⟨k4, 0, none⟩)))
def S_cell_Row_string_Set (B : RO) (p1 : Option Addr) (i2 : Int) (s3 : ByteArray) (i4 : Int) (h : Heap) (Q : Bool → Heap → Prop) : Prop :=
 C_cell_Row_string_is B p1 (i2) h (fun b7 h6 =>
 (b7 = true →
 ∃ A8 : Addr, p1 = some A8 ∧
 LdSl B h6 A8 fun a10 n11 c12 h13 =>
 ∃ A14 : Addr, a10 = some A14 ∧ 0 ≤ (i2 : Int) ∧ (i2 : Int) < (n11 : Nat) ∧
 ∃ h16 : Heap, StoresAt (Addr.add A14 (Int.toNat (i2) * 2)) h13 0 [(Value.string s3), (Value.int .i64 (i4))] h16 ∧
 Fin B h16 (Q (true))) ∧ (b7 = false →
 Fin B h6 (Q (false))))
def S_cell_Row_string_All (B : RO) (p1 : Option Addr) (h : Heap) (Q : Value → Heap → Prop) : Prop :=
 ∀ k3 : Nat, h k3 = none → B k3 = none → ∀ h4 : Heap, h4 = Heap.set h k3 (.vec 44 [.plain (Value.pointer p1)] 1) →
 Fin B h4 (Q (Value.func (.func 70) #[] #[(Value.pointer (some ⟨k3, 0, none⟩))]))
def S_cell_Row_string_Get (B : RO) (p1 : Option Addr) (i2 : Int) (h : Heap) (Q : ByteArray → Int → Heap → Prop) : Prop :=
 C_cell_Row_string_is B p1 (i2) h (fun b6 h5 =>
 (b6 = true →
 ∃ A7 : Addr, p1 = some A7 ∧
 ∃ a9 : Option Addr, ∃ n10 : Nat, ∃ c11 : Nat, cellH B h5 A7 = some (Value.slice a9 n10 c11) ∧
 ∃ A12 : Addr, a9 = some A12 ∧ 0 ≤ (i2 : Int) ∧ (i2 : Int) < (n10 : Nat) ∧
 ∃ s14 : ByteArray, cellH B h5 (Addr.add A12 (Int.toNat (i2) * 2)) = some (Value.string s14) ∧
 ∃ A15 : Addr, p1 = some A15 ∧
 ∃ a17 : Option Addr, ∃ n18 : Nat, ∃ c19 : Nat, cellH B h5 A15 = some (Value.slice a17 n18 c19) ∧
 ∃ A20 : Addr, a17 = some A20 ∧ 0 ≤ (i2 : Int) ∧ (i2 : Int) < (n18 : Nat) ∧
 ∃ i22 : Int, cellH B h5 (Addr.add (Addr.add A20 (Int.toNat (i2) * 2)) 1) = some (Value.int .i64 (i22)) ∧
 Fin B h5 (Q s14 (i22))) ∧ (b6 = false →
 Fin B h5 (Q (ByteArray.mk #[]) (0))))
def S_cell_Row_string_Version (B : RO) (p1 : Option Addr) (i2 : Int) (h : Heap) (Q : Int → Heap → Prop) : Prop :=
 C_cell_Row_string_Get B p1 (i2) h (fun s5 i6 h4 =>
 Fin B h4 (Q (i6)))
def S_countermandref08_Row_Is (B : RO) (p1 : Option Addr) (i2 : Int) (h : Heap) (Q : Bool → Heap → Prop) : Prop :=
 ((i2 : Int) ≥ (0) →
 ∃ A5 : Addr, p1 = some A5 ∧
 ∃ i7 : Int, cellH B h A5 = some (Value.int .i64 (i7)) ∧
 Fin B h (Q ((decide ((i2 : Int) < (i7)))))) ∧ (¬ ((i2 : Int) ≥ (0)) →
 Fin B h (Q (false)))
def S_cell_Row_int_Get (B : RO) (p1 : Option Addr) (i2 : Int) (h : Heap) (Q : Int → Int → Heap → Prop) : Prop :=
 C_cell_Row_int_is B p1 (i2) h (fun b6 h5 =>
 (b6 = true →
 ∃ A7 : Addr, p1 = some A7 ∧
 ∃ a9 : Option Addr, ∃ n10 : Nat, ∃ c11 : Nat, cellH B h5 A7 = some (Value.slice a9 n10 c11) ∧
 ∃ A12 : Addr, a9 = some A12 ∧ 0 ≤ (i2 : Int) ∧ (i2 : Int) < (n10 : Nat) ∧
 ∃ i14 : Int, cellH B h5 (Addr.add A12 (Int.toNat (i2) * 2)) = some (Value.int .i64 (i14)) ∧
 ∃ A15 : Addr, p1 = some A15 ∧
 ∃ a17 : Option Addr, ∃ n18 : Nat, ∃ c19 : Nat, cellH B h5 A15 = some (Value.slice a17 n18 c19) ∧
 ∃ A20 : Addr, a17 = some A20 ∧ 0 ≤ (i2 : Int) ∧ (i2 : Int) < (n18 : Nat) ∧
 ∃ i22 : Int, cellH B h5 (Addr.add (Addr.add A20 (Int.toNat (i2) * 2)) 1) = some (Value.int .i64 (i22)) ∧
 Fin B h5 (Q (i14) (i22))) ∧ (b6 = false →
 Fin B h5 (Q (0) (0))))
def S_countermandref08_Row_Get (B : RO) (p1 : Option Addr) (i2 : Int) (h : Heap) (Q : Int → Int → Heap → Prop) : Prop :=
 C_countermandref08_Row_Is B p1 (i2) h (fun b6 h5 =>
 (b6 = true →
 ∃ A7 : Addr, p1 = some A7 ∧
 LdSl B h5 (Addr.add A7 2) fun a9 n10 c11 h12 =>
 ∃ (J18 : Int → Nat → Heap → Prop) (m16 : Nat), Fin B h12 (J18 (IntKind.wrap .i64 (((n10 : Nat)) - (1))) m16) ∧
 ∀ (i13 : Int) (m15 : Nat) (h14 : Heap), J18 i13 m15 h14 →
 ((i13 : Int) ≥ (0) →
 ∃ A20 : Addr, p1 = some A20 ∧
 LdSl B h14 (Addr.add A20 2) fun a22 n23 c24 h25 =>
 ∃ A26 : Addr, a22 = some A26 ∧ 0 ≤ (i13 : Int) ∧ (i13 : Int) < (n23 : Nat) ∧
 ∃ i28 : Int, cellH B h25 (Addr.add A26 (Int.toNat (i13) * 3)) = some (Value.int .i64 (i28)) ∧
 ((i28 : Int) = i2 →
 ∃ A30 : Addr, p1 = some A30 ∧
 ∃ a32 : Option Addr, ∃ n33 : Nat, ∃ c34 : Nat, cellH B h25 (Addr.add A30 2) = some (Value.slice a32 n33 c34) ∧
 ∃ A35 : Addr, a32 = some A35 ∧ 0 ≤ (i13 : Int) ∧ (i13 : Int) < (n33 : Nat) ∧
 ∃ i37 : Int, cellH B h25 (Addr.add (Addr.add A35 (Int.toNat (i13) * 3)) 1) = some (Value.int .i64 (i37)) ∧
 ∃ A38 : Addr, p1 = some A38 ∧
 ∃ a40 : Option Addr, ∃ n41 : Nat, ∃ c42 : Nat, cellH B h25 (Addr.add A38 2) = some (Value.slice a40 n41 c42) ∧
 ∃ A43 : Addr, a40 = some A43 ∧ 0 ≤ (i13 : Int) ∧ (i13 : Int) < (n41 : Nat) ∧
 ∃ i45 : Int, cellH B h25 (Addr.add (Addr.add A43 (Int.toNat (i13) * 3)) 2) = some (Value.int .i64 (i45)) ∧
 Fin B h25 (Q (i37) (i45))) ∧ (¬ ((i28 : Int) = i2) →
 Fin B h25 (fun h' => ∃ m', m' < m15 ∧ J18 (IntKind.wrap .i64 ((i13) - (1))) m' h'))) ∧ (¬ ((i13 : Int) ≥ (0)) →
 ∃ A46 : Addr, p1 = some A46 ∧
 ∃ i48 : Int, cellH B h14 (Addr.add A46 1) = some (Value.int .i64 (i48)) ∧
 Fin B h14 (Q (i48) (0)))) ∧ (b6 = false →
 Fin B h5 (Q (0) (0))))
def S_cell_Row_int_Version (B : RO) (p1 : Option Addr) (i2 : Int) (h : Heap) (Q : Int → Heap → Prop) : Prop :=
 C_cell_Row_int_Get B p1 (i2) h (fun i5 i6 h4 =>
 Fin B h4 (Q (i6)))
def S_cell_Row_int_Len (B : RO) (p1 : Option Addr) (h : Heap) (Q : Int → Heap → Prop) : Prop :=
 (p1 = none →
 Fin B h (Q (0))) ∧ (¬ (p1 = none) →
 ∃ A4 : Addr, p1 = some A4 ∧
 LdSl B h A4 fun a6 n7 c8 h9 =>
 Fin B h9 (Q ((n7 : Nat))))
def S_cell_Row_int_All (B : RO) (p1 : Option Addr) (h : Heap) (Q : Value → Heap → Prop) : Prop :=
 ∀ k3 : Nat, h k3 = none → B k3 = none → ∀ h4 : Heap, h4 = Heap.set h k3 (.vec 36 [.plain (Value.pointer p1)] 1) →
 Fin B h4 (Q (Value.func (.func 71) #[] #[(Value.pointer (some ⟨k3, 0, none⟩))]))
def S_cell_Row_int_is (B : RO) (p1 : Option Addr) (i2 : Int) (h : Heap) (Q : Bool → Heap → Prop) : Prop :=
 (p1 = none →
 Fin B h (Q (false))) ∧ (¬ (p1 = none) →
 ((i2 : Int) ≥ (0) →
 ∃ A6 : Addr, p1 = some A6 ∧
 LdSl B h A6 fun a8 n9 c10 h11 =>
 Fin B h11 (Q ((decide ((i2 : Int) < ((n9 : Nat))))))) ∧ (¬ ((i2 : Int) ≥ (0)) →
 Fin B h (Q (false))))
def S_cell_Row_string_is (B : RO) (p1 : Option Addr) (i2 : Int) (h : Heap) (Q : Bool → Heap → Prop) : Prop :=
 (p1 = none →
 Fin B h (Q (false))) ∧ (¬ (p1 = none) →
 ((i2 : Int) ≥ (0) →
 ∃ A6 : Addr, p1 = some A6 ∧
 LdSl B h A6 fun a8 n9 c10 h11 =>
 Fin B h11 (Q ((decide ((i2 : Int) < ((n9 : Nat))))))) ∧ (¬ ((i2 : Int) ≥ (0)) →
 Fin B h (Q (false))))
def S_cell_Row_string_All_1 (B : RO) (v1 : Value) (A2 : Addr) (h : Heap) (Q : Heap → Prop) : Prop :=
 ∃ p3 : Option Addr, cellH B h A2 = some (Value.pointer p3) ∧
 (p3 = none →
 Fin B h (Q)) ∧ (¬ (p3 = none) →
 ∃ p5 : Option Addr, cellH B h A2 = some (Value.pointer p5) ∧
 ∃ A6 : Addr, p5 = some A6 ∧
 LdSl B h A6 fun a8 n9 c10 h11 =>
 ∃ (J17 : Int → Nat → Heap → Prop) (m15 : Nat), Fin B h11 (J17 (0) m15) ∧
 ∀ (i12 : Int) (m14 : Nat) (h13 : Heap), J17 i12 m14 h13 →
 ((i12 : Int) < ((n9 : Nat)) →
 ∃ A19 : Addr, a8 = some A19 ∧ 0 ≤ (i12 : Int) ∧ (i12 : Int) < (n9 : Nat) ∧
 ∃ s21 : ByteArray, ∃ i22 : Int, CellsAt B h13 (Addr.add A19 (Int.toNat (i12) * 2)) 0 [(Value.string s21), (Value.int .i64 (i22))] ∧
 ∀ k23 : Nat, h13 k23 = none → B k23 = none → ∀ h24 : Heap, h24 = Heap.set h13 k23 (.vec 134 (plains [(Value.string ByteArray.empty), (Value.int .i64 (0))]) 2) →
 ∃ h25 : Heap, StoresAt ⟨k23, 0, none⟩ h24 0 [(Value.string s21), (Value.int .i64 (i22))] h25 ∧
 ∃ s26 : ByteArray, cellH B h25 ⟨k23, 0, none⟩ = some (Value.string s26) ∧
 CallV PG B v1 [(Value.int .i64 (i12)), (Value.string s26)] h25 (fun v h27 => ∃ b28 : Bool, v = (Value.bool b28) ∧
 (b28 = true →
 Fin B h27 (fun h' => ∃ m', m' < m14 ∧ J17 (IntKind.wrap .i64 ((i12) + (1))) m' h')) ∧ (b28 = false →
 Fin B h27 (Q)))) ∧ (¬ ((i12 : Int) < ((n9 : Nat))) →
 Fin B h13 (Q)))
def S_cell_Row_int_All_1 (B : RO) (v1 : Value) (A2 : Addr) (h : Heap) (Q : Heap → Prop) : Prop :=
 ∃ p3 : Option Addr, cellH B h A2 = some (Value.pointer p3) ∧
 (p3 = none →
 Fin B h (Q)) ∧ (¬ (p3 = none) →
 ∃ p5 : Option Addr, cellH B h A2 = some (Value.pointer p5) ∧
 ∃ A6 : Addr, p5 = some A6 ∧
 LdSl B h A6 fun a8 n9 c10 h11 =>
 ∃ (J17 : Int → Nat → Heap → Prop) (m15 : Nat), Fin B h11 (J17 (0) m15) ∧
 ∀ (i12 : Int) (m14 : Nat) (h13 : Heap), J17 i12 m14 h13 →
 ((i12 : Int) < ((n9 : Nat)) →
 ∃ A19 : Addr, a8 = some A19 ∧ 0 ≤ (i12 : Int) ∧ (i12 : Int) < (n9 : Nat) ∧
 ∃ i21 : Int, ∃ i22 : Int, CellsAt B h13 (Addr.add A19 (Int.toNat (i12) * 2)) 0 [(Value.int .i64 (i21)), (Value.int .i64 (i22))] ∧
 ∀ k23 : Nat, h13 k23 = none → B k23 = none → ∀ h24 : Heap, h24 = Heap.set h13 k23 (.vec 129 (plains [(Value.int .i64 (0)), (Value.int .i64 (0))]) 2) →
 ∃ h25 : Heap, StoresAt ⟨k23, 0, none⟩ h24 0 [(Value.int .i64 (i21)), (Value.int .i64 (i22))] h25 ∧
 ∃ i26 : Int, cellH B h25 ⟨k23, 0, none⟩ = some (Value.int .i64 (i26)) ∧
 CallV PG B v1 [(Value.int .i64 (i12)), (Value.int .i64 (i26))] h25 (fun v h27 => ∃ b28 : Bool, v = (Value.bool b28) ∧
 (b28 = true →
 Fin B h27 (fun h' => ∃ m', m' < m14 ∧ J17 (IntKind.wrap .i64 ((i12) + (1))) m' h')) ∧ (b28 = false →
 Fin B h27 (Q)))) ∧ (¬ ((i12 : Int) < ((n9 : Nat))) →
 Fin B h13 (Q)))
end Go.Proofs.Ythlnibaechobmaa.H
