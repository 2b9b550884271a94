/- What each function asks. No condition. -/
import Derived.Test.YtoajfmmomgpjcaaXgF
namespace Go.Proofs.Ytoajfmmomgpjcaa.H
open Go
set_option linter.unusedVariables false
set_option maxRecDepth 100000

def S_countermandlaw10_TomeApart_J3 (B : RO) (p13 : Option Addr) (p15 : Option Addr) (h17 : Heap) (Q : Bool → Heap → Prop) : Prop :=
 C_tome_Same B p13 p15 h17 (fun b19 h18 =>
 (b19 = true →
 C_tome_Tome_Bytes B p13 h18 (fun s21 h20 =>
 C_tome_Tome_Bytes B p15 h20 (fun s23 h22 =>
 Fin B h22 (Q ((decide (s21 = s23))))))) ∧ (b19 = false →
 Fin B h18 (Q (false))))
def S_countermandlaw10_TomeApart_J2 (B : RO) (a1 : Option Addr) (n2 : Nat) (c3 : Nat) (i4 : Int) (h11 : Heap) (Q : Bool → Heap → Prop) : Prop :=
 C_tome_New B h11 (fun p13 h12 =>
 C_tome_New B h12 (fun p15 h14 =>
 ∃ (J29 : Int → Nat → Heap → Prop) (m27 : Nat), Fin B h14 (J29 (0) m27) ∧
 ∀ (i24 : Int) (m26 : Nat) (h25 : Heap), J29 i24 m26 h25 →
 ((i24 : Int) < ((n2 : Nat)) →
 ∃ A31 : Addr, a1 = some A31 ∧ 0 ≤ (i24 : Int) ∧ (i24 : Int) < (n2 : Nat) ∧
 ∃ i33 : Int, ∃ b34 : Bool, ∃ s35 : ByteArray, ∃ i36 : Int, CellsAt B h25 (Addr.add A31 (Int.toNat (i24) * 4)) 0 [(Value.int .i64 (i33)), (Value.bool b34), (Value.string s35), (Value.int .i64 (i36))] ∧
 ∀ k37 : Nat, h25 k37 = none → B k37 = none → ∀ h38 : Heap, h38 = Heap.set h25 k37 (.vec 56 (plains [(Value.int .i64 (0)), (Value.bool false), (Value.string ByteArray.empty), (Value.int .i64 (0))]) 4) →
 ∃ h39 : Heap, StoresAt ⟨k37, 0, none⟩ h38 0 [(Value.int .i64 (i33)), (Value.bool b34), (Value.string s35), (Value.int .i64 (i36))] h39 ∧
 ∃ i40 : Int, cellH B h39 ⟨k37, 0, none⟩ = some (Value.int .i64 (i40)) ∧
 ∃ b41 : Bool, ∃ s42 : ByteArray, CellsAt B h39 ⟨k37, 1, none⟩ 0 [(Value.bool b41), (Value.string s42)] ∧
 ∃ i43 : Int, cellH B h39 ⟨k37, 3, none⟩ = some (Value.int .i64 (i43)) ∧
 C_tome_Tome_Set B p13 (i40) (b41) s42 (i43) h39 (fun b45 h44 =>
 ¬ (((n2 : Nat) : Int) = 0) ∧
 ∃ A46 : Addr, a1 = some A46 ∧ 0 ≤ (Int.tmod (IntKind.wrap .i64 ((i24) + (i4))) ((n2 : Nat)) : Int) ∧ (Int.tmod (IntKind.wrap .i64 ((i24) + (i4))) ((n2 : Nat)) : Int) < (n2 : Nat) ∧
 ∃ i48 : Int, ∃ b49 : Bool, ∃ s50 : ByteArray, ∃ i51 : Int, CellsAt B h44 (Addr.add A46 (Int.toNat (Int.tmod (IntKind.wrap .i64 ((i24) + (i4))) ((n2 : Nat))) * 4)) 0 [(Value.int .i64 (i48)), (Value.bool b49), (Value.string s50), (Value.int .i64 (i51))] ∧
 ∀ k52 : Nat, h44 k52 = none → B k52 = none → ∀ h53 : Heap, h53 = Heap.set h44 k52 (.vec 56 (plains [(Value.int .i64 (0)), (Value.bool false), (Value.string ByteArray.empty), (Value.int .i64 (0))]) 4) →
 ∃ h54 : Heap, StoresAt ⟨k52, 0, none⟩ h53 0 [(Value.int .i64 (i48)), (Value.bool b49), (Value.string s50), (Value.int .i64 (i51))] h54 ∧
 ∃ i55 : Int, cellH B h54 ⟨k52, 0, none⟩ = some (Value.int .i64 (i55)) ∧
 ∃ b56 : Bool, ∃ s57 : ByteArray, CellsAt B h54 ⟨k52, 1, none⟩ 0 [(Value.bool b56), (Value.string s57)] ∧
 ∃ i58 : Int, cellH B h54 ⟨k52, 3, none⟩ = some (Value.int .i64 (i58)) ∧
 C_tome_Tome_Set B p15 (i55) (b56) s57 (i58) h54 (fun b60 h59 =>
 Fin B h59 (fun h' => ∃ m', m' < m26 ∧ J29 (IntKind.wrap .i64 ((i24) + (1))) m' h')))) ∧ (¬ ((i24 : Int) < ((n2 : Nat))) →
 Fin B h25 (fun h' => S_countermandlaw10_TomeApart_J3 B p13 p15 h' Q))))
def S_countermandlaw10_TomeApart_J1 (B : RO) (a1 : Option Addr) (n2 : Nat) (c3 : Nat) (i4 : Int) (h9 : Heap) (Q : Bool → Heap → Prop) : Prop :=
 ∃ (J66 : Int → Nat → Heap → Prop) (m64 : Nat), Fin B h9 (J66 (0) m64) ∧
 ∀ (i61 : Int) (m63 : Nat) (h62 : Heap), J66 i61 m63 h62 →
 ((i61 : Int) < ((n2 : Nat)) →
 ∃ A68 : Addr, a1 = some A68 ∧ 0 ≤ (i61 : Int) ∧ (i61 : Int) < (n2 : Nat) ∧
 ∃ i70 : Int, ∃ b71 : Bool, ∃ s72 : ByteArray, ∃ i73 : Int, CellsAt B h62 (Addr.add A68 (Int.toNat (i61) * 4)) 0 [(Value.int .i64 (i70)), (Value.bool b71), (Value.string s72), (Value.int .i64 (i73))] ∧
 ∀ k74 : Nat, h62 k74 = none → B k74 = none → ∀ h75 : Heap, h75 = Heap.set h62 k74 (.vec 56 (plains [(Value.int .i64 (0)), (Value.bool false), (Value.string ByteArray.empty), (Value.int .i64 (0))]) 4) →
 ∃ h76 : Heap, StoresAt ⟨k74, 0, none⟩ h75 0 [(Value.int .i64 (i70)), (Value.bool b71), (Value.string s72), (Value.int .i64 (i73))] h76 ∧
 0 ≤ (0 : Int) ∧ (0 : Int) ≤ (i61 : Int) ∧ (i61 : Int) ≤ (c3 : Nat) ∧
 ∃ (J82 : Int → Nat → Heap → Prop) (m80 : Nat), Fin B h76 (J82 (0) m80) ∧
 ∀ (i77 : Int) (m79 : Nat) (h78 : Heap), J82 i77 m79 h78 →
 ((i77 : Int) < (((Int.toNat (i61) - Int.toNat (0)) : Nat)) →
 ∃ A84 : Addr, (if c3 = Int.toNat (0) then a1 else Option.map (·.add (Int.toNat (0) * 4)) a1) = some A84 ∧ 0 ≤ (i77 : Int) ∧ (i77 : Int) < ((Int.toNat (i61) - Int.toNat (0)) : Nat) ∧
 ∃ i86 : Int, ∃ b87 : Bool, ∃ s88 : ByteArray, ∃ i89 : Int, CellsAt B h78 (Addr.add A84 (Int.toNat (i77) * 4)) 0 [(Value.int .i64 (i86)), (Value.bool b87), (Value.string s88), (Value.int .i64 (i89))] ∧
 ∀ k90 : Nat, h78 k90 = none → B k90 = none → ∀ h91 : Heap, h91 = Heap.set h78 k90 (.vec 56 (plains [(Value.int .i64 (0)), (Value.bool false), (Value.string ByteArray.empty), (Value.int .i64 (0))]) 4) →
 ∃ h92 : Heap, StoresAt ⟨k90, 0, none⟩ h91 0 [(Value.int .i64 (i86)), (Value.bool b87), (Value.string s88), (Value.int .i64 (i89))] h92 ∧
 ∃ i93 : Int, cellH B h92 ⟨k74, 0, none⟩ = some (Value.int .i64 (i93)) ∧
 ∃ i94 : Int, cellH B h92 ⟨k90, 0, none⟩ = some (Value.int .i64 (i94)) ∧
 ((i93 : Int) = i94 →
 Fin B h92 (Q (true))) ∧ (¬ ((i93 : Int) = i94) →
 Fin B h92 (fun h' => ∃ m', m' < m79 ∧ J82 (IntKind.wrap .i64 ((i77) + (1))) m' h'))) ∧ (¬ ((i77 : Int) < (((Int.toNat (i61) - Int.toNat (0)) : Nat))) →
 Fin B h78 (fun h' => ∃ m', m' < m63 ∧ J66 (IntKind.wrap .i64 ((i61) + (1))) m' h'))) ∧ (¬ ((i61 : Int) < ((n2 : Nat))) →
 Fin B h62 (fun h' => S_countermandlaw10_TomeApart_J2 B a1 n2 c3 i4 h' Q))
def S_countermandlaw10_TomeApart (B : RO) (a1 : Option Addr) (n2 : Nat) (c3 : Nat) (i4 : Int) (h : Heap) (Q : Bool → Heap → Prop) : Prop :=
 C_countermandlaw10_alive B h (fun b7 h6 =>
 (b7 = true →
 C_countermandlaw10_great B a1 n2 c3 h6 (fun b97 h96 =>
 (b97 = true →
 Fin B h96 (Q (true))) ∧ (b97 = false →
 ((i4 : Int) < (0) →
 Fin B h96 (Q (true))) ∧ (¬ ((i4 : Int) < (0)) →
 ((i4 : Int) > ((n2 : Nat)) →
 Fin B h96 (Q (true))) ∧ (¬ ((i4 : Int) > ((n2 : Nat))) →
 Fin B h96 (fun h' => S_countermandlaw10_TomeApart_J1 B a1 n2 c3 i4 h' Q)))))) ∧ (b7 = false →
 Fin B h6 (Q (false))))
def S_countermandlaw10_TomeSets_J4 (B : RO) (k6 : Nat) (p15 : Option Addr) (k18 : Nat) (k32 : Nat) (i40 : Int) (h43 : Heap) (Q : Bool → Heap → Prop) : Prop :=
 ∃ p45 : Option Addr, cellH B h43 ⟨k18, 0, none⟩ = some (Value.pointer p45) ∧
 ∃ A47 : Addr, p45 = some A47 ∧
 ∃ l51 : List Value, List.length l51 = 12 ∧ CellsAt B h43 A47 0 l51 ∧
 C_tome_Tome_Bytes B p15 h43 (fun s54 h53 =>
 cellH B h53 ⟨k18, 0, none⟩ = some (Value.pointer p45) ∧ CellsAt B h53 A47 0 l51 ∧
 C_countermandref10_Bytes B l51 h53 (fun s58 h57 =>
 cellH B h57 ⟨k18, 0, none⟩ = some (Value.pointer p45) ∧ CellsAt B h57 A47 0 l51 ∧
 (s54 = s58 →
 ∃ b62 : Bool, cellH B h57 ⟨k32, 0, none⟩ = some (Value.bool b62) ∧ (b62 = true →
 ∃ h80 : Heap, storeH h57 ⟨k6, 0, none⟩ (Value.bool false) = some h80 ∧
 ∃ b81 : Bool, cellH B h80 ⟨k6, 0, none⟩ = some (Value.bool b81) ∧ Fin B h80 (Q (b81))) ∧ (b62 = false →
 ((i40 : Int) = 0 →
 C_tome_Tome_Set B none (0) (false) ByteArray.empty (0) h57 (fun b65 h64 =>
 (b65 = true →
 cellH B h64 ⟨k18, 0, none⟩ = some (Value.pointer p45) ∧ CellsAt B h64 A47 0 l51 ∧
 ∃ h76 : Heap, storeH h64 ⟨k6, 0, none⟩ (Value.bool false) = some h76 ∧
 ∃ b77 : Bool, cellH B h76 ⟨k6, 0, none⟩ = some (Value.bool b77) ∧ Fin B h76 (Q (b77))) ∧ (b65 = false →
 cellH B h64 ⟨k18, 0, none⟩ = some (Value.pointer p45) ∧ CellsAt B h64 A47 0 l51 ∧
 C_tome_Tome_Bytes B none h64 (fun s69 h68 =>
 cellH B h68 ⟨k18, 0, none⟩ = some (Value.pointer p45) ∧ CellsAt B h68 A47 0 l51 ∧
 ∃ h72 : Heap, storeH h68 ⟨k6, 0, none⟩ (Value.bool (decide (s69 = (ByteArray.mk #[])))) = some h72 ∧
 ∃ b73 : Bool, cellH B h72 ⟨k6, 0, none⟩ = some (Value.bool b73) ∧ Fin B h72 (Q (b73)))))) ∧ (¬ ((i40 : Int) = 0) →
 ∃ h78 : Heap, storeH h57 ⟨k6, 0, none⟩ (Value.bool false) = some h78 ∧
 ∃ b79 : Bool, cellH B h78 ⟨k6, 0, none⟩ = some (Value.bool b79) ∧ Fin B h78 (Q (b79))))) ∧ (¬ (s54 = s58) →
 ∃ h82 : Heap, storeH h57 ⟨k6, 0, none⟩ (Value.bool false) = some h82 ∧
 ∃ b83 : Bool, cellH B h82 ⟨k6, 0, none⟩ = some (Value.bool b83) ∧ Fin B h82 (Q (b83)))))
def S_countermandlaw10_TomeSets_J3 (B : RO) (k6 : Nat) (p15 : Option Addr) (k18 : Nat) (k32 : Nat) (h36 : Heap) (Q : Bool → Heap → Prop) : Prop :=
 C_tome_Tome_Get B none (0) h36 (fun b38 s39 i40 h37 =>
 ∃ h41 : Heap, StoresAt ⟨k32, 0, none⟩ h37 0 [(Value.bool b38), (Value.string s39)] h41 ∧
 C_tome_Tome_All B none h41 (fun v85 h84 =>
 ∃ (xs93 : List (Int × Bool × ByteArray)) (G89 : Heap → Prop) (J92 : Nat → Heap → Prop), Iter PG B v85 (xs93.map (fun x : Int × Bool × ByteArray => [(Value.int .i64 (x.1)), (Value.agg #[(Value.bool x.2.1), (Value.string x.2.2)])])) G89 ∧ Ins G89 ∧ (∀ i h, J92 i h → G89 h) ∧ Fin B h84 (J92 0) ∧
 (∀ (q91 : Nat) (h90 : Heap) (i86 : Int) (b87 : Bool) (s88 : ByteArray), xs93[q91]? = some (i86, b87, s88) → J92 q91 h90 →
 ∃ h94 : Heap, storeH h90 ⟨k6, 0, none⟩ (Value.bool false) = some h94 ∧
 ∃ b95 : Bool, cellH B h94 ⟨k6, 0, none⟩ = some (Value.bool b95) ∧ Fin B h94 (Q (b95))) ∧
 (∀ (h90 : Heap), J92 xs93.length h90 →
 Fin B h90 (fun h' => S_countermandlaw10_TomeSets_J4 B k6 p15 k18 k32 i40 h' Q))))
def S_countermandlaw10_TomeSets_J2 (B : RO) (i4 : Int) (k6 : Nat) (p15 : Option Addr) (k18 : Nat) (h27 : Heap) (Q : Bool → Heap → Prop) : Prop :=
 C_tome_Tome_Get B p15 (i4) h27 (fun b29 s30 i31 h28 =>
 ∀ k32 : Nat, h28 k32 = none → B k32 = none → ∀ h33 : Heap, h33 = Heap.set h28 k32 (.vec 54 (plains [(Value.bool false), (Value.string ByteArray.empty)]) 2) →
 ∃ h34 : Heap, StoresAt ⟨k32, 0, none⟩ h33 0 [(Value.bool b29), (Value.string s30)] h34 ∧
 ((i4 : Int) < (0) →
 ∃ b97 : Bool, ∃ s98 : ByteArray, CellsAt B h34 ⟨k32, 0, none⟩ 0 [(Value.bool b97), (Value.string s98)] ∧
 (eqL [(Value.bool b97), (Value.string s98)] [(Value.bool false), (Value.string ByteArray.empty)] = true →
 ((i31 : Int) = 0 →
 Fin B h34 (fun h' => S_countermandlaw10_TomeSets_J3 B k6 p15 k18 k32 h' Q)) ∧ (¬ ((i31 : Int) = 0) →
 ∃ h101 : Heap, storeH h34 ⟨k6, 0, none⟩ (Value.bool false) = some h101 ∧
 ∃ b102 : Bool, cellH B h101 ⟨k6, 0, none⟩ = some (Value.bool b102) ∧ Fin B h101 (Q (b102)))) ∧ (¬ (eqL [(Value.bool b97), (Value.string s98)] [(Value.bool false), (Value.string ByteArray.empty)] = true) →
 ∃ h103 : Heap, storeH h34 ⟨k6, 0, none⟩ (Value.bool false) = some h103 ∧
 ∃ b104 : Bool, cellH B h103 ⟨k6, 0, none⟩ = some (Value.bool b104) ∧ Fin B h103 (Q (b104)))) ∧ (¬ ((i4 : Int) < (0)) →
 ((i4 : Int) > (5) →
 ∃ b106 : Bool, ∃ s107 : ByteArray, CellsAt B h34 ⟨k32, 0, none⟩ 0 [(Value.bool b106), (Value.string s107)] ∧
 (eqL [(Value.bool b106), (Value.string s107)] [(Value.bool false), (Value.string ByteArray.empty)] = true →
 ((i31 : Int) = 0 →
 Fin B h34 (fun h' => S_countermandlaw10_TomeSets_J3 B k6 p15 k18 k32 h' Q)) ∧ (¬ ((i31 : Int) = 0) →
 ∃ h110 : Heap, storeH h34 ⟨k6, 0, none⟩ (Value.bool false) = some h110 ∧
 ∃ b111 : Bool, cellH B h110 ⟨k6, 0, none⟩ = some (Value.bool b111) ∧ Fin B h110 (Q (b111)))) ∧ (¬ (eqL [(Value.bool b106), (Value.string s107)] [(Value.bool false), (Value.string ByteArray.empty)] = true) →
 ∃ h112 : Heap, storeH h34 ⟨k6, 0, none⟩ (Value.bool false) = some h112 ∧
 ∃ b113 : Bool, cellH B h112 ⟨k6, 0, none⟩ = some (Value.bool b113) ∧ Fin B h112 (Q (b113)))) ∧ (¬ ((i4 : Int) > (5)) →
 Fin B h34 (fun h' => S_countermandlaw10_TomeSets_J3 B k6 p15 k18 k32 h' Q))))
def S_countermandlaw10_TomeSets_J1 (B : RO) (i4 : Int) (k6 : Nat) (p15 : Option Addr) (k18 : Nat) (h22 : Heap) (Q : Bool → Heap → Prop) : Prop :=
 ∀ k23 : Nat, h22 k23 = none → B k23 = none → ∀ h24 : Heap, h24 = Heap.set h22 k23 (.vec 3 (plains [(Value.int .i64 (0))]) 1) →
 ∃ h25 : Heap, storeH h24 ⟨k23, 0, none⟩ (Value.int .i64 ((-1))) = some h25 ∧
 C_tome_Tome_All B p15 h25 (fun v115 h114 =>
 ∃ (xs123 : List (Int × Bool × ByteArray)) (G119 : Heap → Prop) (J122 : Nat → Heap → Prop), Iter PG B v115 (xs123.map (fun x : Int × Bool × ByteArray => [(Value.int .i64 (x.1)), (Value.agg #[(Value.bool x.2.1), (Value.string x.2.2)])])) G119 ∧ Ins G119 ∧ (∀ i h, J122 i h → G119 h) ∧ Fin B h114 (J122 0) ∧
 (∀ (q121 : Nat) (h120 : Heap) (i116 : Int) (b117 : Bool) (s118 : ByteArray), xs123[q121]? = some (i116, b117, s118) → J122 q121 h120 →
 ∀ k124 : Nat, h120 k124 = none → B k124 = none → ∀ h125 : Heap, h125 = Heap.set h120 k124 (.vec 54 (plains [(Value.bool false), (Value.string ByteArray.empty)]) 2) →
 ∃ h126 : Heap, StoresAt ⟨k124, 0, none⟩ h125 0 [(Value.bool b117), (Value.string s118)] h126 ∧
 ∃ i127 : Int, cellH B h126 ⟨k23, 0, none⟩ = some (Value.int .i64 (i127)) ∧
 ((i116 : Int) ≤ (i127) →
 ∃ h129 : Heap, storeH h126 ⟨k6, 0, none⟩ (Value.bool false) = some h129 ∧
 ∃ b130 : Bool, cellH B h129 ⟨k6, 0, none⟩ = some (Value.bool b130) ∧ Fin B h129 (Q (b130))) ∧ (¬ ((i116 : Int) ≤ (i127)) →
 ∃ b131 : Bool, cellH B h126 ⟨k124, 0, none⟩ = some (Value.bool b131) ∧ (b131 = true →
 ∃ b134 : Bool, ∃ s135 : ByteArray, CellsAt B h126 ⟨k124, 0, none⟩ 0 [(Value.bool b134), (Value.string s135)] ∧
 ∃ p136 : Option Addr, cellH B h126 ⟨k18, 0, none⟩ = some (Value.pointer p136) ∧
 ∃ A137 : Addr, p136 = some A137 ∧
 0 ≤ (i116 : Int) ∧ (i116 : Int) < (6 : Nat) ∧
 ∃ b139 : Bool, ∃ s140 : ByteArray, CellsAt B h126 (Addr.add A137 (Int.toNat (i116) * 2)) 0 [(Value.bool b139), (Value.string s140)] ∧
 (eqL [(Value.bool b134), (Value.string s135)] [(Value.bool b139), (Value.string s140)] = true →
 ∃ h142 : Heap, storeH h126 ⟨k23, 0, none⟩ (Value.int .i64 (i116)) = some h142 ∧
 Fin B h142 (J122 (q121 + 1))) ∧ (¬ (eqL [(Value.bool b134), (Value.string s135)] [(Value.bool b139), (Value.string s140)] = true) →
 ∃ h143 : Heap, storeH h126 ⟨k6, 0, none⟩ (Value.bool false) = some h143 ∧
 ∃ b144 : Bool, cellH B h143 ⟨k6, 0, none⟩ = some (Value.bool b144) ∧ Fin B h143 (Q (b144)))) ∧ (b131 = false →
 ∃ h132 : Heap, storeH h126 ⟨k6, 0, none⟩ (Value.bool false) = some h132 ∧
 ∃ b133 : Bool, cellH B h132 ⟨k6, 0, none⟩ = some (Value.bool b133) ∧ Fin B h132 (Q (b133))))) ∧
 (∀ (h120 : Heap), J122 xs123.length h120 →
 Fin B h120 (fun h' => S_countermandlaw10_TomeSets_J2 B i4 k6 p15 k18 h' Q)))
def S_countermandlaw10_TomeSets (B : RO) (a1 : Option Addr) (n2 : Nat) (c3 : Nat) (i4 : Int) (h : Heap) (Q : Bool → Heap → Prop) : Prop :=
 ∀ k6 : Nat, h k6 = none → B k6 = none → ∀ h7 : Heap, h7 = Heap.set h k6 (.vec 4 (plains [(Value.bool false)]) 1) →
 C_countermandlaw10_alive B h7 (fun b9 h8 =>
 (b9 = true →
 C_countermandlaw10_great B a1 n2 c3 h8 (fun b13 h12 =>
 (b13 = true →
 ∃ h242 : Heap, storeH h12 ⟨k6, 0, none⟩ (Value.bool true) = some h242 ∧
 ∃ b243 : Bool, cellH B h242 ⟨k6, 0, none⟩ = some (Value.bool b243) ∧ Fin B h242 (Q (b243))) ∧ (b13 = false →
 C_tome_New B h12 (fun p15 h14 =>
 ∀ k16 : Nat, h14 k16 = none → B k16 = none → ∀ h17 : Heap, h17 = Heap.set h14 k16 (.vec 67 (plains [(Value.bool false), (Value.string ByteArray.empty), (Value.bool false), (Value.string ByteArray.empty), (Value.bool false), (Value.string ByteArray.empty), (Value.bool false), (Value.string ByteArray.empty), (Value.bool false), (Value.string ByteArray.empty), (Value.bool false), (Value.string ByteArray.empty), (Value.int .i64 (0)), (Value.int .i64 (0)), (Value.int .i64 (0)), (Value.int .i64 (0)), (Value.int .i64 (0)), (Value.int .i64 (0))]) 18) →
 ∀ k18 : Nat, h17 k18 = none → B k18 = none → ∀ h19 : Heap, h19 = Heap.set h17 k18 (.vec 62 (plains [(Value.pointer none)]) 1) →
 ∃ h20 : Heap, storeH h19 ⟨k18, 0, none⟩ (Value.pointer (some ⟨k16, 0, none⟩)) = some h20 ∧
 ∃ (J150 : Int → Nat → Heap → Prop) (m148 : Nat), Fin B h20 (J150 (0) m148) ∧
 ∀ (i145 : Int) (m147 : Nat) (h146 : Heap), J150 i145 m147 h146 →
 ((i145 : Int) < ((n2 : Nat)) →
 ∃ A152 : Addr, a1 = some A152 ∧ 0 ≤ (i145 : Int) ∧ (i145 : Int) < (n2 : Nat) ∧
 ∃ i154 : Int, ∃ b155 : Bool, ∃ s156 : ByteArray, ∃ i157 : Int, CellsAt B h146 (Addr.add A152 (Int.toNat (i145) * 4)) 0 [(Value.int .i64 (i154)), (Value.bool b155), (Value.string s156), (Value.int .i64 (i157))] ∧
 ∀ k158 : Nat, h146 k158 = none → B k158 = none → ∀ h159 : Heap, h159 = Heap.set h146 k158 (.vec 56 (plains [(Value.int .i64 (0)), (Value.bool false), (Value.string ByteArray.empty), (Value.int .i64 (0))]) 4) →
 ∃ h160 : Heap, StoresAt ⟨k158, 0, none⟩ h159 0 [(Value.int .i64 (i154)), (Value.bool b155), (Value.string s156), (Value.int .i64 (i157))] h160 ∧
 ∃ i163 : Int, cellH B h160 ⟨k158, 0, none⟩ = some (Value.int .i64 (i163)) ∧
 ∃ b166 : Bool, ∃ s167 : ByteArray, CellsAt B h160 ⟨k158, 1, none⟩ 0 [(Value.bool b166), (Value.string s167)] ∧
 ∃ i170 : Int, cellH B h160 ⟨k158, 3, none⟩ = some (Value.int .i64 (i170)) ∧
 ∃ p172 : Option Addr, cellH B h160 ⟨k18, 0, none⟩ = some (Value.pointer p172) ∧
 ∃ i175 : Int, cellH B h160 ⟨k158, 0, none⟩ = some (Value.int .i64 (i175)) ∧
 ∃ b178 : Bool, ∃ s179 : ByteArray, CellsAt B h160 ⟨k158, 1, none⟩ 0 [(Value.bool b178), (Value.string s179)] ∧
 ∃ i182 : Int, cellH B h160 ⟨k158, 3, none⟩ = some (Value.int .i64 (i182)) ∧
 C_tome_Tome_Set B p15 (i163) (b166) s167 (i170) h160 (fun b185 h184 =>
 cellH B h184 ⟨k158, 0, none⟩ = some (Value.int .i64 (i163)) ∧ CellsAt B h184 ⟨k158, 1, none⟩ 0 [(Value.bool b166), (Value.string s167)] ∧ cellH B h184 ⟨k158, 3, none⟩ = some (Value.int .i64 (i170)) ∧ cellH B h184 ⟨k18, 0, none⟩ = some (Value.pointer p172) ∧ cellH B h184 ⟨k158, 0, none⟩ = some (Value.int .i64 (i175)) ∧ CellsAt B h184 ⟨k158, 1, none⟩ 0 [(Value.bool b178), (Value.string s179)] ∧ cellH B h184 ⟨k158, 3, none⟩ = some (Value.int .i64 (i182)) ∧
 C_countermandref10_Tome_Set B p172 (i175) (b178) s179 (i182) h184 (fun b194 h193 =>
 cellH B h193 ⟨k158, 0, none⟩ = some (Value.int .i64 (i163)) ∧ CellsAt B h193 ⟨k158, 1, none⟩ 0 [(Value.bool b166), (Value.string s167)] ∧ cellH B h193 ⟨k158, 3, none⟩ = some (Value.int .i64 (i170)) ∧ cellH B h193 ⟨k18, 0, none⟩ = some (Value.pointer p172) ∧ cellH B h193 ⟨k158, 0, none⟩ = some (Value.int .i64 (i175)) ∧ CellsAt B h193 ⟨k158, 1, none⟩ 0 [(Value.bool b178), (Value.string s179)] ∧ cellH B h193 ⟨k158, 3, none⟩ = some (Value.int .i64 (i182)) ∧
 (b185 = b194 →
 ∃ p203 : Option Addr, cellH B h193 ⟨k18, 0, none⟩ = some (Value.pointer p203) ∧
 ∃ A204 : Addr, p203 = some A204 ∧
 ∃ l206 : List Value, List.length l206 = 12 ∧ CellsAt B h193 A204 0 l206 ∧
 ∃ (J212 : Int → Nat → Heap → Prop) (m210 : Nat), Fin B h193 (J212 (0) m210) ∧
 ∀ (i207 : Int) (m209 : Nat) (h208 : Heap), J212 i207 m209 h208 →
 ((i207 : Int) < (6) →
 0 ≤ (i207 : Int) ∧ (i207 : Int) < (6 : Nat) ∧ ∃ b214 : Bool, ∃ s215 : ByteArray, Array.extract (List.toArray l206) (Int.toNat (i207) * 2) (Int.toNat (i207) * 2 + 2) = #[(Value.bool b214), (Value.string s215)] ∧
 ∀ k216 : Nat, h208 k216 = none → B k216 = none → ∀ h217 : Heap, h217 = Heap.set h208 k216 (.vec 63 (plains [(Value.bool false), (Value.string ByteArray.empty)]) 2) →
 ∃ h218 : Heap, StoresAt ⟨k216, 0, none⟩ h217 0 [(Value.bool b214), (Value.string s215)] h218 ∧
 C_tome_Tome_Get B p15 (i207) h218 (fun b220 s221 i222 h219 =>
 ∀ k223 : Nat, h219 k223 = none → B k223 = none → ∀ h224 : Heap, h224 = Heap.set h219 k223 (.vec 54 (plains [(Value.bool false), (Value.string ByteArray.empty)]) 2) →
 ∃ h225 : Heap, StoresAt ⟨k223, 0, none⟩ h224 0 [(Value.bool b220), (Value.string s221)] h225 ∧
 ∃ b226 : Bool, ∃ s227 : ByteArray, CellsAt B h225 ⟨k223, 0, none⟩ 0 [(Value.bool b226), (Value.string s227)] ∧
 ∃ b228 : Bool, ∃ s229 : ByteArray, CellsAt B h225 ⟨k216, 0, none⟩ 0 [(Value.bool b228), (Value.string s229)] ∧
 (eqL [(Value.bool b226), (Value.string s227)] [(Value.bool b228), (Value.string s229)] = true →
 ∃ p231 : Option Addr, cellH B h225 ⟨k18, 0, none⟩ = some (Value.pointer p231) ∧
 ∃ A232 : Addr, p231 = some A232 ∧
 0 ≤ (i207 : Int) ∧ (i207 : Int) < (6 : Nat) ∧
 ∃ i234 : Int, cellH B h225 (Addr.add (Addr.add A232 12) (Int.toNat (i207) * 1)) = some (Value.int .i64 (i234)) ∧
 ((i222 : Int) = i234 →
 Fin B h225 (fun h' => ∃ m', m' < m209 ∧ J212 (IntKind.wrap .i64 ((i207) + (1))) m' h')) ∧ (¬ ((i222 : Int) = i234) →
 ∃ h236 : Heap, storeH h225 ⟨k6, 0, none⟩ (Value.bool false) = some h236 ∧
 ∃ b237 : Bool, cellH B h236 ⟨k6, 0, none⟩ = some (Value.bool b237) ∧ Fin B h236 (Q (b237)))) ∧ (¬ (eqL [(Value.bool b226), (Value.string s227)] [(Value.bool b228), (Value.string s229)] = true) →
 ∃ h238 : Heap, storeH h225 ⟨k6, 0, none⟩ (Value.bool false) = some h238 ∧
 ∃ b239 : Bool, cellH B h238 ⟨k6, 0, none⟩ = some (Value.bool b239) ∧ Fin B h238 (Q (b239))))) ∧ (¬ ((i207 : Int) < (6)) →
 Fin B h208 (fun h' => ∃ m', m' < m147 ∧ J150 (IntKind.wrap .i64 ((i145) + (1))) m' h'))) ∧ (¬ (b185 = b194) →
 ∃ h240 : Heap, storeH h193 ⟨k6, 0, none⟩ (Value.bool false) = some h240 ∧
 ∃ b241 : Bool, cellH B h240 ⟨k6, 0, none⟩ = some (Value.bool b241) ∧ Fin B h240 (Q (b241)))))) ∧ (¬ ((i145 : Int) < ((n2 : Nat))) →
 Fin B h146 (fun h' => S_countermandlaw10_TomeSets_J1 B i4 k6 p15 k18 h' Q)))))) ∧ (b9 = false →
 ∃ h10 : Heap, storeH h8 ⟨k6, 0, none⟩ (Value.bool false) = some h10 ∧
 ∃ b11 : Bool, cellH B h10 ⟨k6, 0, none⟩ = some (Value.bool b11) ∧ Fin B h10 (Q (b11))))
def S_countermandlaw10_TomeReturns_J3 (B : RO) (p13 : Option Addr) (p15 : Option Addr) (k16 : Nat) (k18 : Nat) (h23 : Heap) (Q : Bool → Heap → Prop) : Prop :=
 C_tome_Tome_Bytes B p13 h23 (fun s25 h24 =>
 C_tome_Read B s25 h24 (fun p27 b28 h26 =>
 (b28 = true →
 C_tome_Same B p13 p27 h26 (fun b36 h35 =>
 (b36 = true →
 (C_tome_Same B p13 p15 h35 (fun b38 h37 =>
 (∃ l39 : List Value, List.length l39 = 12 ∧ CellsAt B h37 ⟨k16, 0, none⟩ 0 l39 ∧
 ∃ l40 : List Value, List.length l40 = 12 ∧ CellsAt B h37 ⟨k18, 0, none⟩ 0 l40 ∧
 fitL [Kd.bool, Kd.str, Kd.bool, Kd.str, Kd.bool, Kd.str, Kd.bool, Kd.str, Kd.bool, Kd.str, Kd.bool, Kd.str] l39 ∧ fitL [Kd.bool, Kd.str, Kd.bool, Kd.str, Kd.bool, Kd.str, Kd.bool, Kd.str, Kd.bool, Kd.str, Kd.bool, Kd.str] l40 ∧
 Fin B h37 (Q ((decide (b38 = (decide (eqL l39 l40 = true))))))) ∧
 (∃ l41 : List Value, List.length l41 = 12 ∧ CellsAt B h37 ⟨k18, 0, none⟩ 0 l41 ∧
 ∃ l42 : List Value, List.length l42 = 12 ∧ CellsAt B h37 ⟨k16, 0, none⟩ 0 l42 ∧
 fitL [Kd.bool, Kd.str, Kd.bool, Kd.str, Kd.bool, Kd.str, Kd.bool, Kd.str, Kd.bool, Kd.str, Kd.bool, Kd.str] l42 ∧ fitL [Kd.bool, Kd.str, Kd.bool, Kd.str, Kd.bool, Kd.str, Kd.bool, Kd.str, Kd.bool, Kd.str, Kd.bool, Kd.str] l41 ∧
 Fin B h37 (Q ((decide (b38 = (decide (eqL l42 l41 = true))))))))) ∧
 (∃ l43 : List Value, List.length l43 = 12 ∧ CellsAt B h35 ⟨k16, 0, none⟩ 0 l43 ∧
 (C_tome_Same B p13 p15 h35 (fun b45 h44 =>
 ∃ l46 : List Value, List.length l46 = 12 ∧ CellsAt B h44 ⟨k18, 0, none⟩ 0 l46 ∧
 fitL [Kd.bool, Kd.str, Kd.bool, Kd.str, Kd.bool, Kd.str, Kd.bool, Kd.str, Kd.bool, Kd.str, Kd.bool, Kd.str] l43 ∧ fitL [Kd.bool, Kd.str, Kd.bool, Kd.str, Kd.bool, Kd.str, Kd.bool, Kd.str, Kd.bool, Kd.str, Kd.bool, Kd.str] l46 ∧
 Fin B h44 (Q ((decide (b45 = (decide (eqL l43 l46 = true)))))))) ∧
 (∃ l47 : List Value, List.length l47 = 12 ∧ CellsAt B h35 ⟨k18, 0, none⟩ 0 l47 ∧
 fitL [Kd.bool, Kd.str, Kd.bool, Kd.str, Kd.bool, Kd.str, Kd.bool, Kd.str, Kd.bool, Kd.str, Kd.bool, Kd.str] l43 ∧ fitL [Kd.bool, Kd.str, Kd.bool, Kd.str, Kd.bool, Kd.str, Kd.bool, Kd.str, Kd.bool, Kd.str, Kd.bool, Kd.str] l47 ∧
 C_tome_Same B p13 p15 h35 (fun b49 h48 =>
 Fin B h48 (Q ((decide (b49 = (decide (eqL l43 l47 = true))))))))) ∧
 (∃ l50 : List Value, List.length l50 = 12 ∧ CellsAt B h35 ⟨k18, 0, none⟩ 0 l50 ∧
 (C_tome_Same B p13 p15 h35 (fun b52 h51 =>
 ∃ l53 : List Value, List.length l53 = 12 ∧ CellsAt B h51 ⟨k16, 0, none⟩ 0 l53 ∧
 fitL [Kd.bool, Kd.str, Kd.bool, Kd.str, Kd.bool, Kd.str, Kd.bool, Kd.str, Kd.bool, Kd.str, Kd.bool, Kd.str] l53 ∧ fitL [Kd.bool, Kd.str, Kd.bool, Kd.str, Kd.bool, Kd.str, Kd.bool, Kd.str, Kd.bool, Kd.str, Kd.bool, Kd.str] l50 ∧
 Fin B h51 (Q ((decide (b52 = (decide (eqL l53 l50 = true)))))))) ∧
 (∃ l54 : List Value, List.length l54 = 12 ∧ CellsAt B h35 ⟨k16, 0, none⟩ 0 l54 ∧
 fitL [Kd.bool, Kd.str, Kd.bool, Kd.str, Kd.bool, Kd.str, Kd.bool, Kd.str, Kd.bool, Kd.str, Kd.bool, Kd.str] l54 ∧ fitL [Kd.bool, Kd.str, Kd.bool, Kd.str, Kd.bool, Kd.str, Kd.bool, Kd.str, Kd.bool, Kd.str, Kd.bool, Kd.str] l50 ∧
 C_tome_Same B p13 p15 h35 (fun b56 h55 =>
 Fin B h55 (Q ((decide (b56 = (decide (eqL l54 l50 = true)))))))))) ∧ (b36 = false →
 ((Fin B h35 (Q (false))) ∧
 (Fin B h35 (Q (false)))) ∧
 ((Fin B h35 (Q (false))) ∧
 (Fin B h35 (Q (false)))) ∧
 ((Fin B h35 (Q (false))) ∧
 (Fin B h35 (Q (false))))))) ∧ (b28 = false →
 ((Fin B h26 (Q (false))) ∧
 (Fin B h26 (Q (false)))) ∧
 ((Fin B h26 (Q (false))) ∧
 (Fin B h26 (Q (false)))) ∧
 ((Fin B h26 (Q (false))) ∧
 (Fin B h26 (Q (false)))))))
def S_countermandlaw10_TomeReturns_J2 (B : RO) (a4 : Option Addr) (n5 : Nat) (c6 : Nat) (p13 : Option Addr) (p15 : Option Addr) (k16 : Nat) (k18 : Nat) (h21 : Heap) (Q : Bool → Heap → Prop) : Prop :=
 ∃ (J62 : Int → Nat → Heap → Prop) (m60 : Nat), Fin B h21 (J62 (0) m60) ∧
 ∀ (i57 : Int) (m59 : Nat) (h58 : Heap), J62 i57 m59 h58 →
 ((i57 : Int) < ((n5 : Nat)) →
 ∃ A64 : Addr, a4 = some A64 ∧ 0 ≤ (i57 : Int) ∧ (i57 : Int) < (n5 : Nat) ∧
 ∃ i66 : Int, ∃ b67 : Bool, ∃ s68 : ByteArray, ∃ i69 : Int, CellsAt B h58 (Addr.add A64 (Int.toNat (i57) * 4)) 0 [(Value.int .i64 (i66)), (Value.bool b67), (Value.string s68), (Value.int .i64 (i69))] ∧
 ∀ k70 : Nat, h58 k70 = none → B k70 = none → ∀ h71 : Heap, h71 = Heap.set h58 k70 (.vec 56 (plains [(Value.int .i64 (0)), (Value.bool false), (Value.string ByteArray.empty), (Value.int .i64 (0))]) 4) →
 ∃ h72 : Heap, StoresAt ⟨k70, 0, none⟩ h71 0 [(Value.int .i64 (i66)), (Value.bool b67), (Value.string s68), (Value.int .i64 (i69))] h72 ∧
 ∃ i73 : Int, cellH B h72 ⟨k70, 0, none⟩ = some (Value.int .i64 (i73)) ∧
 ∃ b74 : Bool, ∃ s75 : ByteArray, CellsAt B h72 ⟨k70, 1, none⟩ 0 [(Value.bool b74), (Value.string s75)] ∧
 C_tome_Tome_Set B p15 (i73) (b74) s75 (1) h72 (fun b77 h76 =>
 ∃ i78 : Int, cellH B h76 ⟨k70, 0, none⟩ = some (Value.int .i64 (i78)) ∧
 ∃ b79 : Bool, ∃ s80 : ByteArray, CellsAt B h76 ⟨k70, 1, none⟩ 0 [(Value.bool b79), (Value.string s80)] ∧
 C_countermandref10_Tome_Set B (some ⟨k18, 0, none⟩) (i78) (b79) s80 (0) h76 (fun b82 h81 =>
 Fin B h81 (fun h' => ∃ m', m' < m59 ∧ J62 (IntKind.wrap .i64 ((i57) + (1))) m' h')))) ∧ (¬ ((i57 : Int) < ((n5 : Nat))) →
 Fin B h58 (fun h' => S_countermandlaw10_TomeReturns_J3 B p13 p15 k16 k18 h' Q))
def S_countermandlaw10_TomeReturns_J1 (B : RO) (a1 : Option Addr) (n2 : Nat) (c3 : Nat) (a4 : Option Addr) (n5 : Nat) (c6 : Nat) (h11 : Heap) (Q : Bool → Heap → Prop) : Prop :=
 C_tome_New B h11 (fun p13 h12 =>
 C_tome_New B h12 (fun p15 h14 =>
 ∀ k16 : Nat, h14 k16 = none → B k16 = none → ∀ h17 : Heap, h17 = Heap.set h14 k16 (.vec 67 (plains [(Value.bool false), (Value.string ByteArray.empty), (Value.bool false), (Value.string ByteArray.empty), (Value.bool false), (Value.string ByteArray.empty), (Value.bool false), (Value.string ByteArray.empty), (Value.bool false), (Value.string ByteArray.empty), (Value.bool false), (Value.string ByteArray.empty), (Value.int .i64 (0)), (Value.int .i64 (0)), (Value.int .i64 (0)), (Value.int .i64 (0)), (Value.int .i64 (0)), (Value.int .i64 (0))]) 18) →
 ∀ k18 : Nat, h17 k18 = none → B k18 = none → ∀ h19 : Heap, h19 = Heap.set h17 k18 (.vec 67 (plains [(Value.bool false), (Value.string ByteArray.empty), (Value.bool false), (Value.string ByteArray.empty), (Value.bool false), (Value.string ByteArray.empty), (Value.bool false), (Value.string ByteArray.empty), (Value.bool false), (Value.string ByteArray.empty), (Value.bool false), (Value.string ByteArray.empty), (Value.int .i64 (0)), (Value.int .i64 (0)), (Value.int .i64 (0)), (Value.int .i64 (0)), (Value.int .i64 (0)), (Value.int .i64 (0))]) 18) →
 ∃ (J88 : Int → Nat → Heap → Prop) (m86 : Nat), Fin B h19 (J88 (0) m86) ∧
 ∀ (i83 : Int) (m85 : Nat) (h84 : Heap), J88 i83 m85 h84 →
 ((i83 : Int) < ((n2 : Nat)) →
 ∃ A90 : Addr, a1 = some A90 ∧ 0 ≤ (i83 : Int) ∧ (i83 : Int) < (n2 : Nat) ∧
 ∃ i92 : Int, ∃ b93 : Bool, ∃ s94 : ByteArray, ∃ i95 : Int, CellsAt B h84 (Addr.add A90 (Int.toNat (i83) * 4)) 0 [(Value.int .i64 (i92)), (Value.bool b93), (Value.string s94), (Value.int .i64 (i95))] ∧
 ∀ k96 : Nat, h84 k96 = none → B k96 = none → ∀ h97 : Heap, h97 = Heap.set h84 k96 (.vec 56 (plains [(Value.int .i64 (0)), (Value.bool false), (Value.string ByteArray.empty), (Value.int .i64 (0))]) 4) →
 ∃ h98 : Heap, StoresAt ⟨k96, 0, none⟩ h97 0 [(Value.int .i64 (i92)), (Value.bool b93), (Value.string s94), (Value.int .i64 (i95))] h98 ∧
 ∃ i99 : Int, cellH B h98 ⟨k96, 0, none⟩ = some (Value.int .i64 (i99)) ∧
 ∃ b100 : Bool, ∃ s101 : ByteArray, CellsAt B h98 ⟨k96, 1, none⟩ 0 [(Value.bool b100), (Value.string s101)] ∧
 ∃ i102 : Int, cellH B h98 ⟨k96, 3, none⟩ = some (Value.int .i64 (i102)) ∧
 C_tome_Tome_Set B p13 (i99) (b100) s101 (i102) h98 (fun b104 h103 =>
 ∃ i105 : Int, cellH B h103 ⟨k96, 0, none⟩ = some (Value.int .i64 (i105)) ∧
 ∃ b106 : Bool, ∃ s107 : ByteArray, CellsAt B h103 ⟨k96, 1, none⟩ 0 [(Value.bool b106), (Value.string s107)] ∧
 C_countermandref10_Tome_Set B (some ⟨k16, 0, none⟩) (i105) (b106) s107 (0) h103 (fun b109 h108 =>
 Fin B h108 (fun h' => ∃ m', m' < m85 ∧ J88 (IntKind.wrap .i64 ((i83) + (1))) m' h')))) ∧ (¬ ((i83 : Int) < ((n2 : Nat))) →
 Fin B h84 (fun h' => S_countermandlaw10_TomeReturns_J2 B a4 n5 c6 p13 p15 k16 k18 h' Q))))
def S_countermandlaw10_TomeReturns (B : RO) (a1 : Option Addr) (n2 : Nat) (c3 : Nat) (a4 : Option Addr) (n5 : Nat) (c6 : Nat) (h : Heap) (Q : Bool → Heap → Prop) : Prop :=
 C_countermandlaw10_alive B h (fun b9 h8 =>
 (b9 = true →
 C_countermandlaw10_great B a1 n2 c3 h8 (fun b111 h110 =>
 (b111 = true →
 Fin B h110 (Q (true))) ∧ (b111 = false →
 C_countermandlaw10_great B a4 n5 c6 h110 (fun b113 h112 =>
 (b113 = true →
 Fin B h112 (Q (true))) ∧ (b113 = false →
 Fin B h112 (fun h' => S_countermandlaw10_TomeReturns_J1 B a1 n2 c3 a4 n5 c6 h' Q)))))) ∧ (b9 = false →
 Fin B h8 (Q (false))))
def S_countermandlaw10_TomeReads_J1 (B : RO) (p7 : Option Addr) (k15 : Nat) (h19 : Heap) (Q : Bool → Heap → Prop) : Prop :=
 ∃ l20 : List Value, List.length l20 = 12 ∧ CellsAt B h19 ⟨k15, 0, none⟩ 0 l20 ∧
 ∃ (J26 : Int → Nat → Heap → Prop) (m24 : Nat), Fin B h19 (J26 (0) m24) ∧
 ∀ (i21 : Int) (m23 : Nat) (h22 : Heap), J26 i21 m23 h22 →
 ((i21 : Int) < (6) →
 0 ≤ (i21 : Int) ∧ (i21 : Int) < (6 : Nat) ∧ ∃ b28 : Bool, ∃ s29 : ByteArray, Array.extract (List.toArray l20) (Int.toNat (i21) * 2) (Int.toNat (i21) * 2 + 2) = #[(Value.bool b28), (Value.string s29)] ∧
 ∀ k30 : Nat, h22 k30 = none → B k30 = none → ∀ h31 : Heap, h31 = Heap.set h22 k30 (.vec 63 (plains [(Value.bool false), (Value.string ByteArray.empty)]) 2) →
 ∃ h32 : Heap, StoresAt ⟨k30, 0, none⟩ h31 0 [(Value.bool b28), (Value.string s29)] h32 ∧
 C_tome_Tome_Get B p7 (i21) h32 (fun b34 s35 i36 h33 =>
 ∀ k37 : Nat, h33 k37 = none → B k37 = none → ∀ h38 : Heap, h38 = Heap.set h33 k37 (.vec 54 (plains [(Value.bool false), (Value.string ByteArray.empty)]) 2) →
 ∃ h39 : Heap, StoresAt ⟨k37, 0, none⟩ h38 0 [(Value.bool b34), (Value.string s35)] h39 ∧
 ∃ b40 : Bool, ∃ s41 : ByteArray, CellsAt B h39 ⟨k37, 0, none⟩ 0 [(Value.bool b40), (Value.string s41)] ∧
 ∃ b42 : Bool, ∃ s43 : ByteArray, CellsAt B h39 ⟨k30, 0, none⟩ 0 [(Value.bool b42), (Value.string s43)] ∧
 (eqL [(Value.bool b40), (Value.string s41)] [(Value.bool b42), (Value.string s43)] = true →
 ((i36 : Int) = 0 →
 Fin B h39 (fun h' => ∃ m', m' < m23 ∧ J26 (IntKind.wrap .i64 ((i21) + (1))) m' h')) ∧ (¬ ((i36 : Int) = 0) →
 Fin B h39 (Q (false)))) ∧ (¬ (eqL [(Value.bool b40), (Value.string s41)] [(Value.bool b42), (Value.string s43)] = true) →
 Fin B h39 (Q (false))))) ∧ (¬ ((i21 : Int) < (6)) →
 Fin B h22 (Q (true)))
def S_countermandlaw10_TomeReads_J2 (B : RO) (p7 : Option Addr) (k52 : Nat) (h56 : Heap) (Q : Bool → Heap → Prop) : Prop :=
 ∃ l57 : List Value, List.length l57 = 12 ∧ CellsAt B h56 ⟨k52, 0, none⟩ 0 l57 ∧
 ∃ (J63 : Int → Nat → Heap → Prop) (m61 : Nat), Fin B h56 (J63 (0) m61) ∧
 ∀ (i58 : Int) (m60 : Nat) (h59 : Heap), J63 i58 m60 h59 →
 ((i58 : Int) < (6) →
 0 ≤ (i58 : Int) ∧ (i58 : Int) < (6 : Nat) ∧ ∃ b65 : Bool, ∃ s66 : ByteArray, Array.extract (List.toArray l57) (Int.toNat (i58) * 2) (Int.toNat (i58) * 2 + 2) = #[(Value.bool b65), (Value.string s66)] ∧
 ∀ k67 : Nat, h59 k67 = none → B k67 = none → ∀ h68 : Heap, h68 = Heap.set h59 k67 (.vec 63 (plains [(Value.bool false), (Value.string ByteArray.empty)]) 2) →
 ∃ h69 : Heap, StoresAt ⟨k67, 0, none⟩ h68 0 [(Value.bool b65), (Value.string s66)] h69 ∧
 C_tome_Tome_Get B p7 (i58) h69 (fun b71 s72 i73 h70 =>
 ∀ k74 : Nat, h70 k74 = none → B k74 = none → ∀ h75 : Heap, h75 = Heap.set h70 k74 (.vec 54 (plains [(Value.bool false), (Value.string ByteArray.empty)]) 2) →
 ∃ h76 : Heap, StoresAt ⟨k74, 0, none⟩ h75 0 [(Value.bool b71), (Value.string s72)] h76 ∧
 ∃ b77 : Bool, ∃ s78 : ByteArray, CellsAt B h76 ⟨k74, 0, none⟩ 0 [(Value.bool b77), (Value.string s78)] ∧
 ∃ b79 : Bool, ∃ s80 : ByteArray, CellsAt B h76 ⟨k67, 0, none⟩ 0 [(Value.bool b79), (Value.string s80)] ∧
 (eqL [(Value.bool b77), (Value.string s78)] [(Value.bool b79), (Value.string s80)] = true →
 ((i73 : Int) = 0 →
 Fin B h76 (fun h' => ∃ m', m' < m60 ∧ J63 (IntKind.wrap .i64 ((i58) + (1))) m' h')) ∧ (¬ ((i73 : Int) = 0) →
 Fin B h76 (Q (false)))) ∧ (¬ (eqL [(Value.bool b77), (Value.string s78)] [(Value.bool b79), (Value.string s80)] = true) →
 Fin B h76 (Q (false))))) ∧ (¬ ((i58 : Int) < (6)) →
 Fin B h59 (Q (true)))
def S_countermandlaw10_TomeReads (B : RO) (s1 : ByteArray) (h : Heap) (Q : Bool → Heap → Prop) : Prop :=
 C_countermandlaw10_alive B h (fun b4 h3 =>
 (b4 = true →
 (((ByteArray.size s1 : Nat) : Int) > (300) →
 Fin B h3 (Q (true))) ∧ (¬ (((ByteArray.size s1 : Nat) : Int) > (300)) →
 C_tome_Read B s1 h3 (fun p7 b8 h6 =>
 (b8 = true →
 C_countermandref10_Read B s1 h6 (fun l47 b48 h46 =>
 (b48 = true →
 ∀ k52 : Nat, h46 k52 = none → B k52 = none → ∀ h53 : Heap, h53 = Heap.set h46 k52 (.vec 64 (plains [(Value.bool false), (Value.string ByteArray.empty), (Value.bool false), (Value.string ByteArray.empty), (Value.bool false), (Value.string ByteArray.empty), (Value.bool false), (Value.string ByteArray.empty), (Value.bool false), (Value.string ByteArray.empty), (Value.bool false), (Value.string ByteArray.empty)]) 12) →
 List.length l47 = 12 ∧ ∃ h54 : Heap, StoresAt ⟨k52, 0, none⟩ h53 0 l47 h54 ∧
 C_tome_Tome_Bytes B p7 h54 (fun s84 h83 =>
 (s84 = s1 →
 Fin B h83 (fun h' => S_countermandlaw10_TomeReads_J2 B p7 k52 h' Q)) ∧ (¬ (s84 = s1) →
 Fin B h83 (Q (false))))) ∧ (b48 = false →
 ∀ k49 : Nat, h46 k49 = none → B k49 = none → ∀ h50 : Heap, h50 = Heap.set h46 k49 (.vec 64 (plains [(Value.bool false), (Value.string ByteArray.empty), (Value.bool false), (Value.string ByteArray.empty), (Value.bool false), (Value.string ByteArray.empty), (Value.bool false), (Value.string ByteArray.empty), (Value.bool false), (Value.string ByteArray.empty), (Value.bool false), (Value.string ByteArray.empty)]) 12) →
 List.length l47 = 12 ∧ ∃ h51 : Heap, StoresAt ⟨k49, 0, none⟩ h50 0 l47 h51 ∧
 Fin B h51 (Q (false))))) ∧ (b8 = false →
 C_countermandref10_Read B s1 h6 (fun l10 b11 h9 =>
 (b11 = true →
 ∀ k15 : Nat, h9 k15 = none → B k15 = none → ∀ h16 : Heap, h16 = Heap.set h9 k15 (.vec 64 (plains [(Value.bool false), (Value.string ByteArray.empty), (Value.bool false), (Value.string ByteArray.empty), (Value.bool false), (Value.string ByteArray.empty), (Value.bool false), (Value.string ByteArray.empty), (Value.bool false), (Value.string ByteArray.empty), (Value.bool false), (Value.string ByteArray.empty)]) 12) →
 List.length l10 = 12 ∧ ∃ h17 : Heap, StoresAt ⟨k15, 0, none⟩ h16 0 l10 h17 ∧
 Fin B h17 (Q (false))) ∧ (b11 = false →
 ∀ k12 : Nat, h9 k12 = none → B k12 = none → ∀ h13 : Heap, h13 = Heap.set h9 k12 (.vec 64 (plains [(Value.bool false), (Value.string ByteArray.empty), (Value.bool false), (Value.string ByteArray.empty), (Value.bool false), (Value.string ByteArray.empty), (Value.bool false), (Value.string ByteArray.empty), (Value.bool false), (Value.string ByteArray.empty), (Value.bool false), (Value.string ByteArray.empty)]) 12) →
 List.length l10 = 12 ∧ ∃ h14 : Heap, StoresAt ⟨k12, 0, none⟩ h13 0 l10 h14 ∧
 Fin B h14 (Q ((decide (p7 = none)))))))))) ∧ (b4 = false →
 Fin B h3 (Q (false))))
def S_stylus_Of (B : RO) (s1 : ByteArray) (h : Heap) (Q : Option Addr → Heap → Prop) : Prop :=
 ∀ k3 : Nat, h k3 = none → B k3 = none → ∀ h4 : Heap, h4 = Heap.set h k3 (.vec 137 (plains [(Value.string s1), (Value.bool false)]) 2) →
 Fin B h4 (Q (some ⟨k3, 0, none⟩))
def S_countermandref01_Taken_J2 (B : RO) (s1 : ByteArray) (i4 : Int) (i14 : Int) (h15 : Heap) (Q : Int → Int → Heap → Prop) : Prop :=
 0 ≤ (0 : Int) ∧ (0 : Int) ≤ (i4 : Int) ∧ (i4 : Int) ≤ (ByteArray.size s1 : Nat) ∧
 C_countermandref01_Wide B (i14) h15 (fun s24 h23 =>
 (s24 = (ByteArray.extract s1 (Int.toNat (0)) (Int.toNat (i4))) →
 Fin B h23 (Q (i14) (i4))) ∧ (¬ (s24 = (ByteArray.extract s1 (Int.toNat (0)) (Int.toNat (i4)))) →
 Fin B h23 (Q (0) (0))))
def S_countermandref01_Taken_J1 (B : RO) (s1 : ByteArray) (i4 : Int) (m6 : Nat) (J9 : Int → Nat → Heap → Prop) (h11 : Heap) (Q : Int → Int → Heap → Prop) : Prop :=
 0 ≤ (IntKind.wrap .i64 ((i4) - (1)) : Int) ∧ (IntKind.wrap .i64 ((i4) - (1)) : Int) < (ByteArray.size s1 : Nat) ∧
 ((byteAt s1 (Int.toNat (IntKind.wrap .i64 ((i4) - (1)))) : Int) > (127) →
 Fin B h11 (fun h' => ∃ m', m' < m6 ∧ J9 (IntKind.wrap .i64 ((i4) + (1))) m' h')) ∧ (¬ ((byteAt s1 (Int.toNat (IntKind.wrap .i64 ((i4) - (1)))) : Int) > (127)) →
 ∃ (J32 : Int → Int → Nat → Heap → Prop) (m30 : Nat), Fin B h11 (J32 (0) (IntKind.wrap .i64 ((i4) - (1))) m30) ∧
 ∀ (i26 : Int) (i27 : Int) (m29 : Nat) (h28 : Heap), J32 i26 i27 m29 h28 →
 ((i27 : Int) ≥ (0) →
 0 ≤ (i27 : Int) ∧ (i27 : Int) < (ByteArray.size s1 : Nat) ∧
 ¬ ((128 : Int) = 0) ∧
 Fin B h28 (fun h' => ∃ m', m' < m29 ∧ J32 (IntKind.wrap .u64 ((IntKind.wrap .u64 ((i26) * (128))) + (Int.tmod (IntKind.wrap .u64 (byteAt s1 (Int.toNat (i27)))) (128)))) (IntKind.wrap .i64 ((i27) - (1))) m' h')) ∧ (¬ ((i27 : Int) ≥ (0)) →
 Fin B h28 (fun h' => S_countermandref01_Taken_J2 B s1 i4 (i26) h' Q)))
def S_countermandref01_Taken (B : RO) (s1 : ByteArray) (h : Heap) (Q : Int → Int → Heap → Prop) : Prop :=
 ∃ (J9 : Int → Nat → Heap → Prop) (m7 : Nat), Fin B h (J9 (1) m7) ∧
 ∀ (i4 : Int) (m6 : Nat) (h5 : Heap), J9 i4 m6 h5 →
 ((i4 : Int) ≤ (10) →
 ((i4 : Int) ≤ ((ByteArray.size s1 : Nat)) →
 Fin B h5 (fun h' => S_countermandref01_Taken_J1 B s1 i4 m6 J9 h' Q)) ∧ (¬ ((i4 : Int) ≤ ((ByteArray.size s1 : Nat))) →
 Fin B h5 (Q (0) (0)))) ∧ (¬ ((i4 : Int) ≤ (10)) →
 Fin B h5 (Q (0) (0)))
def S_stylus_Reader_Nat (B : RO) (p1 : Option Addr) (i2 : Int) (h : Heap) (Q : Int → Heap → Prop) : Prop :=
 C_stylus_Reader_word B p1 h (fun i5 h4 =>
 ((i2 : Int) < (0) →
 C_stylus_Reader_Spoil B p1 h4 (fun h7 =>
 Fin B h7 (Q (0)))) ∧ (¬ ((i2 : Int) < (0)) →
 ((i5 : Int) > (IntKind.wrap .u64 (i2)) →
 C_stylus_Reader_Spoil B p1 h4 (fun h9 =>
 Fin B h9 (Q (0)))) ∧ (¬ ((i5 : Int) > (IntKind.wrap .u64 (i2))) →
 Fin B h4 (Q (IntKind.wrap .i64 (i5))))))
def S_stylus_Reader_Raw_J1 (B : RO) (p1 : Option Addr) (i2 : Int) (h5 : Heap) (Q : ByteArray → Heap → Prop) : Prop :=
 ∃ A6 : Addr, p1 = some A6 ∧
 ∃ s8 : ByteArray, cellH B h5 A6 = some (Value.string s8) ∧
 0 ≤ (0 : Int) ∧ (0 : Int) ≤ (i2 : Int) ∧ (i2 : Int) ≤ (ByteArray.size s8 : Nat) ∧
 ∃ A9 : Addr, p1 = some A9 ∧
 ∃ s11 : ByteArray, cellH B h5 A9 = some (Value.string s11) ∧
 0 ≤ (i2 : Int) ∧ (i2 : Int) ≤ ((ByteArray.size s11 : Nat) : Int) ∧ ((ByteArray.size s11 : Nat) : Int) ≤ (ByteArray.size s11 : Nat) ∧
 ∃ A12 : Addr, p1 = some A12 ∧
 ∃ h14 : Heap, storeH h5 A12 (Value.string (ByteArray.extract s11 (Int.toNat (i2)) (Int.toNat ((ByteArray.size s11 : Nat))))) = some h14 ∧
 Fin B h14 (Q (ByteArray.extract s8 (Int.toNat (0)) (Int.toNat (i2))))
def S_stylus_Reader_Raw (B : RO) (p1 : Option Addr) (i2 : Int) (h : Heap) (Q : ByteArray → Heap → Prop) : Prop :=
 (p1 = none →
 C_stylus_Reader_Spoil B p1 h (fun h16 =>
 Fin B h16 (Q (ByteArray.mk #[])))) ∧ (¬ (p1 = none) →
 ∃ A17 : Addr, p1 = some A17 ∧
 ∃ b19 : Bool, cellH B h (Addr.add A17 1) = some (Value.bool b19) ∧ (b19 = true →
 C_stylus_Reader_Spoil B p1 h (fun h27 =>
 Fin B h27 (Q (ByteArray.mk #[])))) ∧ (b19 = false →
 ((i2 : Int) < (0) →
 C_stylus_Reader_Spoil B p1 h (fun h21 =>
 Fin B h21 (Q (ByteArray.mk #[])))) ∧ (¬ ((i2 : Int) < (0)) →
 ∃ A22 : Addr, p1 = some A22 ∧
 ∃ s24 : ByteArray, cellH B h A22 = some (Value.string s24) ∧
 ((i2 : Int) > ((ByteArray.size s24 : Nat)) →
 C_stylus_Reader_Spoil B p1 h (fun h26 =>
 Fin B h26 (Q (ByteArray.mk #[])))) ∧ (¬ ((i2 : Int) > ((ByteArray.size s24 : Nat))) →
 Fin B h (fun h' => S_stylus_Reader_Raw_J1 B p1 i2 h' Q)))))
def S_stylus_Reader_Text (B : RO) (p1 : Option Addr) (i2 : Int) (h : Heap) (Q : ByteArray → Heap → Prop) : Prop :=
 C_stylus_Reader_Nat B p1 (i2) h (fun i5 h4 =>
 C_stylus_Reader_Raw B p1 (i5) h4 (fun s7 h6 =>
 Fin B h6 (Q s7)))
def S_stylus_Reader_Bad (B : RO) (p1 : Option Addr) (h : Heap) (Q : Bool → Heap → Prop) : Prop :=
 (p1 = none →
 Fin B h (Q (true))) ∧ (¬ (p1 = none) →
 ∃ A4 : Addr, p1 = some A4 ∧
 ∃ b6 : Bool, cellH B h (Addr.add A4 1) = some (Value.bool b6) ∧
 Fin B h (Q (b6)))
def S_stylus_Reader_Left (B : RO) (p1 : Option Addr) (h : Heap) (Q : Int → Heap → Prop) : Prop :=
 (p1 = none →
 Fin B h (Q (0))) ∧ (¬ (p1 = none) →
 ∃ A4 : Addr, p1 = some A4 ∧
 ∃ s6 : ByteArray, cellH B h A4 = some (Value.string s6) ∧
 Fin B h (Q ((ByteArray.size s6 : Nat))))
def S_stylus_Reader_Spoil (B : RO) (p1 : Option Addr) (h : Heap) (Q : Heap → Prop) : Prop :=
 (p1 = none →
 Fin B h (Q)) ∧ (¬ (p1 = none) →
 ∃ A3 : Addr, p1 = some A3 ∧
 ∃ h5 : Heap, storeH h A3 (Value.string (ByteArray.mk #[])) = some h5 ∧
 ∃ A6 : Addr, p1 = some A6 ∧
 ∃ h8 : Heap, storeH h5 (Addr.add A6 1) (Value.bool true) = some h8 ∧
 Fin B h8 (Q))
def S_stylus_Stylus_Text (B : RO) (p1 : Option Addr) (a2 : Option Addr) (n3 : Nat) (c4 : Nat) (h : Heap) (Q : Heap → Prop) : Prop :=
 ∃ (J10 : Int → Nat → Heap → Prop) (m8 : Nat), Fin B h (J10 (0) m8) ∧
 ∀ (i5 : Int) (m7 : Nat) (h6 : Heap), J10 i5 m7 h6 →
 ((i5 : Int) < ((n3 : Nat)) →
 ∃ A12 : Addr, a2 = some A12 ∧ 0 ≤ (i5 : Int) ∧ (i5 : Int) < (n3 : Nat) ∧
 ∃ s14 : ByteArray, cellH B h6 (Addr.add A12 (Int.toNat (i5) * 1)) = some (Value.string s14) ∧
 ∀ k15 : Nat, h6 k15 = none → B k15 = none → ∀ h16 : Heap, h16 = Heap.set h6 k15 (.vec 3 (plains [(Value.int .i64 ((ByteArray.size s14 : Nat)))]) 1) →
 C_stylus_Stylus_Nat B p1 (some ⟨k15, 0, none⟩) 1 1 h16 (fun h17 =>
 C_stylus_Stylus_Raw B p1 s14 h17 (fun h18 =>
 Fin B h18 (fun h' => ∃ m', m' < m7 ∧ J10 (IntKind.wrap .i64 ((i5) + (1))) m' h')))) ∧ (¬ ((i5 : Int) < ((n3 : Nat))) →
 Fin B h6 (Q))
def S_stylus_Stylus_Bytes (B : RO) (p1 : Option Addr) (h : Heap) (Q : ByteArray → Heap → Prop) : Prop :=
 ∃ A3 : Addr, p1 = some A3 ∧
 LdSl B h A3 fun a5 n6 c7 h8 =>
 semH PG B (convert 38 9 (Value.slice a5 n6 c7)) h8 (fun v h10 => ∃ s9 : ByteArray, v = (Value.string s9) ∧
 Fin B h10 (Q s9))
def S_countermandlaw10_alive (B : RO) (h : Heap) (Q : Bool → Heap → Prop) : Prop :=
 C_tome_New B h (fun p3 h2 =>
 C_tome_Tome_Set B p3 (2) (true) (ByteArray.mk #[97, 98]) (1) h2 (fun b5 h4 =>
 (b5 = true →
 C_tome_Tome_Bytes B p3 h4 (fun s7 h6 =>
 Fin B h6 (Q ((decide (s7 = (ByteArray.mk #[2, 2, 97, 98]))))))) ∧ (b5 = false →
 Fin B h4 (Q (false)))))
def S_countermandlaw10_great (B : RO) (a1 : Option Addr) (n2 : Nat) (c3 : Nat) (h : Heap) (Q : Bool → Heap → Prop) : Prop :=
 (((n2 : Nat) : Int) > (40) →
 Fin B h (Q (true))) ∧ (¬ (((n2 : Nat) : Int) > (40)) →
 ∃ (J11 : Int → Nat → Heap → Prop) (m9 : Nat), Fin B h (J11 (0) m9) ∧
 ∀ (i6 : Int) (m8 : Nat) (h7 : Heap), J11 i6 m8 h7 →
 ((i6 : Int) < ((n2 : Nat)) →
 ∃ A13 : Addr, a1 = some A13 ∧ 0 ≤ (i6 : Int) ∧ (i6 : Int) < (n2 : Nat) ∧
 ∃ i15 : Int, ∃ b16 : Bool, ∃ s17 : ByteArray, ∃ i18 : Int, CellsAt B h7 (Addr.add A13 (Int.toNat (i6) * 4)) 0 [(Value.int .i64 (i15)), (Value.bool b16), (Value.string s17), (Value.int .i64 (i18))] ∧
 ∀ k19 : Nat, h7 k19 = none → B k19 = none → ∀ h20 : Heap, h20 = Heap.set h7 k19 (.vec 56 (plains [(Value.int .i64 (0)), (Value.bool false), (Value.string ByteArray.empty), (Value.int .i64 (0))]) 4) →
 ∃ h21 : Heap, StoresAt ⟨k19, 0, none⟩ h20 0 [(Value.int .i64 (i15)), (Value.bool b16), (Value.string s17), (Value.int .i64 (i18))] h21 ∧
 ∃ s22 : ByteArray, cellH B h21 ⟨k19, 2, none⟩ = some (Value.string s22) ∧
 (((ByteArray.size s22 : Nat) : Int) > (100) →
 Fin B h21 (Q (true))) ∧ (¬ (((ByteArray.size s22 : Nat) : Int) > (100)) →
 Fin B h21 (fun h' => ∃ m', m' < m8 ∧ J11 (IntKind.wrap .i64 ((i6) + (1))) m' h'))) ∧ (¬ ((i6 : Int) < ((n2 : Nat))) →
 Fin B h7 (Q (false))))
def S_tome_New (B : RO) (h : Heap) (Q : Option Addr → Heap → Prop) : Prop :=
 C_cell_New_file_File B (6) (false) ByteArray.empty h (fun p3 h2 =>
 ∀ k4 : Nat, h2 k4 = none → B k4 = none → ∀ h5 : Heap, h5 = Heap.set h2 k4 (.vec 145 (plains [(Value.pointer p3)]) 1) →
 Fin B h5 (Q (some ⟨k4, 0, none⟩)))
def S_tome_Tome_Set (B : RO) (p1 : Option Addr) (i2 : Int) (b3 : Bool) (s4 : ByteArray) (i5 : Int) (h : Heap) (Q : Bool → Heap → Prop) : Prop :=
 ∀ k7 : Nat, h k7 = none → B k7 = none → ∀ h8 : Heap, h8 = Heap.set h k7 (.vec 54 (plains [(Value.bool b3), (Value.string s4)]) 2) →
 (p1 = none →
 (Fin B h8 (Q (false))) ∧
 (Fin B h8 (Q (false)))) ∧ (¬ (p1 = none) →
 ∃ b15 : Bool, ∃ s16 : ByteArray, CellsAt B h8 ⟨k7, 0, none⟩ 0 [(Value.bool b15), (Value.string s16)] ∧
 C_file_Good B (b15) s16 h8 (fun b19 h18 =>
 (b19 = true →
 CellsAt B h18 ⟨k7, 0, none⟩ 0 [(Value.bool b15), (Value.string s16)] ∧
 ∃ A22 : Addr, p1 = some A22 ∧
 (∃ p24 : Option Addr, cellH B h18 A22 = some (Value.pointer p24) ∧
 ∃ b25 : Bool, ∃ s26 : ByteArray, CellsAt B h18 ⟨k7, 0, none⟩ 0 [(Value.bool b25), (Value.string s26)] ∧
 C_cell_Row_file_File_Set B p24 (i2) (b25) s26 (i5) h18 (fun b28 h27 =>
 CellsAt B h27 ⟨k7, 0, none⟩ 0 [(Value.bool b15), (Value.string s16)] ∧
 Fin B h27 (Q (b28)))) ∧
 (∃ b30 : Bool, ∃ s31 : ByteArray, CellsAt B h18 ⟨k7, 0, none⟩ 0 [(Value.bool b30), (Value.string s31)] ∧
 ∃ p32 : Option Addr, cellH B h18 A22 = some (Value.pointer p32) ∧
 C_cell_Row_file_File_Set B p32 (i2) (b30) s31 (i5) h18 (fun b34 h33 =>
 CellsAt B h33 ⟨k7, 0, none⟩ 0 [(Value.bool b15), (Value.string s16)] ∧
 Fin B h33 (Q (b34))))) ∧ (b19 = false →
 CellsAt B h18 ⟨k7, 0, none⟩ 0 [(Value.bool b15), (Value.string s16)] ∧
 (Fin B h18 (Q (false))) ∧
 (Fin B h18 (Q (false))))))
def S_tome_Same (B : RO) (p1 : Option Addr) (p2 : Option Addr) (h : Heap) (Q : Bool → Heap → Prop) : Prop :=
 C_tome_Tome_Bytes B p1 h (fun s5 h4 =>
 C_tome_Tome_Bytes B p2 h4 (fun s7 h6 =>
 Fin B h6 (Q ((decide (s5 = s7))))))
def S_tome_Tome_Bytes (B : RO) (p1 : Option Addr) (h : Heap) (Q : ByteArray → Heap → Prop) : Prop :=
 ∀ k3 : Nat, h k3 = none → B k3 = none → ∀ h4 : Heap, h4 = Heap.set h k3 (.vec 40 (plains [(Value.slice none 0 0)]) 1) →
 ∀ k5 : Nat, h4 k5 = none → B k5 = none → ∀ h6 : Heap, h6 = Heap.set h4 k5 (.vec 37 (plains [(Value.pointer none)]) 1) →
 ∃ h7 : Heap, storeH h6 ⟨k5, 0, none⟩ (Value.pointer (some ⟨k3, 0, none⟩)) = some h7 ∧
 C_tome_Tome_All B p1 h7 (fun v9 h8 =>
 ∃ (xs17 : List (Int × Bool × ByteArray)) (G13 : Heap → Prop) (J16 : Nat → Heap → Prop), Iter PG B v9 (xs17.map (fun x : Int × Bool × ByteArray => [(Value.int .i64 (x.1)), (Value.agg #[(Value.bool x.2.1), (Value.string x.2.2)])])) G13 ∧ Ins G13 ∧ (∀ i h, J16 i h → G13 h) ∧ Fin B h8 (J16 0) ∧
 (∀ (q15 : Nat) (h14 : Heap) (i10 : Int) (b11 : Bool) (s12 : ByteArray), xs17[q15]? = some (i10, b11, s12) → J16 q15 h14 →
 ∀ k18 : Nat, h14 k18 = none → B k18 = none → ∀ h19 : Heap, h19 = Heap.set h14 k18 (.vec 54 (plains [(Value.bool false), (Value.string ByteArray.empty)]) 2) →
 ∃ h20 : Heap, StoresAt ⟨k18, 0, none⟩ h19 0 [(Value.bool b11), (Value.string s12)] h20 ∧
 ∃ p21 : Option Addr, cellH B h20 ⟨k5, 0, none⟩ = some (Value.pointer p21) ∧
 ∀ k22 : Nat, h20 k22 = none → B k22 = none → ∀ h23 : Heap, h23 = Heap.set h20 k22 (.vec 3 (plains [(Value.int .i64 (i10))]) 1) →
 C_stylus_Stylus_Nat B p21 (some ⟨k22, 0, none⟩) 1 1 h23 (fun h24 =>
 ∃ p25 : Option Addr, cellH B h24 ⟨k5, 0, none⟩ = some (Value.pointer p25) ∧
 ∃ s26 : ByteArray, cellH B h24 ⟨k18, 1, none⟩ = some (Value.string s26) ∧
 ∀ k27 : Nat, h24 k27 = none → B k27 = none → ∀ h28 : Heap, h28 = Heap.set h24 k27 (.vec 9 (plains [(Value.string s26)]) 1) →
 C_stylus_Stylus_Text B p25 (some ⟨k27, 0, none⟩) 1 1 h28 (fun h29 =>
 Fin B h29 (J16 (q15 + 1))))) ∧
 (∀ (h14 : Heap), J16 xs17.length h14 →
 ∃ p30 : Option Addr, cellH B h14 ⟨k5, 0, none⟩ = some (Value.pointer p30) ∧
 C_stylus_Stylus_Bytes B p30 h14 (fun s32 h31 =>
 Fin B h31 (Q s32))))
def S_countermandref10_Tome_Set_J1 (B : RO) (p1 : Option Addr) (i2 : Int) (i5 : Int) (k7 : Nat) (h10 : Heap) (Q : Bool → Heap → Prop) : Prop :=
 ∃ b11 : Bool, ∃ s12 : ByteArray, CellsAt B h10 ⟨k7, 0, none⟩ 0 [(Value.bool b11), (Value.string s12)] ∧
 ∃ A13 : Addr, p1 = some A13 ∧
 0 ≤ (i2 : Int) ∧ (i2 : Int) < (6 : Nat) ∧
 ∃ h15 : Heap, StoresAt (Addr.add A13 (Int.toNat (i2) * 2)) h10 0 [(Value.bool b11), (Value.string s12)] h15 ∧
 ∃ A16 : Addr, p1 = some A16 ∧
 0 ≤ (i2 : Int) ∧ (i2 : Int) < (6 : Nat) ∧
 ∃ h18 : Heap, storeH h15 (Addr.add (Addr.add A16 12) (Int.toNat (i2) * 1)) (Value.int .i64 (i5)) = some h18 ∧
 Fin B h18 (Q (true))
def S_countermandref10_Tome_Set (B : RO) (p1 : Option Addr) (i2 : Int) (b3 : Bool) (s4 : ByteArray) (i5 : Int) (h : Heap) (Q : Bool → Heap → Prop) : Prop :=
 ∀ k7 : Nat, h k7 = none → B k7 = none → ∀ h8 : Heap, h8 = Heap.set h k7 (.vec 63 (plains [(Value.bool b3), (Value.string s4)]) 2) →
 ((i2 : Int) < (0) →
 Fin B h8 (Q (false))) ∧ (¬ ((i2 : Int) < (0)) →
 ((i2 : Int) > (5) →
 Fin B h8 (Q (false))) ∧ (¬ ((i2 : Int) > (5)) →
 ∃ s21 : ByteArray, cellH B h8 ⟨k7, 1, none⟩ = some (Value.string s21) ∧
 (((ByteArray.size s21 : Nat) : Int) > (32) →
 Fin B h8 (Q (false))) ∧ (¬ (((ByteArray.size s21 : Nat) : Int) > (32)) →
 ∃ b23 : Bool, cellH B h8 ⟨k7, 0, none⟩ = some (Value.bool b23) ∧ (b23 = true →
 Fin B h8 (fun h' => S_countermandref10_Tome_Set_J1 B p1 i2 i5 k7 h' Q)) ∧ (b23 = false →
 ∃ s24 : ByteArray, cellH B h8 ⟨k7, 1, none⟩ = some (Value.string s24) ∧
 (s24 = (ByteArray.mk #[]) →
 Fin B h8 (fun h' => S_countermandref10_Tome_Set_J1 B p1 i2 i5 k7 h' Q)) ∧ (¬ (s24 = (ByteArray.mk #[])) →
 Fin B h8 (Q (false)))))))
def S_tome_Tome_Get (B : RO) (p1 : Option Addr) (i2 : Int) (h : Heap) (Q : Bool → ByteArray → Int → Heap → Prop) : Prop :=
 ∀ k6 : Nat, h k6 = none → B k6 = none → ∀ h7 : Heap, h7 = Heap.set h k6 (.vec 54 (plains [(Value.bool false), (Value.string ByteArray.empty)]) 2) →
 (p1 = none →
 ∃ h9 : Heap, StoresAt ⟨k6, 0, none⟩ h7 0 [(Value.bool false), (Value.string ByteArray.empty)] h9 ∧
 ∃ b10 : Bool, ∃ s11 : ByteArray, CellsAt B h9 ⟨k6, 0, none⟩ 0 [(Value.bool b10), (Value.string s11)] ∧ Fin B h9 (Q (b10) s11 (0))) ∧ (¬ (p1 = none) →
 ∃ A12 : Addr, p1 = some A12 ∧
 ∃ p14 : Option Addr, cellH B h7 A12 = some (Value.pointer p14) ∧
 C_cell_Row_file_File_Get B p14 (i2) h7 (fun b16 s17 i18 h15 =>
 ∃ h19 : Heap, StoresAt ⟨k6, 0, none⟩ h15 0 [(Value.bool b16), (Value.string s17)] h19 ∧
 ∃ b20 : Bool, ∃ s21 : ByteArray, CellsAt B h19 ⟨k6, 0, none⟩ 0 [(Value.bool b20), (Value.string s21)] ∧ Fin B h19 (Q (b20) s21 (i18))))
def S_tome_Tome_All (B : RO) (p1 : Option Addr) (h : Heap) (Q : Value → Heap → Prop) : Prop :=
 ∀ k3 : Nat, h k3 = none → B k3 = none → ∀ h4 : Heap, h4 = Heap.set h k3 (.vec 57 [.plain (Value.pointer p1)] 1) →
 Fin B h4 (Q (Value.func (.func 82) #[] #[(Value.pointer (some ⟨k3, 0, none⟩))]))
def S_countermandref10_Bytes (B : RO) (l1 : List Value) (h : Heap) (Q : ByteArray → Heap → Prop) : Prop :=
 ∀ k3 : Nat, h k3 = none → B k3 = none → ∀ h4 : Heap, h4 = Heap.set h k3 (.vec 64 (plains l1) (List.length l1)) →
 ∃ l5 : List Value, List.length l5 = 12 ∧ CellsAt B h4 ⟨k3, 0, none⟩ 0 l5 ∧
 ∃ (J12 : ByteArray → Int → Nat → Heap → Prop) (m10 : Nat), Fin B h4 (J12 (ByteArray.mk #[]) (0) m10) ∧
 ∀ (s6 : ByteArray) (i7 : Int) (m9 : Nat) (h8 : Heap), J12 s6 i7 m9 h8 →
 ((i7 : Int) < (6) →
 0 ≤ (i7 : Int) ∧ (i7 : Int) < (6 : Nat) ∧ ∃ b14 : Bool, ∃ s15 : ByteArray, Array.extract (List.toArray l5) (Int.toNat (i7) * 2) (Int.toNat (i7) * 2 + 2) = #[(Value.bool b14), (Value.string s15)] ∧
 ∀ k16 : Nat, h8 k16 = none → B k16 = none → ∀ h17 : Heap, h17 = Heap.set h8 k16 (.vec 63 (plains [(Value.bool false), (Value.string ByteArray.empty)]) 2) →
 ∃ h18 : Heap, StoresAt ⟨k16, 0, none⟩ h17 0 [(Value.bool b14), (Value.string s15)] h18 ∧
 ∃ b19 : Bool, cellH B h18 ⟨k16, 0, none⟩ = some (Value.bool b19) ∧ (b19 = true →
 ∃ s23 : ByteArray, cellH B h18 ⟨k16, 1, none⟩ = some (Value.string s23) ∧
 C_countermandref01_Nat B (i7) h18 (fun s26 h25 =>
 cellH B h25 ⟨k16, 1, none⟩ = some (Value.string s23) ∧
 ByteArray.size s6 + ByteArray.size s26 ≤ 4611686018427387904 ∧
 C_countermandref01_Text B s23 h25 (fun s29 h28 =>
 cellH B h28 ⟨k16, 1, none⟩ = some (Value.string s23) ∧
 ByteArray.size (s6 ++ s26) + ByteArray.size s29 ≤ 4611686018427387904 ∧
 Fin B h28 (fun h' => ∃ m', m' < m9 ∧ J12 ((s6 ++ s26) ++ s29) (IntKind.wrap .i64 ((i7) + (1))) m' h')))) ∧ (b19 = false →
 Fin B h18 (fun h' => ∃ m', m' < m9 ∧ J12 s6 (IntKind.wrap .i64 ((i7) + (1))) m' h'))) ∧ (¬ ((i7 : Int) < (6)) →
 Fin B h8 (Q s6))
def S_tome_Read_J1 (B : RO) (p5 : Option Addr) (p7 : Option Addr) (m10 : Nat) (J13 : Int → Nat → Heap → Prop) (i18 : Int) (s20 : ByteArray) (h22 : Heap) (Q : Option Addr → Bool → Heap → Prop) : Prop :=
 C_tome_Tome_Set B p5 (i18) (true) s20 (0) h22 (fun b24 h23 =>
 Fin B h23 (fun h' => ∃ m', m' < m10 ∧ J13 (i18) m' h'))
def S_tome_Read (B : RO) (s1 : ByteArray) (h : Heap) (Q : Option Addr → Bool → Heap → Prop) : Prop :=
 C_tome_New B h (fun p5 h4 =>
 C_stylus_Of B s1 h4 (fun p7 h6 =>
 ∃ (J13 : Int → Nat → Heap → Prop) (m11 : Nat), Fin B h6 (J13 ((-1)) m11) ∧
 ∀ (i8 : Int) (m10 : Nat) (h9 : Heap), J13 i8 m10 h9 →
 C_stylus_Reader_Left B p7 h9 (fun i15 h14 =>
 ((i15 : Int) > (0) →
 C_stylus_Reader_Nat B p7 (5) h14 (fun i18 h17 =>
 C_stylus_Reader_Text B p7 (32) h17 (fun s20 h19 =>
 C_stylus_Reader_Bad B p7 h19 (fun b26 h25 =>
 (b26 = true →
 Fin B h25 (Q none (false))) ∧ (b26 = false →
 ((i18 : Int) ≤ (i8) →
 Fin B h25 (Q none (false))) ∧ (¬ ((i18 : Int) ≤ (i8)) →
 Fin B h25 (fun h' => S_tome_Read_J1 B p5 p7 m10 J13 i18 s20 h' Q))))))) ∧ (¬ ((i15 : Int) > (0)) →
 Fin B h14 (Q p5 (true))))))
def S_countermandref10_Read_J3 (B : RO) (k4 : Nat) (k6 : Nat) (s8 : ByteArray) (m10 : Nat) (J13 : ByteArray → Nat → Heap → Prop) (i16 : Int) (i17 : Int) (i21 : Int) (i22 : Int) (h26 : Heap) (Q : List Value → Bool → Heap → Prop) : Prop :=
 0 ≤ (i22 : Int) ∧ (i22 : Int) ≤ (IntKind.wrap .i64 ((i22) + (IntKind.wrap .i64 (i21))) : Int) ∧ (IntKind.wrap .i64 ((i22) + (IntKind.wrap .i64 (i21))) : Int) ≤ (ByteArray.size (ByteArray.extract s8 (Int.toNat (i17)) (Int.toNat ((ByteArray.size s8 : Nat)))) : Nat) ∧
 0 ≤ (i16 : Int) ∧ (i16 : Int) < (6 : Nat) ∧
 ∃ h27 : Heap, StoresAt (Addr.add ⟨k6, 0, none⟩ (Int.toNat (i16) * 2)) h26 0 [(Value.bool true), (Value.string (ByteArray.extract (ByteArray.extract s8 (Int.toNat (i17)) (Int.toNat ((ByteArray.size s8 : Nat)))) (Int.toNat (i22)) (Int.toNat (IntKind.wrap .i64 ((i22) + (IntKind.wrap .i64 (i21)))))))] h27 ∧
 0 ≤ (IntKind.wrap .i64 ((i22) + (IntKind.wrap .i64 (i21))) : Int) ∧ (IntKind.wrap .i64 ((i22) + (IntKind.wrap .i64 (i21))) : Int) ≤ ((ByteArray.size (ByteArray.extract s8 (Int.toNat (i17)) (Int.toNat ((ByteArray.size s8 : Nat)))) : Nat) : Int) ∧ ((ByteArray.size (ByteArray.extract s8 (Int.toNat (i17)) (Int.toNat ((ByteArray.size s8 : Nat)))) : Nat) : Int) ≤ (ByteArray.size (ByteArray.extract s8 (Int.toNat (i17)) (Int.toNat ((ByteArray.size s8 : Nat)))) : Nat) ∧
 Fin B h27 (fun h' => ∃ m', m' < m10 ∧ J13 (ByteArray.extract (ByteArray.extract s8 (Int.toNat (i17)) (Int.toNat ((ByteArray.size s8 : Nat)))) (Int.toNat (IntKind.wrap .i64 ((i22) + (IntKind.wrap .i64 (i21))))) (Int.toNat ((ByteArray.size (ByteArray.extract s8 (Int.toNat (i17)) (Int.toNat ((ByteArray.size s8 : Nat)))) : Nat)))) m' h')
def S_countermandref10_Read_J2 (B : RO) (k4 : Nat) (k6 : Nat) (s8 : ByteArray) (m10 : Nat) (J13 : ByteArray → Nat → Heap → Prop) (i16 : Int) (i17 : Int) (i21 : Int) (i22 : Int) (h24 : Heap) (Q : List Value → Bool → Heap → Prop) : Prop :=
 0 ≤ (i16 : Int) ∧ (i16 : Int) ≤ ((6 : Nat) : Int) ∧ ((6 : Nat) : Int) ≤ (6 : Nat) ∧
 ∃ (J33 : Int → Nat → Heap → Prop) (m31 : Nat), Fin B h24 (J33 (0) m31) ∧
 ∀ (i28 : Int) (m30 : Nat) (h29 : Heap), J33 i28 m30 h29 →
 ((i28 : Int) < (((Int.toNat ((6 : Nat)) - Int.toNat (i16)) : Nat)) →
 ∃ A35 : Addr, (some (if 6 = Int.toNat (i16) then ⟨k6, 0, none⟩ else Addr.add ⟨k6, 0, none⟩ (Int.toNat (i16) * 2))) = some A35 ∧ 0 ≤ (i28 : Int) ∧ (i28 : Int) < ((Int.toNat ((6 : Nat)) - Int.toNat (i16)) : Nat) ∧
 ∃ b37 : Bool, ∃ s38 : ByteArray, CellsAt B h29 (Addr.add A35 (Int.toNat (i28) * 2)) 0 [(Value.bool b37), (Value.string s38)] ∧
 ∀ k39 : Nat, h29 k39 = none → B k39 = none → ∀ h40 : Heap, h40 = Heap.set h29 k39 (.vec 63 (plains [(Value.bool false), (Value.string ByteArray.empty)]) 2) →
 ∃ h41 : Heap, StoresAt ⟨k39, 0, none⟩ h40 0 [(Value.bool b37), (Value.string s38)] h41 ∧
 ∃ b42 : Bool, cellH B h41 ⟨k39, 0, none⟩ = some (Value.bool b42) ∧ (b42 = true →
 ∃ h43 : Heap, StoresAt ⟨k4, 0, none⟩ h41 0 [(Value.bool false), (Value.string ByteArray.empty), (Value.bool false), (Value.string ByteArray.empty), (Value.bool false), (Value.string ByteArray.empty), (Value.bool false), (Value.string ByteArray.empty), (Value.bool false), (Value.string ByteArray.empty), (Value.bool false), (Value.string ByteArray.empty)] h43 ∧
 ∃ l44 : List Value, List.length l44 = 12 ∧ CellsAt B h43 ⟨k4, 0, none⟩ 0 l44 ∧ Fin B h43 (Q l44 (false))) ∧ (b42 = false →
 Fin B h41 (fun h' => ∃ m', m' < m30 ∧ J33 (IntKind.wrap .i64 ((i28) + (1))) m' h'))) ∧ (¬ ((i28 : Int) < (((Int.toNat ((6 : Nat)) - Int.toNat (i16)) : Nat))) →
 Fin B h29 (fun h' => S_countermandref10_Read_J3 B k4 k6 s8 m10 J13 i16 i17 i21 i22 h' Q))
def S_countermandref10_Read_J1 (B : RO) (k4 : Nat) (k6 : Nat) (s8 : ByteArray) (m10 : Nat) (J13 : ByteArray → Nat → Heap → Prop) (i16 : Int) (i17 : Int) (h19 : Heap) (Q : List Value → Bool → Heap → Prop) : Prop :=
 0 ≤ (i17 : Int) ∧ (i17 : Int) ≤ ((ByteArray.size s8 : Nat) : Int) ∧ ((ByteArray.size s8 : Nat) : Int) ≤ (ByteArray.size s8 : Nat) ∧
 C_countermandref01_Taken B (ByteArray.extract s8 (Int.toNat (i17)) (Int.toNat ((ByteArray.size s8 : Nat)))) h19 (fun i21 i22 h20 =>
 ((i22 : Int) = 0 →
 ∃ h46 : Heap, StoresAt ⟨k4, 0, none⟩ h20 0 [(Value.bool false), (Value.string ByteArray.empty), (Value.bool false), (Value.string ByteArray.empty), (Value.bool false), (Value.string ByteArray.empty), (Value.bool false), (Value.string ByteArray.empty), (Value.bool false), (Value.string ByteArray.empty), (Value.bool false), (Value.string ByteArray.empty)] h46 ∧
 ∃ l47 : List Value, List.length l47 = 12 ∧ CellsAt B h46 ⟨k4, 0, none⟩ 0 l47 ∧ Fin B h46 (Q l47 (false))) ∧ (¬ ((i22 : Int) = 0) →
 ((i21 : Int) > (32) →
 ∃ h49 : Heap, StoresAt ⟨k4, 0, none⟩ h20 0 [(Value.bool false), (Value.string ByteArray.empty), (Value.bool false), (Value.string ByteArray.empty), (Value.bool false), (Value.string ByteArray.empty), (Value.bool false), (Value.string ByteArray.empty), (Value.bool false), (Value.string ByteArray.empty), (Value.bool false), (Value.string ByteArray.empty)] h49 ∧
 ∃ l50 : List Value, List.length l50 = 12 ∧ CellsAt B h49 ⟨k4, 0, none⟩ 0 l50 ∧ Fin B h49 (Q l50 (false))) ∧ (¬ ((i21 : Int) > (32)) →
 ((IntKind.wrap .u64 (IntKind.wrap .i64 (((ByteArray.size (ByteArray.extract s8 (Int.toNat (i17)) (Int.toNat ((ByteArray.size s8 : Nat)))) : Nat)) - (i22))) : Int) < (i21) →
 ∃ h52 : Heap, StoresAt ⟨k4, 0, none⟩ h20 0 [(Value.bool false), (Value.string ByteArray.empty), (Value.bool false), (Value.string ByteArray.empty), (Value.bool false), (Value.string ByteArray.empty), (Value.bool false), (Value.string ByteArray.empty), (Value.bool false), (Value.string ByteArray.empty), (Value.bool false), (Value.string ByteArray.empty)] h52 ∧
 ∃ l53 : List Value, List.length l53 = 12 ∧ CellsAt B h52 ⟨k4, 0, none⟩ 0 l53 ∧ Fin B h52 (Q l53 (false))) ∧ (¬ ((IntKind.wrap .u64 (IntKind.wrap .i64 (((ByteArray.size (ByteArray.extract s8 (Int.toNat (i17)) (Int.toNat ((ByteArray.size s8 : Nat)))) : Nat)) - (i22))) : Int) < (i21)) →
 Fin B h20 (fun h' => S_countermandref10_Read_J2 B k4 k6 s8 m10 J13 i16 i17 i21 i22 h' Q)))))
def S_countermandref10_Read (B : RO) (s1 : ByteArray) (h : Heap) (Q : List Value → Bool → Heap → Prop) : Prop :=
 ∀ k4 : Nat, h k4 = none → B k4 = none → ∀ h5 : Heap, h5 = Heap.set h k4 (.vec 64 (plains [(Value.bool false), (Value.string ByteArray.empty), (Value.bool false), (Value.string ByteArray.empty), (Value.bool false), (Value.string ByteArray.empty), (Value.bool false), (Value.string ByteArray.empty), (Value.bool false), (Value.string ByteArray.empty), (Value.bool false), (Value.string ByteArray.empty)]) 12) →
 ∀ k6 : Nat, h5 k6 = none → B k6 = none → ∀ h7 : Heap, h7 = Heap.set h5 k6 (.vec 64 (plains [(Value.bool false), (Value.string ByteArray.empty), (Value.bool false), (Value.string ByteArray.empty), (Value.bool false), (Value.string ByteArray.empty), (Value.bool false), (Value.string ByteArray.empty), (Value.bool false), (Value.string ByteArray.empty), (Value.bool false), (Value.string ByteArray.empty)]) 12) →
 ∃ (J13 : ByteArray → Nat → Heap → Prop) (m11 : Nat), Fin B h7 (J13 s1 m11) ∧
 ∀ (s8 : ByteArray) (m10 : Nat) (h9 : Heap), J13 s8 m10 h9 →
 (((ByteArray.size s8 : Nat) : Int) > (0) →
 C_countermandref01_Taken B s8 h9 (fun i16 i17 h15 =>
 ((i17 : Int) = 0 →
 ∃ h55 : Heap, StoresAt ⟨k4, 0, none⟩ h15 0 [(Value.bool false), (Value.string ByteArray.empty), (Value.bool false), (Value.string ByteArray.empty), (Value.bool false), (Value.string ByteArray.empty), (Value.bool false), (Value.string ByteArray.empty), (Value.bool false), (Value.string ByteArray.empty), (Value.bool false), (Value.string ByteArray.empty)] h55 ∧
 ∃ l56 : List Value, List.length l56 = 12 ∧ CellsAt B h55 ⟨k4, 0, none⟩ 0 l56 ∧ Fin B h55 (Q l56 (false))) ∧ (¬ ((i17 : Int) = 0) →
 ((i16 : Int) > (5) →
 ∃ h58 : Heap, StoresAt ⟨k4, 0, none⟩ h15 0 [(Value.bool false), (Value.string ByteArray.empty), (Value.bool false), (Value.string ByteArray.empty), (Value.bool false), (Value.string ByteArray.empty), (Value.bool false), (Value.string ByteArray.empty), (Value.bool false), (Value.string ByteArray.empty), (Value.bool false), (Value.string ByteArray.empty)] h58 ∧
 ∃ l59 : List Value, List.length l59 = 12 ∧ CellsAt B h58 ⟨k4, 0, none⟩ 0 l59 ∧ Fin B h58 (Q l59 (false))) ∧ (¬ ((i16 : Int) > (5)) →
 Fin B h15 (fun h' => S_countermandref10_Read_J1 B k4 k6 s8 m10 J13 i16 i17 h' Q))))) ∧ (¬ (((ByteArray.size s8 : Nat) : Int) > (0)) →
 ∃ l60 : List Value, List.length l60 = 12 ∧ CellsAt B h9 ⟨k6, 0, none⟩ 0 l60 ∧
 List.length l60 = 12 ∧ ∃ h61 : Heap, StoresAt ⟨k4, 0, none⟩ h9 0 l60 h61 ∧
 ∃ l62 : List Value, List.length l62 = 12 ∧ CellsAt B h61 ⟨k4, 0, none⟩ 0 l62 ∧ Fin B h61 (Q l62 (true)))
def S_stylus_Stylus_Nat_J1 (B : RO) (p1 : Option Addr) (a2 : Option Addr) (n3 : Nat) (c4 : Nat) (i5 : Int) (m7 : Nat) (J10 : Int → Nat → Heap → Prop) (i17 : Int) (h18 : Heap) (Q : Heap → Prop) : Prop :=
 ∃ A19 : Addr, p1 = some A19 ∧
 LdSl B h18 A19 fun a21 n22 c23 h24 =>
 ∀ k25 : Nat, h24 k25 = none → B k25 = none → ∀ h26 : Heap, h26 = Heap.set h24 k25 (.vec 5 (plains [(Value.int .u8 (IntKind.wrap .u8 (i17)))]) 1) →
 semH PG B (Builtin.append_ #[38, 38] 38 #[(Value.slice a21 n22 c23), (Value.slice (some ⟨k25, 0, none⟩) 1 1)]) h26 (fun v h27 => ∃ a28 : Option Addr, ∃ n29 : Nat, ∃ c30 : Nat, v = (Value.slice a28 n29 c30) ∧
 ∃ A31 : Addr, p1 = some A31 ∧
 ∃ h33 : Heap, storeH h27 A31 (Value.slice a28 n29 c30) = some h33 ∧
 Fin B h33 (fun h' => ∃ m', m' < m7 ∧ J10 (IntKind.wrap .i64 ((i5) + (1))) m' h'))
def S_stylus_Stylus_Nat (B : RO) (p1 : Option Addr) (a2 : Option Addr) (n3 : Nat) (c4 : Nat) (h : Heap) (Q : Heap → Prop) : Prop :=
 ∃ (J10 : Int → Nat → Heap → Prop) (m8 : Nat), Fin B h (J10 (0) m8) ∧
 ∀ (i5 : Int) (m7 : Nat) (h6 : Heap), J10 i5 m7 h6 →
 ((i5 : Int) < ((n3 : Nat)) →
 ∃ A12 : Addr, a2 = some A12 ∧ 0 ≤ (i5 : Int) ∧ (i5 : Int) < (n3 : Nat) ∧
 ∃ i14 : Int, cellH B h6 (Addr.add A12 (Int.toNat (i5) * 1)) = some (Value.int .i64 (i14)) ∧
 ((i14 : Int) < (0) →
 Fin B h6 (fun h' => ∃ m', m' < m7 ∧ J10 (IntKind.wrap .i64 ((i5) + (1))) m' h')) ∧ (¬ ((i14 : Int) < (0)) →
 ∃ (J39 : Int → Nat → Heap → Prop) (m37 : Nat), Fin B h6 (J39 (i14) m37) ∧
 ∀ (i34 : Int) (m36 : Nat) (h35 : Heap), J39 i34 m36 h35 →
 ((i34 : Int) ≥ (128) →
 ∃ A41 : Addr, p1 = some A41 ∧
 LdSl B h35 A41 fun a43 n44 c45 h46 =>
 ∀ k47 : Nat, h46 k47 = none → B k47 = none → ∀ h48 : Heap, h48 = Heap.set h46 k47 (.vec 5 (plains [(Value.int .u8 (IntKind.wrap .u8 ((BitVec.ofInt (IntKind.bits .u8) (IntKind.wrap .u8 (i34)) ||| BitVec.ofInt (IntKind.bits .u8) (128)).toNat : Int)))]) 1) →
 semH PG B (Builtin.append_ #[38, 38] 38 #[(Value.slice a43 n44 c45), (Value.slice (some ⟨k47, 0, none⟩) 1 1)]) h48 (fun v h49 => ∃ a50 : Option Addr, ∃ n51 : Nat, ∃ c52 : Nat, v = (Value.slice a50 n51 c52) ∧
 ∃ A53 : Addr, p1 = some A53 ∧
 ∃ h55 : Heap, storeH h49 A53 (Value.slice a50 n51 c52) = some h55 ∧
 ¬ ((7 : Int) < 0) ∧
 Fin B h55 (fun h' => ∃ m', m' < m36 ∧ J39 (Int.fdiv (i34) (2 ^ (min (Int.toNat (7)) (IntKind.bits .i64)))) m' h'))) ∧ (¬ ((i34 : Int) ≥ (128)) →
 Fin B h35 (fun h' => S_stylus_Stylus_Nat_J1 B p1 a2 n3 c4 i5 m7 J10 (i34) h' Q)))) ∧ (¬ ((i5 : Int) < ((n3 : Nat))) →
 Fin B h6 (Q))
def S_countermandref01_Wide_J1 (B : RO) (i4 : Int) (s5 : ByteArray) (h6 : Heap) (Q : ByteArray → Heap → Prop) : Prop :=
 ∀ k7 : Nat, h6 k7 = none → B k7 = none → ∀ h8 : Heap, h8 = Heap.set h6 k7 (.vec 5 (plains [(Value.int .u8 (IntKind.wrap .u8 (i4)))]) 1) →
 semH PG B (convert 38 9 (Value.slice (some ⟨k7, 0, none⟩) 1 1)) h8 (fun v h10 => ∃ s9 : ByteArray, v = (Value.string s9) ∧
 ByteArray.size s5 + ByteArray.size s9 ≤ 4611686018427387904 ∧
 Fin B h10 (Q (s5 ++ s9)))
def S_countermandref01_Wide (B : RO) (i1 : Int) (h : Heap) (Q : ByteArray → Heap → Prop) : Prop :=
 ∃ (J17 : Int → ByteArray → Nat → Heap → Prop) (m15 : Nat), Fin B h (J17 (i1) (ByteArray.mk #[]) m15) ∧
 ∀ (i11 : Int) (s12 : ByteArray) (m14 : Nat) (h13 : Heap), J17 i11 s12 m14 h13 →
 ((i11 : Int) > (127) →
 ¬ ((128 : Int) = 0) ∧
 ∀ k19 : Nat, h13 k19 = none → B k19 = none → ∀ h20 : Heap, h20 = Heap.set h13 k19 (.vec 5 (plains [(Value.int .u8 (IntKind.wrap .u8 (IntKind.wrap .u64 ((128) + (Int.tmod (i11) (128))))))]) 1) →
 semH PG B (convert 38 9 (Value.slice (some ⟨k19, 0, none⟩) 1 1)) h20 (fun v h22 => ∃ s21 : ByteArray, v = (Value.string s21) ∧
 ByteArray.size s12 + ByteArray.size s21 ≤ 4611686018427387904 ∧
 ¬ ((128 : Int) = 0) ∧
 Fin B h22 (fun h' => ∃ m', m' < m14 ∧ J17 (IntKind.wrap .u64 (Int.tdiv (i11) (128))) (s12 ++ s21) m' h'))) ∧ (¬ ((i11 : Int) > (127)) →
 Fin B h13 (fun h' => S_countermandref01_Wide_J1 B (i11) s12 h' Q))
def S_stylus_Reader_word_J1 (B : RO) (p1 : Option Addr) (i3 : Int) (i4 : Int) (m6 : Nat) (J9 : Int → Int → Nat → Heap → Prop) (s12 : ByteArray) (h14 : Heap) (Q : Int → Heap → Prop) : Prop :=
 0 ≤ (0 : Int) ∧ (0 : Int) < (ByteArray.size s12 : Nat) ∧
 ¬ ((i4 : Int) < 0) ∧
 0 ≤ (0 : Int) ∧ (0 : Int) < (ByteArray.size s12 : Nat) ∧
 ((byteAt s12 (Int.toNat (0)) : Int) < (128) →
 Fin B h14 (Q (IntKind.wrap .u64 ((BitVec.ofInt (IntKind.bits .u64) (i3) ||| BitVec.ofInt (IntKind.bits .u64) (IntKind.wrap .u64 ((IntKind.wrap .u64 (IntKind.wrap .u8 ((BitVec.ofInt (IntKind.bits .u8) (byteAt s12 (Int.toNat (0))) &&& BitVec.ofInt (IntKind.bits .u8) (127)).toNat : Int))) * 2 ^ (min (Int.toNat (i4)) (IntKind.bits .u64))))).toNat : Int)))) ∧ (¬ ((byteAt s12 (Int.toNat (0)) : Int) < (128)) →
 Fin B h14 (fun h' => ∃ m', m' < m6 ∧ J9 (IntKind.wrap .u64 ((BitVec.ofInt (IntKind.bits .u64) (i3) ||| BitVec.ofInt (IntKind.bits .u64) (IntKind.wrap .u64 ((IntKind.wrap .u64 (IntKind.wrap .u8 ((BitVec.ofInt (IntKind.bits .u8) (byteAt s12 (Int.toNat (0))) &&& BitVec.ofInt (IntKind.bits .u8) (127)).toNat : Int))) * 2 ^ (min (Int.toNat (i4)) (IntKind.bits .u64))))).toNat : Int)) (IntKind.wrap .i64 ((i4) + (7))) m' h'))
def S_stylus_Reader_word (B : RO) (p1 : Option Addr) (h : Heap) (Q : Int → Heap → Prop) : Prop :=
 ∃ (J9 : Int → Int → Nat → Heap → Prop) (m7 : Nat), Fin B h (J9 (0) (0) m7) ∧
 ∀ (i3 : Int) (i4 : Int) (m6 : Nat) (h5 : Heap), J9 i3 i4 m6 h5 →
 ((i4 : Int) < (64) →
 C_stylus_Reader_Raw B p1 (1) h5 (fun s12 h11 =>
 (s12 = (ByteArray.mk #[]) →
 C_stylus_Reader_Spoil B p1 h11 (fun h17 =>
 Fin B h17 (Q (0)))) ∧ (¬ (s12 = (ByteArray.mk #[])) →
 ((i4 : Int) = 63 →
 0 ≤ (0 : Int) ∧ (0 : Int) < (ByteArray.size s12 : Nat) ∧
 ((byteAt s12 (Int.toNat (0)) : Int) > (1) →
 C_stylus_Reader_Spoil B p1 h11 (fun h20 =>
 Fin B h20 (Q (0)))) ∧ (¬ ((byteAt s12 (Int.toNat (0)) : Int) > (1)) →
 ((i4 : Int) > (0) →
 0 ≤ (0 : Int) ∧ (0 : Int) < (ByteArray.size s12 : Nat) ∧
 ((byteAt s12 (Int.toNat (0)) : Int) = 0 →
 C_stylus_Reader_Spoil B p1 h11 (fun h23 =>
 Fin B h23 (Q (0)))) ∧ (¬ ((byteAt s12 (Int.toNat (0)) : Int) = 0) →
 Fin B h11 (fun h' => S_stylus_Reader_word_J1 B p1 i3 i4 m6 J9 s12 h' Q))) ∧ (¬ ((i4 : Int) > (0)) →
 Fin B h11 (fun h' => S_stylus_Reader_word_J1 B p1 i3 i4 m6 J9 s12 h' Q)))) ∧ (¬ ((i4 : Int) = 63) →
 ((i4 : Int) > (0) →
 0 ≤ (0 : Int) ∧ (0 : Int) < (ByteArray.size s12 : Nat) ∧
 ((byteAt s12 (Int.toNat (0)) : Int) = 0 →
 C_stylus_Reader_Spoil B p1 h11 (fun h26 =>
 Fin B h26 (Q (0)))) ∧ (¬ ((byteAt s12 (Int.toNat (0)) : Int) = 0) →
 Fin B h11 (fun h' => S_stylus_Reader_word_J1 B p1 i3 i4 m6 J9 s12 h' Q))) ∧ (¬ ((i4 : Int) > (0)) →
 Fin B h11 (fun h' => S_stylus_Reader_word_J1 B p1 i3 i4 m6 J9 s12 h' Q)))))) ∧ (¬ ((i4 : Int) < (64)) →
 C_stylus_Reader_Spoil B p1 h5 (fun h27 =>
 Fin B h27 (Q (0))))
def S_stylus_Stylus_Raw (B : RO) (p1 : Option Addr) (s2 : ByteArray) (h : Heap) (Q : Heap → Prop) : Prop :=
 ∃ A3 : Addr, p1 = some A3 ∧
 LdSl B h A3 fun a5 n6 c7 h8 =>
 semH PG B (Builtin.append_ #[38, 9] 38 #[(Value.slice a5 n6 c7), (Value.string s2)]) h8 (fun v h9 => ∃ a10 : Option Addr, ∃ n11 : Nat, ∃ c12 : Nat, v = (Value.slice a10 n11 c12) ∧
 ∃ A13 : Addr, p1 = some A13 ∧
 ∃ h15 : Heap, storeH h9 A13 (Value.slice a10 n11 c12) = some h15 ∧
 Fin B h15 (Q))
def S_countermandref01_Nat (B : RO) (i1 : Int) (h : Heap) (Q : ByteArray → Heap → Prop) : Prop :=
 ((i1 : Int) < (0) →
 Fin B h (Q (ByteArray.mk #[]))) ∧ (¬ ((i1 : Int) < (0)) →
 C_countermandref01_Wide B (IntKind.wrap .u64 (i1)) h (fun s5 h4 =>
 Fin B h4 (Q s5)))
def S_countermandref01_Text (B : RO) (s1 : ByteArray) (h : Heap) (Q : ByteArray → Heap → Prop) : Prop :=
 C_countermandref01_Nat B ((ByteArray.size s1 : Nat)) h (fun s4 h3 =>
 ByteArray.size s4 + ByteArray.size s1 ≤ 4611686018427387904 ∧
 Fin B h3 (Q (s4 ++ s1)))
def S_cell_New_file_File (B : RO) (i1 : Int) (b2 : Bool) (s3 : ByteArray) (h : Heap) (Q : Option Addr → Heap → Prop) : Prop :=
 ∀ k5 : Nat, h k5 = none → B k5 = none → ∀ h6 : Heap, h6 = Heap.set h k5 (.vec 54 (plains [(Value.bool b2), (Value.string s3)]) 2) →
 ∀ k7 : Nat, h6 k7 = none → B k7 = none → ∀ h8 : Heap, h8 = Heap.set h6 k7 (.vec 168 (plains [(Value.slice none 0 0)]) 1) →
 ∃ (J14 : Int → Nat → Heap → Prop) (m12 : Nat), Fin B h8 (J14 (0) m12) ∧
 ∀ (i9 : Int) (m11 : Nat) (h10 : Heap), J14 i9 m11 h10 →
 ((i9 : Int) < (i1) →
 ∃ a20 : Option Addr, ∃ n21 : Nat, ∃ c22 : Nat, cellH B h10 ⟨k7, 0, none⟩ = some (Value.slice a20 n21 c22) ∧
 ∃ b24 : Bool, ∃ s25 : ByteArray, CellsAt B h10 ⟨k5, 0, none⟩ 0 [(Value.bool b24), (Value.string s25)] ∧
 ∀ k28 : Nat, h10 k28 = none → B k28 = none → ∀ h29 : Heap, h29 = Heap.set h10 k28 (.vec 170 (plains [(Value.bool b24), (Value.string s25), (Value.int .i64 (0))]) 3) →
 cellH B h29 ⟨k7, 0, none⟩ = some (Value.slice a20 n21 c22) ∧ CellsAt B h29 ⟨k5, 0, none⟩ 0 [(Value.bool b24), (Value.string s25)] ∧
 semH PG B (Builtin.append_ #[166, 166] 166 #[(Value.slice a20 n21 c22), (Value.slice (some ⟨k28, 0, none⟩) 1 1)]) h29 (fun v h32 => ∃ a33 : Option Addr, ∃ n34 : Nat, ∃ c35 : Nat, v = (Value.slice a33 n34 c35) ∧
 cellH B h32 ⟨k7, 0, none⟩ = some (Value.slice a20 n21 c22) ∧ CellsAt B h32 ⟨k5, 0, none⟩ 0 [(Value.bool b24), (Value.string s25)] ∧
 ∃ h38 : Heap, storeH h32 ⟨k7, 0, none⟩ (Value.slice a33 n34 c35) = some h38 ∧
 Fin B h38 (fun h' => ∃ m', m' < m11 ∧ J14 (IntKind.wrap .i64 ((i9) + (1))) m' h'))) ∧ (¬ ((i9 : Int) < (i1)) →
 Fin B h10 (Q (some ⟨k7, 0, none⟩)))
def S_file_Good (B : RO) (b1 : Bool) (s2 : ByteArray) (h : Heap) (Q : Bool → Heap → Prop) : Prop :=
 ∀ k4 : Nat, h k4 = none → B k4 = none → ∀ h5 : Heap, h5 = Heap.set h k4 (.vec 54 (plains [(Value.bool b1), (Value.string s2)]) 2) →
 ∃ s6 : ByteArray, cellH B h5 ⟨k4, 1, none⟩ = some (Value.string s6) ∧
 (((ByteArray.size s6 : Nat) : Int) ≤ (32) →
 ∃ b8 : Bool, cellH B h5 ⟨k4, 0, none⟩ = some (Value.bool b8) ∧ (b8 = true →
 Fin B h5 (Q (true))) ∧ (b8 = false →
 ∃ s9 : ByteArray, cellH B h5 ⟨k4, 1, none⟩ = some (Value.string s9) ∧
 Fin B h5 (Q ((decide (s9 = (ByteArray.mk #[]))))))) ∧ (¬ (((ByteArray.size s6 : Nat) : Int) ≤ (32)) →
 Fin B h5 (Q (false)))
def S_cell_Row_file_File_Set (B : RO) (p1 : Option Addr) (i2 : Int) (b3 : Bool) (s4 : ByteArray) (i5 : Int) (h : Heap) (Q : Bool → Heap → Prop) : Prop :=
 ∀ k7 : Nat, h k7 = none → B k7 = none → ∀ h8 : Heap, h8 = Heap.set h k7 (.vec 54 (plains [(Value.bool b3), (Value.string s4)]) 2) →
 C_cell_Row_file_File_is B p1 (i2) h8 (fun b10 h9 =>
 (b10 = true →
 ∃ A11 : Addr, p1 = some A11 ∧
 ∃ a13 : Option Addr, ∃ n14 : Nat, ∃ c15 : Nat, cellH B h9 A11 = some (Value.slice a13 n14 c15) ∧
 ∃ b16 : Bool, ∃ s17 : ByteArray, CellsAt B h9 ⟨k7, 0, none⟩ 0 [(Value.bool b16), (Value.string s17)] ∧
 ∃ A18 : Addr, a13 = some A18 ∧ 0 ≤ (i2 : Int) ∧ (i2 : Int) < (n14 : Nat) ∧
 ∃ h20 : Heap, StoresAt (Addr.add A18 (Int.toNat (i2) * 3)) h9 0 [(Value.bool b16), (Value.string s17), (Value.int .i64 (i5))] h20 ∧
 Fin B h20 (Q (true))) ∧ (b10 = false →
 Fin B h9 (Q (false))))
def S_cell_Row_file_File_Get (B : RO) (p1 : Option Addr) (i2 : Int) (h : Heap) (Q : Bool → ByteArray → Int → Heap → Prop) : Prop :=
 ∀ k6 : Nat, h k6 = none → B k6 = none → ∀ h7 : Heap, h7 = Heap.set h k6 (.vec 54 (plains [(Value.bool false), (Value.string ByteArray.empty)]) 2) →
 C_cell_Row_file_File_is B p1 (i2) h7 (fun b9 h8 =>
 (b9 = true →
 ∃ A18 : Addr, p1 = some A18 ∧
 ∃ a22 : Option Addr, ∃ n23 : Nat, ∃ c24 : Nat, cellH B h8 A18 = some (Value.slice a22 n23 c24) ∧
 ∃ A27 : Addr, a22 = some A27 ∧ 0 ≤ (i2 : Int) ∧ (i2 : Int) < (n23 : Nat) ∧
 ∃ b33 : Bool, ∃ s34 : ByteArray, CellsAt B h8 (Addr.add A27 (Int.toNat (i2) * 3)) 0 [(Value.bool b33), (Value.string s34)] ∧
 ∃ A37 : Addr, p1 = some A37 ∧
 ∃ a41 : Option Addr, ∃ n42 : Nat, ∃ c43 : Nat, cellH B h8 A37 = some (Value.slice a41 n42 c43) ∧
 ∃ A46 : Addr, a41 = some A46 ∧ 0 ≤ (i2 : Int) ∧ (i2 : Int) < (n42 : Nat) ∧
 ∃ i52 : Int, cellH B h8 (Addr.add (Addr.add A46 (Int.toNat (i2) * 3)) 2) = some (Value.int .i64 (i52)) ∧
 ∃ h54 : Heap, StoresAt ⟨k6, 0, none⟩ h8 0 [(Value.bool b33), (Value.string s34)] h54 ∧
 cellH B h54 A18 = some (Value.slice a22 n23 c24) ∧ CellsAt B h54 (Addr.add A27 (Int.toNat (i2) * 3)) 0 [(Value.bool b33), (Value.string s34)] ∧ cellH B h54 A37 = some (Value.slice a41 n42 c43) ∧ cellH B h54 (Addr.add (Addr.add A46 (Int.toNat (i2) * 3)) 2) = some (Value.int .i64 (i52)) ∧
 ∃ b59 : Bool, ∃ s60 : ByteArray, CellsAt B h54 ⟨k6, 0, none⟩ 0 [(Value.bool b59), (Value.string s60)] ∧ Fin B h54 (Q (b59) s60 (i52))) ∧ (b9 = false →
 ∀ k10 : Nat, h8 k10 = none → B k10 = none → ∀ h11 : Heap, h11 = Heap.set h8 k10 (.vec 54 (plains [(Value.bool false), (Value.string ByteArray.empty)]) 2) →
 ∃ b12 : Bool, ∃ s13 : ByteArray, CellsAt B h11 ⟨k10, 0, none⟩ 0 [(Value.bool b12), (Value.string s13)] ∧
 ∃ h14 : Heap, StoresAt ⟨k6, 0, none⟩ h11 0 [(Value.bool b12), (Value.string s13)] h14 ∧
 ∃ b15 : Bool, ∃ s16 : ByteArray, CellsAt B h14 ⟨k6, 0, none⟩ 0 [(Value.bool b15), (Value.string s16)] ∧ Fin B h14 (Q (b15) s16 (0))))
def S_tome_Tome_All_1 (B : RO) (v1 : Value) (A2 : Addr) (h : Heap) (Q : Heap → Prop) : Prop :=
 isOne v1 = true ∧
 ∀ k3 : Nat, h k3 = none → B k3 = none → ∀ h4 : Heap, h4 = Heap.set h k3 (.vec 147 [.plain v1] 1) →
 ∃ p5 : Option Addr, cellH B h4 A2 = some (Value.pointer p5) ∧
 (p5 = none →
 Fin B h4 (Q)) ∧ (¬ (p5 = none) →
 ∃ p7 : Option Addr, cellH B h4 A2 = some (Value.pointer p7) ∧
 ∃ A8 : Addr, p7 = some A8 ∧
 ∃ p10 : Option Addr, cellH B h4 A8 = some (Value.pointer p10) ∧
 C_cell_Row_file_File_All B p10 h4 (fun v12 h11 =>
 ∃ (xs20 : List (Int × Bool × ByteArray)) (G16 : Heap → Prop) (J19 : Nat → Heap → Prop), Iter PG B v12 (xs20.map (fun x : Int × Bool × ByteArray => [(Value.int .i64 (x.1)), (Value.agg #[(Value.bool x.2.1), (Value.string x.2.2)])])) G16 ∧ Ins G16 ∧ (∀ i h, J19 i h → G16 h) ∧ Fin B h11 (J19 0) ∧
 (∀ (q18 : Nat) (h17 : Heap) (i13 : Int) (b14 : Bool) (s15 : ByteArray), xs20[q18]? = some (i13, b14, s15) → J19 q18 h17 →
 ∀ k21 : Nat, h17 k21 = none → B k21 = none → ∀ h22 : Heap, h22 = Heap.set h17 k21 (.vec 54 (plains [(Value.bool false), (Value.string ByteArray.empty)]) 2) →
 ∃ h23 : Heap, StoresAt ⟨k21, 0, none⟩ h22 0 [(Value.bool b14), (Value.string s15)] h23 ∧
 ∃ b24 : Bool, cellH B h23 ⟨k21, 0, none⟩ = some (Value.bool b24) ∧ (b24 = true →
 ∃ v25 : Value, cellH B h23 ⟨k3, 0, none⟩ = some v25 ∧
 ∃ b26 : Bool, ∃ s27 : ByteArray, CellsAt B h23 ⟨k21, 0, none⟩ 0 [(Value.bool b26), (Value.string s27)] ∧
 CallV PG B v25 [(Value.int .i64 (i13)), (Value.agg #[(Value.bool b26), (Value.string s27)])] h23 (fun v h28 => ∃ b29 : Bool, v = (Value.bool b29) ∧
 (b29 = true →
 Fin B h28 (J19 (q18 + 1))) ∧ (b29 = false →
 Fin B h28 (Q)))) ∧ (b24 = false →
 Fin B h23 (J19 (q18 + 1)))) ∧
 (∀ (h17 : Heap), J19 xs20.length h17 →
 Fin B h17 (Q))))
def S_cell_Row_file_File_All (B : RO) (p1 : Option Addr) (h : Heap) (Q : Value → Heap → Prop) : Prop :=
 ∀ k3 : Nat, h k3 = none → B k3 = none → ∀ h4 : Heap, h4 = Heap.set h k3 (.vec 142 [.plain (Value.pointer p1)] 1) →
 Fin B h4 (Q (Value.func (.func 98) #[] #[(Value.pointer (some ⟨k3, 0, none⟩))]))
def S_cell_Row_file_File_is (B : RO) (p1 : Option Addr) (i2 : Int) (h : Heap) (Q : Bool → Heap → Prop) : Prop :=
 (p1 = none →
 Fin B h (Q (false))) ∧ (¬ (p1 = none) →
 ((i2 : Int) ≥ (0) →
 ∃ A6 : Addr, p1 = some A6 ∧
 LdSl B h A6 fun a8 n9 c10 h11 =>
 Fin B h11 (Q ((decide ((i2 : Int) < ((n9 : Nat))))))) ∧ (¬ ((i2 : Int) ≥ (0)) →
 Fin B h (Q (false))))
def S_cell_Row_file_File_All_1 (B : RO) (v1 : Value) (A2 : Addr) (h : Heap) (Q : Heap → Prop) : Prop :=
 ∃ p3 : Option Addr, cellH B h A2 = some (Value.pointer p3) ∧
 (p3 = none →
 Fin B h (Q)) ∧ (¬ (p3 = none) →
 ∃ p5 : Option Addr, cellH B h A2 = some (Value.pointer p5) ∧
 ∃ A6 : Addr, p5 = some A6 ∧
 LdSl B h A6 fun a8 n9 c10 h11 =>
 ∃ (J17 : Int → Nat → Heap → Prop) (m15 : Nat), Fin B h11 (J17 (0) m15) ∧
 ∀ (i12 : Int) (m14 : Nat) (h13 : Heap), J17 i12 m14 h13 →
 ((i12 : Int) < ((n9 : Nat)) →
 ∃ A19 : Addr, a8 = some A19 ∧ 0 ≤ (i12 : Int) ∧ (i12 : Int) < (n9 : Nat) ∧
 ∃ b21 : Bool, ∃ s22 : ByteArray, ∃ i23 : Int, CellsAt B h13 (Addr.add A19 (Int.toNat (i12) * 3)) 0 [(Value.bool b21), (Value.string s22), (Value.int .i64 (i23))] ∧
 ∀ k24 : Nat, h13 k24 = none → B k24 = none → ∀ h25 : Heap, h25 = Heap.set h13 k24 (.vec 170 (plains [(Value.bool false), (Value.string ByteArray.empty), (Value.int .i64 (0))]) 3) →
 ∃ h26 : Heap, StoresAt ⟨k24, 0, none⟩ h25 0 [(Value.bool b21), (Value.string s22), (Value.int .i64 (i23))] h26 ∧
 ∃ b27 : Bool, ∃ s28 : ByteArray, CellsAt B h26 ⟨k24, 0, none⟩ 0 [(Value.bool b27), (Value.string s28)] ∧
 CallV PG B v1 [(Value.int .i64 (i12)), (Value.agg #[(Value.bool b27), (Value.string s28)])] h26 (fun v h29 => ∃ b30 : Bool, v = (Value.bool b30) ∧
 (b30 = true →
 Fin B h29 (fun h' => ∃ m', m' < m14 ∧ J17 (IntKind.wrap .i64 ((i12) + (1))) m' h')) ∧ (b30 = false →
 Fin B h29 (Q)))) ∧ (¬ ((i12 : Int) < ((n9 : Nat))) →
 Fin B h13 (Q)))
end Go.Proofs.Ytoajfmmomgpjcaa.H
