/- What each function asks. No condition. -/
import Derived.Test.YthloobpjkeodgaaXrF
namespace Go.Proofs.Ythloobpjkeodgaa.H
open Go
set_option linter.unusedVariables false
set_option maxRecDepth 100000

def S_countermandlaw18_RedoReads (B : RO) (s1 : ByteArray) (h : Heap) (Q : Bool → Heap → Prop) : Prop :=
 C_countermandlaw18_alive B h (fun b4 h3 =>
 (b4 = true →
 (((ByteArray.size s1 : Nat) : Int) > (300) →
 Fin B h3 (Q (true))) ∧ (¬ (((ByteArray.size s1 : Nat) : Int) > (300)) →
 C_redo_Read B s1 h3 (fun i7 a8 n9 c10 b11 h6 =>
 (b11 = true →
 C_countermandref18_Read B s1 h6 (fun i20 a21 n22 c23 b24 h19 =>
 (b24 = true →
 ((i7 : Int) = i20 →
 C_countermandlaw18_same B a8 n9 c10 a21 n22 c23 h19 (fun b27 h26 =>
 (b27 = true →
 C_countermandref18_Bytes B (i20) a21 n22 c23 h26 (fun s29 h28 =>
 Fin B h28 (Q ((decide (s29 = s1)))))) ∧ (b27 = false →
 Fin B h26 (Q (false))))) ∧ (¬ ((i7 : Int) = i20) →
 Fin B h19 (Q (false)))) ∧ (b24 = false →
 Fin B h19 (Q (false))))) ∧ (b11 = false →
 C_countermandref18_Read B s1 h6 (fun i13 a14 n15 c16 b17 h12 =>
 (b17 = true →
 Fin B h12 (Q (false))) ∧ (b17 = false →
 ((i7 : Int) = 0 →
 Fin B h12 (Q ((((n9 : Nat) : Int) == (0))))) ∧ (¬ ((i7 : Int) = 0) →
 Fin B h12 (Q (false))))))))) ∧ (b4 = false →
 Fin B h3 (Q (false))))
def S_countermandlaw18_RedoBytes_J1 (B : RO) (i1 : Int) (p9 : Option Addr) (a10 : Option Addr) (n11 : Nat) (c12 : Nat) (h15 : Heap) (Q : Bool → Heap → Prop) : Prop :=
 C_redo_Bytes B (i1) p9 h15 (fun s17 h16 =>
 C_redo_Read B s17 h16 (fun i19 a20 n21 c22 b23 h18 =>
 (b23 = true →
 C_countermandref18_Bytes B (i1) a10 n11 c12 h18 (fun s28 h27 =>
 (s17 = s28 →
 ((i19 : Int) = i1 →
 C_countermandlaw18_same B a20 n21 c22 a10 n11 c12 h27 (fun b32 h31 =>
 Fin B h31 (Q (b32)))) ∧ (¬ ((i19 : Int) = i1) →
 Fin B h27 (Q (false)))) ∧ (¬ (s17 = s28) →
 Fin B h27 (Q (false))))) ∧ (b23 = false →
 C_countermandref18_Bytes B (i1) a10 n11 c12 h18 (fun s25 h24 =>
 (s17 = s25 →
 Fin B h24 (Q (false))) ∧ (¬ (s17 = s25) →
 Fin B h24 (Q (false)))))))
def S_countermandlaw18_RedoBytes_J2 (B : RO) (i1 : Int) (p9 : Option Addr) (a10 : Option Addr) (n11 : Nat) (c12 : Nat) (h34 : Heap) (Q : Bool → Heap → Prop) : Prop :=
 C_redo_Bytes B (i1) p9 h34 (fun s36 h35 =>
 C_redo_Read B s36 h35 (fun i38 a39 n40 c41 b42 h37 =>
 (b42 = true →
 C_countermandref18_Bytes B (i1) a10 n11 c12 h37 (fun s47 h46 =>
 (s36 = s47 →
 ((i38 : Int) = i1 →
 C_countermandlaw18_same B a39 n40 c41 a10 n11 c12 h46 (fun b51 h50 =>
 Fin B h50 (Q (b51)))) ∧ (¬ ((i38 : Int) = i1) →
 Fin B h46 (Q (false)))) ∧ (¬ (s36 = s47) →
 Fin B h46 (Q (false))))) ∧ (b42 = false →
 C_countermandref18_Bytes B (i1) a10 n11 c12 h37 (fun s44 h43 =>
 (s36 = s44 →
 Fin B h43 (Q (false))) ∧ (¬ (s36 = s44) →
 Fin B h43 (Q (false)))))))
def S_countermandlaw18_RedoBytes (B : RO) (i1 : Int) (a2 : Option Addr) (n3 : Nat) (c4 : Nat) (h : Heap) (Q : Bool → Heap → Prop) : Prop :=
 C_countermandlaw18_alive B h (fun b7 h6 =>
 (b7 = true →
 C_countermandlaw18_drawn B a2 n3 c4 h6 (fun p9 a10 n11 c12 b13 h8 =>
 (b13 = true →
 ((i1 : Int) < (0) →
 Fin B h8 (Q (true))) ∧ (¬ ((i1 : Int) < (0)) →
 ((i1 : Int) > (1099511627776) →
 Fin B h8 (Q (true))) ∧ (¬ ((i1 : Int) > (1099511627776)) →
 Fin B h8 (fun h' => S_countermandlaw18_RedoBytes_J2 B i1 p9 a10 n11 c12 h' Q)))) ∧ (b13 = false →
 Fin B h8 (Q (true))))) ∧ (b7 = false →
 Fin B h6 (Q (false))))
def S_countermandlaw18_RedoApplies_J2 (B : RO) (i5 : Int) (p13 : Option Addr) (a31 : Option Addr) (n32 : Nat) (c33 : Nat) (k39 : Nat) (h46 : Heap) (Q : Bool → Heap → Prop) : Prop :=
 C_redo_Apply B p13 a31 n32 c33 (i5) h46 (fun h47 =>
 ∃ l48 : List Value, List.length l48 = 12 ∧ CellsAt B h47 ⟨k39, 0, none⟩ 0 l48 ∧
 C_countermandlaw18_are B p13 l48 h47 (fun b50 h49 =>
 Fin B h49 (Q (b50))))
def S_countermandlaw18_RedoApplies_J1 (B : RO) (i5 : Int) (p13 : Option Addr) (k16 : Nat) (p20 : Option Addr) (a21 : Option Addr) (n22 : Nat) (c23 : Nat) (h26 : Heap) (Q : Bool → Heap → Prop) : Prop :=
 C_redo_Bytes B (7) p20 h26 (fun s28 h27 =>
 C_redo_Read B s28 h27 (fun i30 a31 n32 c33 b34 h29 =>
 C_redo_Apply B p13 a31 n32 c33 (i5) h29 (fun h35 =>
 ∃ l36 : List Value, List.length l36 = 12 ∧ CellsAt B h35 ⟨k16, 0, none⟩ 0 l36 ∧
 C_countermandref18_Apply B l36 a21 n22 c23 h35 (fun l38 h37 =>
 ∀ k39 : Nat, h37 k39 = none → B k39 = none → ∀ h40 : Heap, h40 = Heap.set h37 k39 (.vec 115 (plains [(Value.bool false), (Value.string ByteArray.empty), (Value.bool false), (Value.string ByteArray.empty), (Value.bool false), (Value.string ByteArray.empty), (Value.bool false), (Value.string ByteArray.empty), (Value.bool false), (Value.string ByteArray.empty), (Value.bool false), (Value.string ByteArray.empty)]) 12) →
 List.length l38 = 12 ∧ ∃ h41 : Heap, StoresAt ⟨k39, 0, none⟩ h40 0 l38 h41 ∧
 ∃ l42 : List Value, List.length l42 = 12 ∧ CellsAt B h41 ⟨k39, 0, none⟩ 0 l42 ∧
 C_countermandlaw18_are B p13 l42 h41 (fun b44 h43 =>
 (b44 = true →
 ∃ (J56 : Int → Nat → Heap → Prop) (m54 : Nat), Fin B h43 (J56 (0) m54) ∧
 ∀ (i51 : Int) (m53 : Nat) (h52 : Heap), J56 i51 m53 h52 →
 ((i51 : Int) < ((n22 : Nat)) →
 ∃ A58 : Addr, a21 = some A58 ∧ 0 ≤ (i51 : Int) ∧ (i51 : Int) < (n22 : Nat) ∧
 ∃ i60 : Int, ∃ b61 : Bool, ∃ s62 : ByteArray, CellsAt B h52 (Addr.add A58 (Int.toNat (i51) * 3)) 0 [(Value.int .i64 (i60)), (Value.bool b61), (Value.string s62)] ∧
 ∀ k63 : Nat, h52 k63 = none → B k63 = none → ∀ h64 : Heap, h64 = Heap.set h52 k63 (.vec 122 (plains [(Value.int .i64 (0)), (Value.bool false), (Value.string ByteArray.empty)]) 3) →
 ∃ h65 : Heap, StoresAt ⟨k63, 0, none⟩ h64 0 [(Value.int .i64 (i60)), (Value.bool b61), (Value.string s62)] h65 ∧
 ∃ i66 : Int, cellH B h65 ⟨k63, 0, none⟩ = some (Value.int .i64 (i66)) ∧
 C_tome_Tome_Get B p13 (i66) h65 (fun b68 s69 i70 h67 =>
 ∀ k71 : Nat, h67 k71 = none → B k71 = none → ∀ h72 : Heap, h72 = Heap.set h67 k71 (.vec 111 (plains [(Value.bool false), (Value.string ByteArray.empty)]) 2) →
 ∃ h73 : Heap, StoresAt ⟨k71, 0, none⟩ h72 0 [(Value.bool b68), (Value.string s69)] h73 ∧
 ((i70 : Int) = i5 →
 Fin B h73 (fun h' => ∃ m', m' < m53 ∧ J56 (IntKind.wrap .i64 ((i51) + (1))) m' h')) ∧ (¬ ((i70 : Int) = i5) →
 Fin B h73 (Q (false))))) ∧ (¬ ((i51 : Int) < ((n22 : Nat))) →
 Fin B h52 (fun h' => S_countermandlaw18_RedoApplies_J2 B i5 p13 a31 n32 c33 k39 h' Q))) ∧ (b44 = false →
 Fin B h43 (Q (false))))))))
def S_countermandlaw18_RedoApplies_J4 (B : RO) (i5 : Int) (p13 : Option Addr) (a81 : Option Addr) (n82 : Nat) (c83 : Nat) (k89 : Nat) (h96 : Heap) (Q : Bool → Heap → Prop) : Prop :=
 C_redo_Apply B p13 a81 n82 c83 (i5) h96 (fun h97 =>
 ∃ l98 : List Value, List.length l98 = 12 ∧ CellsAt B h97 ⟨k89, 0, none⟩ 0 l98 ∧
 C_countermandlaw18_are B p13 l98 h97 (fun b100 h99 =>
 Fin B h99 (Q (b100))))
def S_countermandlaw18_RedoApplies_J3 (B : RO) (i5 : Int) (p13 : Option Addr) (k16 : Nat) (p20 : Option Addr) (a21 : Option Addr) (n22 : Nat) (c23 : Nat) (h76 : Heap) (Q : Bool → Heap → Prop) : Prop :=
 C_redo_Bytes B (7) p20 h76 (fun s78 h77 =>
 C_redo_Read B s78 h77 (fun i80 a81 n82 c83 b84 h79 =>
 C_redo_Apply B p13 a81 n82 c83 (i5) h79 (fun h85 =>
 ∃ l86 : List Value, List.length l86 = 12 ∧ CellsAt B h85 ⟨k16, 0, none⟩ 0 l86 ∧
 C_countermandref18_Apply B l86 a21 n22 c23 h85 (fun l88 h87 =>
 ∀ k89 : Nat, h87 k89 = none → B k89 = none → ∀ h90 : Heap, h90 = Heap.set h87 k89 (.vec 115 (plains [(Value.bool false), (Value.string ByteArray.empty), (Value.bool false), (Value.string ByteArray.empty), (Value.bool false), (Value.string ByteArray.empty), (Value.bool false), (Value.string ByteArray.empty), (Value.bool false), (Value.string ByteArray.empty), (Value.bool false), (Value.string ByteArray.empty)]) 12) →
 List.length l88 = 12 ∧ ∃ h91 : Heap, StoresAt ⟨k89, 0, none⟩ h90 0 l88 h91 ∧
 ∃ l92 : List Value, List.length l92 = 12 ∧ CellsAt B h91 ⟨k89, 0, none⟩ 0 l92 ∧
 C_countermandlaw18_are B p13 l92 h91 (fun b94 h93 =>
 (b94 = true →
 ∃ (J106 : Int → Nat → Heap → Prop) (m104 : Nat), Fin B h93 (J106 (0) m104) ∧
 ∀ (i101 : Int) (m103 : Nat) (h102 : Heap), J106 i101 m103 h102 →
 ((i101 : Int) < ((n22 : Nat)) →
 ∃ A108 : Addr, a21 = some A108 ∧ 0 ≤ (i101 : Int) ∧ (i101 : Int) < (n22 : Nat) ∧
 ∃ i110 : Int, ∃ b111 : Bool, ∃ s112 : ByteArray, CellsAt B h102 (Addr.add A108 (Int.toNat (i101) * 3)) 0 [(Value.int .i64 (i110)), (Value.bool b111), (Value.string s112)] ∧
 ∀ k113 : Nat, h102 k113 = none → B k113 = none → ∀ h114 : Heap, h114 = Heap.set h102 k113 (.vec 122 (plains [(Value.int .i64 (0)), (Value.bool false), (Value.string ByteArray.empty)]) 3) →
 ∃ h115 : Heap, StoresAt ⟨k113, 0, none⟩ h114 0 [(Value.int .i64 (i110)), (Value.bool b111), (Value.string s112)] h115 ∧
 ∃ i116 : Int, cellH B h115 ⟨k113, 0, none⟩ = some (Value.int .i64 (i116)) ∧
 C_tome_Tome_Get B p13 (i116) h115 (fun b118 s119 i120 h117 =>
 ∀ k121 : Nat, h117 k121 = none → B k121 = none → ∀ h122 : Heap, h122 = Heap.set h117 k121 (.vec 111 (plains [(Value.bool false), (Value.string ByteArray.empty)]) 2) →
 ∃ h123 : Heap, StoresAt ⟨k121, 0, none⟩ h122 0 [(Value.bool b118), (Value.string s119)] h123 ∧
 ((i120 : Int) = i5 →
 Fin B h123 (fun h' => ∃ m', m' < m103 ∧ J106 (IntKind.wrap .i64 ((i101) + (1))) m' h')) ∧ (¬ ((i120 : Int) = i5) →
 Fin B h123 (Q (false))))) ∧ (¬ ((i101 : Int) < ((n22 : Nat))) →
 Fin B h102 (fun h' => S_countermandlaw18_RedoApplies_J4 B i5 p13 a81 n82 c83 k89 h' Q))) ∧ (b94 = false →
 Fin B h93 (Q (false))))))))
def S_countermandlaw18_RedoApplies_J6 (B : RO) (i5 : Int) (p13 : Option Addr) (a140 : Option Addr) (n141 : Nat) (c142 : Nat) (k148 : Nat) (h155 : Heap) (Q : Bool → Heap → Prop) : Prop :=
 C_redo_Apply B p13 a140 n141 c142 (i5) h155 (fun h156 =>
 ∃ l157 : List Value, List.length l157 = 12 ∧ CellsAt B h156 ⟨k148, 0, none⟩ 0 l157 ∧
 C_countermandlaw18_are B p13 l157 h156 (fun b159 h158 =>
 Fin B h158 (Q (b159))))
def S_countermandlaw18_RedoApplies_J5 (B : RO) (i5 : Int) (p13 : Option Addr) (k125 : Nat) (p129 : Option Addr) (a130 : Option Addr) (n131 : Nat) (c132 : Nat) (h135 : Heap) (Q : Bool → Heap → Prop) : Prop :=
 C_redo_Bytes B (7) p129 h135 (fun s137 h136 =>
 C_redo_Read B s137 h136 (fun i139 a140 n141 c142 b143 h138 =>
 C_redo_Apply B p13 a140 n141 c142 (i5) h138 (fun h144 =>
 ∃ l145 : List Value, List.length l145 = 12 ∧ CellsAt B h144 ⟨k125, 0, none⟩ 0 l145 ∧
 C_countermandref18_Apply B l145 a130 n131 c132 h144 (fun l147 h146 =>
 ∀ k148 : Nat, h146 k148 = none → B k148 = none → ∀ h149 : Heap, h149 = Heap.set h146 k148 (.vec 115 (plains [(Value.bool false), (Value.string ByteArray.empty), (Value.bool false), (Value.string ByteArray.empty), (Value.bool false), (Value.string ByteArray.empty), (Value.bool false), (Value.string ByteArray.empty), (Value.bool false), (Value.string ByteArray.empty), (Value.bool false), (Value.string ByteArray.empty)]) 12) →
 List.length l147 = 12 ∧ ∃ h150 : Heap, StoresAt ⟨k148, 0, none⟩ h149 0 l147 h150 ∧
 ∃ l151 : List Value, List.length l151 = 12 ∧ CellsAt B h150 ⟨k148, 0, none⟩ 0 l151 ∧
 C_countermandlaw18_are B p13 l151 h150 (fun b153 h152 =>
 (b153 = true →
 ∃ (J165 : Int → Nat → Heap → Prop) (m163 : Nat), Fin B h152 (J165 (0) m163) ∧
 ∀ (i160 : Int) (m162 : Nat) (h161 : Heap), J165 i160 m162 h161 →
 ((i160 : Int) < ((n131 : Nat)) →
 ∃ A167 : Addr, a130 = some A167 ∧ 0 ≤ (i160 : Int) ∧ (i160 : Int) < (n131 : Nat) ∧
 ∃ i169 : Int, ∃ b170 : Bool, ∃ s171 : ByteArray, CellsAt B h161 (Addr.add A167 (Int.toNat (i160) * 3)) 0 [(Value.int .i64 (i169)), (Value.bool b170), (Value.string s171)] ∧
 ∀ k172 : Nat, h161 k172 = none → B k172 = none → ∀ h173 : Heap, h173 = Heap.set h161 k172 (.vec 122 (plains [(Value.int .i64 (0)), (Value.bool false), (Value.string ByteArray.empty)]) 3) →
 ∃ h174 : Heap, StoresAt ⟨k172, 0, none⟩ h173 0 [(Value.int .i64 (i169)), (Value.bool b170), (Value.string s171)] h174 ∧
 ∃ i175 : Int, cellH B h174 ⟨k172, 0, none⟩ = some (Value.int .i64 (i175)) ∧
 C_tome_Tome_Get B p13 (i175) h174 (fun b177 s178 i179 h176 =>
 ∀ k180 : Nat, h176 k180 = none → B k180 = none → ∀ h181 : Heap, h181 = Heap.set h176 k180 (.vec 111 (plains [(Value.bool false), (Value.string ByteArray.empty)]) 2) →
 ∃ h182 : Heap, StoresAt ⟨k180, 0, none⟩ h181 0 [(Value.bool b177), (Value.string s178)] h182 ∧
 ((i179 : Int) = i5 →
 Fin B h182 (fun h' => ∃ m', m' < m162 ∧ J165 (IntKind.wrap .i64 ((i160) + (1))) m' h')) ∧ (¬ ((i179 : Int) = i5) →
 Fin B h182 (Q (false))))) ∧ (¬ ((i160 : Int) < ((n131 : Nat))) →
 Fin B h161 (fun h' => S_countermandlaw18_RedoApplies_J6 B i5 p13 a140 n141 c142 k148 h' Q))) ∧ (b153 = false →
 Fin B h152 (Q (false))))))))
def S_countermandlaw18_RedoApplies_J8 (B : RO) (i5 : Int) (p13 : Option Addr) (a190 : Option Addr) (n191 : Nat) (c192 : Nat) (k198 : Nat) (h205 : Heap) (Q : Bool → Heap → Prop) : Prop :=
 C_redo_Apply B p13 a190 n191 c192 (i5) h205 (fun h206 =>
 ∃ l207 : List Value, List.length l207 = 12 ∧ CellsAt B h206 ⟨k198, 0, none⟩ 0 l207 ∧
 C_countermandlaw18_are B p13 l207 h206 (fun b209 h208 =>
 Fin B h208 (Q (b209))))
def S_countermandlaw18_RedoApplies_J7 (B : RO) (i5 : Int) (p13 : Option Addr) (k125 : Nat) (p129 : Option Addr) (a130 : Option Addr) (n131 : Nat) (c132 : Nat) (h185 : Heap) (Q : Bool → Heap → Prop) : Prop :=
 C_redo_Bytes B (7) p129 h185 (fun s187 h186 =>
 C_redo_Read B s187 h186 (fun i189 a190 n191 c192 b193 h188 =>
 C_redo_Apply B p13 a190 n191 c192 (i5) h188 (fun h194 =>
 ∃ l195 : List Value, List.length l195 = 12 ∧ CellsAt B h194 ⟨k125, 0, none⟩ 0 l195 ∧
 C_countermandref18_Apply B l195 a130 n131 c132 h194 (fun l197 h196 =>
 ∀ k198 : Nat, h196 k198 = none → B k198 = none → ∀ h199 : Heap, h199 = Heap.set h196 k198 (.vec 115 (plains [(Value.bool false), (Value.string ByteArray.empty), (Value.bool false), (Value.string ByteArray.empty), (Value.bool false), (Value.string ByteArray.empty), (Value.bool false), (Value.string ByteArray.empty), (Value.bool false), (Value.string ByteArray.empty), (Value.bool false), (Value.string ByteArray.empty)]) 12) →
 List.length l197 = 12 ∧ ∃ h200 : Heap, StoresAt ⟨k198, 0, none⟩ h199 0 l197 h200 ∧
 ∃ l201 : List Value, List.length l201 = 12 ∧ CellsAt B h200 ⟨k198, 0, none⟩ 0 l201 ∧
 C_countermandlaw18_are B p13 l201 h200 (fun b203 h202 =>
 (b203 = true →
 ∃ (J215 : Int → Nat → Heap → Prop) (m213 : Nat), Fin B h202 (J215 (0) m213) ∧
 ∀ (i210 : Int) (m212 : Nat) (h211 : Heap), J215 i210 m212 h211 →
 ((i210 : Int) < ((n131 : Nat)) →
 ∃ A217 : Addr, a130 = some A217 ∧ 0 ≤ (i210 : Int) ∧ (i210 : Int) < (n131 : Nat) ∧
 ∃ i219 : Int, ∃ b220 : Bool, ∃ s221 : ByteArray, CellsAt B h211 (Addr.add A217 (Int.toNat (i210) * 3)) 0 [(Value.int .i64 (i219)), (Value.bool b220), (Value.string s221)] ∧
 ∀ k222 : Nat, h211 k222 = none → B k222 = none → ∀ h223 : Heap, h223 = Heap.set h211 k222 (.vec 122 (plains [(Value.int .i64 (0)), (Value.bool false), (Value.string ByteArray.empty)]) 3) →
 ∃ h224 : Heap, StoresAt ⟨k222, 0, none⟩ h223 0 [(Value.int .i64 (i219)), (Value.bool b220), (Value.string s221)] h224 ∧
 ∃ i225 : Int, cellH B h224 ⟨k222, 0, none⟩ = some (Value.int .i64 (i225)) ∧
 C_tome_Tome_Get B p13 (i225) h224 (fun b227 s228 i229 h226 =>
 ∀ k230 : Nat, h226 k230 = none → B k230 = none → ∀ h231 : Heap, h231 = Heap.set h226 k230 (.vec 111 (plains [(Value.bool false), (Value.string ByteArray.empty)]) 2) →
 ∃ h232 : Heap, StoresAt ⟨k230, 0, none⟩ h231 0 [(Value.bool b227), (Value.string s228)] h232 ∧
 ((i229 : Int) = i5 →
 Fin B h232 (fun h' => ∃ m', m' < m212 ∧ J215 (IntKind.wrap .i64 ((i210) + (1))) m' h')) ∧ (¬ ((i229 : Int) = i5) →
 Fin B h232 (Q (false))))) ∧ (¬ ((i210 : Int) < ((n131 : Nat))) →
 Fin B h211 (fun h' => S_countermandlaw18_RedoApplies_J8 B i5 p13 a190 n191 c192 k198 h' Q))) ∧ (b203 = false →
 Fin B h202 (Q (false))))))))
def S_countermandlaw18_RedoApplies (B : RO) (l1 : List Value) (a2 : Option Addr) (n3 : Nat) (c4 : Nat) (i5 : Int) (h : Heap) (Q : Bool → Heap → Prop) : Prop :=
 ∀ k7 : Nat, h k7 = none → B k7 = none → ∀ h8 : Heap, h8 = Heap.set h k7 (.vec 112 (plains l1) (List.length l1)) →
 C_countermandlaw18_alive B h8 (fun b10 h9 =>
 (b10 = true →
 ∃ l11 : List Value, List.length l11 = 12 ∧ CellsAt B h9 ⟨k7, 0, none⟩ 0 l11 ∧
 C_countermandlaw18_tomes B l11 h9 (fun p13 l14 b15 h12 =>
 (b15 = true →
 ∀ k125 : Nat, h12 k125 = none → B k125 = none → ∀ h126 : Heap, h126 = Heap.set h12 k125 (.vec 115 (plains [(Value.bool false), (Value.string ByteArray.empty), (Value.bool false), (Value.string ByteArray.empty), (Value.bool false), (Value.string ByteArray.empty), (Value.bool false), (Value.string ByteArray.empty), (Value.bool false), (Value.string ByteArray.empty), (Value.bool false), (Value.string ByteArray.empty)]) 12) →
 List.length l14 = 12 ∧ ∃ h127 : Heap, StoresAt ⟨k125, 0, none⟩ h126 0 l14 h127 ∧
 C_countermandlaw18_drawn B a2 n3 c4 h127 (fun p129 a130 n131 c132 b133 h128 =>
 (b133 = true →
 Fin B h128 (fun h' => S_countermandlaw18_RedoApplies_J7 B i5 p13 k125 p129 a130 n131 c132 h' Q)) ∧ (b133 = false →
 Fin B h128 (Q (true))))) ∧ (b15 = false →
 ∀ k16 : Nat, h12 k16 = none → B k16 = none → ∀ h17 : Heap, h17 = Heap.set h12 k16 (.vec 115 (plains [(Value.bool false), (Value.string ByteArray.empty), (Value.bool false), (Value.string ByteArray.empty), (Value.bool false), (Value.string ByteArray.empty), (Value.bool false), (Value.string ByteArray.empty), (Value.bool false), (Value.string ByteArray.empty), (Value.bool false), (Value.string ByteArray.empty)]) 12) →
 List.length l14 = 12 ∧ ∃ h18 : Heap, StoresAt ⟨k16, 0, none⟩ h17 0 l14 h18 ∧
 C_countermandlaw18_drawn B a2 n3 c4 h18 (fun p20 a21 n22 c23 b24 h19 =>
 (b24 = true →
 Fin B h19 (Q (true))) ∧ (b24 = false →
 Fin B h19 (Q (true))))))) ∧ (b10 = false →
 Fin B h9 (Q (false))))
def S_countermandlaw18_RedoReplays_J3 (B : RO) (a2 : Option Addr) (n3 : Nat) (c4 : Nat) (p12 : Option Addr) (k15 : Nat) (h28 : Heap) (Q : Bool → Heap → Prop) : Prop :=
 C_redo_Replay B p12 a2 n3 c4 h28 (fun i30 i31 h29 =>
 ∃ l32 : List Value, List.length l32 = 12 ∧ CellsAt B h29 ⟨k15, 0, none⟩ 0 l32 ∧
 C_countermandlaw18_are B p12 l32 h29 (fun b34 h33 =>
 Fin B h33 (Q (b34))))
def S_countermandlaw18_RedoReplays_J2 (B : RO) (a2 : Option Addr) (n3 : Nat) (c4 : Nat) (p12 : Option Addr) (k15 : Nat) (i21 : Int) (i22 : Int) (h23 : Heap) (Q : Bool → Heap → Prop) : Prop :=
 C_redo_Replay B p12 a2 n3 c4 h23 (fun i25 i26 h24 =>
 ((i25 : Int) = i21 →
 ((i26 : Int) = i22 →
 ∃ l37 : List Value, List.length l37 = 12 ∧ CellsAt B h24 ⟨k15, 0, none⟩ 0 l37 ∧
 C_countermandlaw18_are B p12 l37 h24 (fun b39 h38 =>
 (b39 = true →
 Fin B h38 (fun h' => S_countermandlaw18_RedoReplays_J3 B a2 n3 c4 p12 k15 h' Q)) ∧ (b39 = false →
 Fin B h38 (Q (false))))) ∧ (¬ ((i26 : Int) = i22) →
 Fin B h24 (Q (false)))) ∧ (¬ ((i25 : Int) = i21) →
 Fin B h24 (Q (false))))
def S_countermandlaw18_RedoReplays_J1 (B : RO) (a2 : Option Addr) (n3 : Nat) (c4 : Nat) (p12 : Option Addr) (k15 : Nat) (h19 : Heap) (Q : Bool → Heap → Prop) : Prop :=
 ∃ (J47 : Int → Int → Int → Nat → Heap → Prop) (m45 : Nat), Fin B h19 (J47 (0) (0) (0) m45) ∧
 ∀ (i40 : Int) (i41 : Int) (i42 : Int) (m44 : Nat) (h43 : Heap), J47 i40 i41 i42 m44 h43 →
 ((i42 : Int) < ((n3 : Nat)) →
 ∃ A49 : Addr, a2 = some A49 ∧ 0 ≤ (i42 : Int) ∧ (i42 : Int) < (n3 : Nat) ∧
 ∃ s51 : ByteArray, cellH B h43 (Addr.add A49 (Int.toNat (i42) * 1)) = some (Value.string s51) ∧
 (((ByteArray.size s51 : Nat) : Int) > (300) →
 Fin B h43 (Q (true))) ∧ (¬ (((ByteArray.size s51 : Nat) : Int) > (300)) →
 C_countermandref18_Read B s51 h43 (fun i54 a55 n56 c57 b58 h53 =>
 (b58 = true →
 ∃ l59 : List Value, List.length l59 = 12 ∧ CellsAt B h53 ⟨k15, 0, none⟩ 0 l59 ∧
 C_countermandref18_Apply B l59 a55 n56 c57 h53 (fun l61 h60 =>
 List.length l61 = 12 ∧ ∃ h62 : Heap, StoresAt ⟨k15, 0, none⟩ h60 0 l61 h62 ∧
 Fin B h62 (fun h' => ∃ m', m' < m44 ∧ J47 (if (i54 : Int) > (i40) then (i54 : Int) else (i40)) (IntKind.wrap .i64 ((i41) + (1))) (IntKind.wrap .i64 ((i42) + (1))) m' h'))) ∧ (b58 = false →
 Fin B h53 (fun h' => S_countermandlaw18_RedoReplays_J2 B a2 n3 c4 p12 k15 (i40) (i41) h' Q))))) ∧ (¬ ((i42 : Int) < ((n3 : Nat))) →
 Fin B h43 (fun h' => S_countermandlaw18_RedoReplays_J2 B a2 n3 c4 p12 k15 (i40) (i41) h' Q))
def S_countermandlaw18_RedoReplays_J6 (B : RO) (a2 : Option Addr) (n3 : Nat) (c4 : Nat) (p12 : Option Addr) (k63 : Nat) (h76 : Heap) (Q : Bool → Heap → Prop) : Prop :=
 C_redo_Replay B p12 a2 n3 c4 h76 (fun i78 i79 h77 =>
 ∃ l80 : List Value, List.length l80 = 12 ∧ CellsAt B h77 ⟨k63, 0, none⟩ 0 l80 ∧
 C_countermandlaw18_are B p12 l80 h77 (fun b82 h81 =>
 Fin B h81 (Q (b82))))
def S_countermandlaw18_RedoReplays_J5 (B : RO) (a2 : Option Addr) (n3 : Nat) (c4 : Nat) (p12 : Option Addr) (k63 : Nat) (i69 : Int) (i70 : Int) (h71 : Heap) (Q : Bool → Heap → Prop) : Prop :=
 C_redo_Replay B p12 a2 n3 c4 h71 (fun i73 i74 h72 =>
 ((i73 : Int) = i69 →
 ((i74 : Int) = i70 →
 ∃ l85 : List Value, List.length l85 = 12 ∧ CellsAt B h72 ⟨k63, 0, none⟩ 0 l85 ∧
 C_countermandlaw18_are B p12 l85 h72 (fun b87 h86 =>
 (b87 = true →
 Fin B h86 (fun h' => S_countermandlaw18_RedoReplays_J6 B a2 n3 c4 p12 k63 h' Q)) ∧ (b87 = false →
 Fin B h86 (Q (false))))) ∧ (¬ ((i74 : Int) = i70) →
 Fin B h72 (Q (false)))) ∧ (¬ ((i73 : Int) = i69) →
 Fin B h72 (Q (false))))
def S_countermandlaw18_RedoReplays_J4 (B : RO) (a2 : Option Addr) (n3 : Nat) (c4 : Nat) (p12 : Option Addr) (k63 : Nat) (h67 : Heap) (Q : Bool → Heap → Prop) : Prop :=
 ∃ (J95 : Int → Int → Int → Nat → Heap → Prop) (m93 : Nat), Fin B h67 (J95 (0) (0) (0) m93) ∧
 ∀ (i88 : Int) (i89 : Int) (i90 : Int) (m92 : Nat) (h91 : Heap), J95 i88 i89 i90 m92 h91 →
 ((i90 : Int) < ((n3 : Nat)) →
 ∃ A97 : Addr, a2 = some A97 ∧ 0 ≤ (i90 : Int) ∧ (i90 : Int) < (n3 : Nat) ∧
 ∃ s99 : ByteArray, cellH B h91 (Addr.add A97 (Int.toNat (i90) * 1)) = some (Value.string s99) ∧
 (((ByteArray.size s99 : Nat) : Int) > (300) →
 Fin B h91 (Q (true))) ∧ (¬ (((ByteArray.size s99 : Nat) : Int) > (300)) →
 C_countermandref18_Read B s99 h91 (fun i102 a103 n104 c105 b106 h101 =>
 (b106 = true →
 ∃ l107 : List Value, List.length l107 = 12 ∧ CellsAt B h101 ⟨k63, 0, none⟩ 0 l107 ∧
 C_countermandref18_Apply B l107 a103 n104 c105 h101 (fun l109 h108 =>
 List.length l109 = 12 ∧ ∃ h110 : Heap, StoresAt ⟨k63, 0, none⟩ h108 0 l109 h110 ∧
 Fin B h110 (fun h' => ∃ m', m' < m92 ∧ J95 (if (i102 : Int) > (i88) then (i102 : Int) else (i88)) (IntKind.wrap .i64 ((i89) + (1))) (IntKind.wrap .i64 ((i90) + (1))) m' h'))) ∧ (b106 = false →
 Fin B h101 (fun h' => S_countermandlaw18_RedoReplays_J5 B a2 n3 c4 p12 k63 (i88) (i89) h' Q))))) ∧ (¬ ((i90 : Int) < ((n3 : Nat))) →
 Fin B h91 (fun h' => S_countermandlaw18_RedoReplays_J5 B a2 n3 c4 p12 k63 (i88) (i89) h' Q))
def S_countermandlaw18_RedoReplays (B : RO) (l1 : List Value) (a2 : Option Addr) (n3 : Nat) (c4 : Nat) (h : Heap) (Q : Bool → Heap → Prop) : Prop :=
 ∀ k6 : Nat, h k6 = none → B k6 = none → ∀ h7 : Heap, h7 = Heap.set h k6 (.vec 112 (plains l1) (List.length l1)) →
 C_countermandlaw18_alive B h7 (fun b9 h8 =>
 (b9 = true →
 ∃ l10 : List Value, List.length l10 = 12 ∧ CellsAt B h8 ⟨k6, 0, none⟩ 0 l10 ∧
 C_countermandlaw18_tomes B l10 h8 (fun p12 l13 b14 h11 =>
 (b14 = true →
 ∀ k63 : Nat, h11 k63 = none → B k63 = none → ∀ h64 : Heap, h64 = Heap.set h11 k63 (.vec 115 (plains [(Value.bool false), (Value.string ByteArray.empty), (Value.bool false), (Value.string ByteArray.empty), (Value.bool false), (Value.string ByteArray.empty), (Value.bool false), (Value.string ByteArray.empty), (Value.bool false), (Value.string ByteArray.empty), (Value.bool false), (Value.string ByteArray.empty)]) 12) →
 List.length l13 = 12 ∧ ∃ h65 : Heap, StoresAt ⟨k63, 0, none⟩ h64 0 l13 h65 ∧
 (((n3 : Nat) : Int) > (20) →
 Fin B h65 (Q (true))) ∧ (¬ (((n3 : Nat) : Int) > (20)) →
 Fin B h65 (fun h' => S_countermandlaw18_RedoReplays_J4 B a2 n3 c4 p12 k63 h' Q))) ∧ (b14 = false →
 ∀ k15 : Nat, h11 k15 = none → B k15 = none → ∀ h16 : Heap, h16 = Heap.set h11 k15 (.vec 115 (plains [(Value.bool false), (Value.string ByteArray.empty), (Value.bool false), (Value.string ByteArray.empty), (Value.bool false), (Value.string ByteArray.empty), (Value.bool false), (Value.string ByteArray.empty), (Value.bool false), (Value.string ByteArray.empty), (Value.bool false), (Value.string ByteArray.empty)]) 12) →
 List.length l13 = 12 ∧ ∃ h17 : Heap, StoresAt ⟨k15, 0, none⟩ h16 0 l13 h17 ∧
 Fin B h17 (Q (true))))) ∧ (b9 = false →
 Fin B h8 (Q (false))))
def S_countermandlaw18_RedoLast_J1 (B : RO) (p15 : Option Addr) (k18 : Nat) (p22 : Option Addr) (a23 : Option Addr) (n24 : Nat) (c25 : Nat) (p28 : Option Addr) (a29 : Option Addr) (n30 : Nat) (c31 : Nat) (h34 : Heap) (Q : Bool → Heap → Prop) : Prop :=
 C_redo_Bytes B (3) p22 h34 (fun s36 h35 =>
 C_redo_Bytes B (2) p28 h35 (fun s38 h37 =>
 ∀ k39 : Nat, h37 k39 = none → B k39 = none → ∀ h40 : Heap, h40 = Heap.set h37 k39 (.vec 9 (plains [(Value.string s36), (Value.string s38)]) 2) →
 C_redo_Replay B p15 (some ⟨k39, 0, none⟩) 2 2 h40 (fun i42 i43 h41 =>
 ((i42 : Int) = 3 →
 ((i43 : Int) = 2 →
 ∃ l46 : List Value, List.length l46 = 12 ∧ CellsAt B h41 ⟨k18, 0, none⟩ 0 l46 ∧
 C_countermandref18_Apply B l46 a23 n24 c25 h41 (fun l48 h47 =>
 C_countermandref18_Apply B l48 a29 n30 c31 h47 (fun l50 h49 =>
 C_countermandlaw18_are B p15 l50 h49 (fun b52 h51 =>
 Fin B h51 (Q (b52)))))) ∧ (¬ ((i43 : Int) = 2) →
 Fin B h41 (Q (false)))) ∧ (¬ ((i42 : Int) = 3) →
 Fin B h41 (Q (false))))))
def S_countermandlaw18_RedoLast_J2 (B : RO) (p15 : Option Addr) (k18 : Nat) (p22 : Option Addr) (a23 : Option Addr) (n24 : Nat) (c25 : Nat) (p28 : Option Addr) (a29 : Option Addr) (n30 : Nat) (c31 : Nat) (h54 : Heap) (Q : Bool → Heap → Prop) : Prop :=
 C_redo_Bytes B (3) p22 h54 (fun s56 h55 =>
 C_redo_Bytes B (2) p28 h55 (fun s58 h57 =>
 ∀ k59 : Nat, h57 k59 = none → B k59 = none → ∀ h60 : Heap, h60 = Heap.set h57 k59 (.vec 9 (plains [(Value.string s56), (Value.string s58)]) 2) →
 C_redo_Replay B p15 (some ⟨k59, 0, none⟩) 2 2 h60 (fun i62 i63 h61 =>
 ((i62 : Int) = 3 →
 ((i63 : Int) = 2 →
 ∃ l66 : List Value, List.length l66 = 12 ∧ CellsAt B h61 ⟨k18, 0, none⟩ 0 l66 ∧
 C_countermandref18_Apply B l66 a23 n24 c25 h61 (fun l68 h67 =>
 C_countermandref18_Apply B l68 a29 n30 c31 h67 (fun l70 h69 =>
 C_countermandlaw18_are B p15 l70 h69 (fun b72 h71 =>
 Fin B h71 (Q (b72)))))) ∧ (¬ ((i63 : Int) = 2) →
 Fin B h61 (Q (false)))) ∧ (¬ ((i62 : Int) = 3) →
 Fin B h61 (Q (false))))))
def S_countermandlaw18_RedoLast_J3 (B : RO) (p15 : Option Addr) (k18 : Nat) (p22 : Option Addr) (a23 : Option Addr) (n24 : Nat) (c25 : Nat) (p74 : Option Addr) (a75 : Option Addr) (n76 : Nat) (c77 : Nat) (h80 : Heap) (Q : Bool → Heap → Prop) : Prop :=
 C_redo_Bytes B (3) p22 h80 (fun s82 h81 =>
 C_redo_Bytes B (2) p74 h81 (fun s84 h83 =>
 ∀ k85 : Nat, h83 k85 = none → B k85 = none → ∀ h86 : Heap, h86 = Heap.set h83 k85 (.vec 9 (plains [(Value.string s82), (Value.string s84)]) 2) →
 C_redo_Replay B p15 (some ⟨k85, 0, none⟩) 2 2 h86 (fun i88 i89 h87 =>
 ((i88 : Int) = 3 →
 ((i89 : Int) = 2 →
 ∃ l92 : List Value, List.length l92 = 12 ∧ CellsAt B h87 ⟨k18, 0, none⟩ 0 l92 ∧
 C_countermandref18_Apply B l92 a23 n24 c25 h87 (fun l94 h93 =>
 C_countermandref18_Apply B l94 a75 n76 c77 h93 (fun l96 h95 =>
 C_countermandlaw18_are B p15 l96 h95 (fun b98 h97 =>
 Fin B h97 (Q (b98)))))) ∧ (¬ ((i89 : Int) = 2) →
 Fin B h87 (Q (false)))) ∧ (¬ ((i88 : Int) = 3) →
 Fin B h87 (Q (false))))))
def S_countermandlaw18_RedoLast_J4 (B : RO) (p15 : Option Addr) (k18 : Nat) (p22 : Option Addr) (a23 : Option Addr) (n24 : Nat) (c25 : Nat) (p74 : Option Addr) (a75 : Option Addr) (n76 : Nat) (c77 : Nat) (h100 : Heap) (Q : Bool → Heap → Prop) : Prop :=
 C_redo_Bytes B (3) p22 h100 (fun s102 h101 =>
 C_redo_Bytes B (2) p74 h101 (fun s104 h103 =>
 ∀ k105 : Nat, h103 k105 = none → B k105 = none → ∀ h106 : Heap, h106 = Heap.set h103 k105 (.vec 9 (plains [(Value.string s102), (Value.string s104)]) 2) →
 C_redo_Replay B p15 (some ⟨k105, 0, none⟩) 2 2 h106 (fun i108 i109 h107 =>
 ((i108 : Int) = 3 →
 ((i109 : Int) = 2 →
 ∃ l112 : List Value, List.length l112 = 12 ∧ CellsAt B h107 ⟨k18, 0, none⟩ 0 l112 ∧
 C_countermandref18_Apply B l112 a23 n24 c25 h107 (fun l114 h113 =>
 C_countermandref18_Apply B l114 a75 n76 c77 h113 (fun l116 h115 =>
 C_countermandlaw18_are B p15 l116 h115 (fun b118 h117 =>
 Fin B h117 (Q (b118)))))) ∧ (¬ ((i109 : Int) = 2) →
 Fin B h107 (Q (false)))) ∧ (¬ ((i108 : Int) = 3) →
 Fin B h107 (Q (false))))))
def S_countermandlaw18_RedoLast_J5 (B : RO) (p15 : Option Addr) (k119 : Nat) (p123 : Option Addr) (a124 : Option Addr) (n125 : Nat) (c126 : Nat) (p129 : Option Addr) (a130 : Option Addr) (n131 : Nat) (c132 : Nat) (h135 : Heap) (Q : Bool → Heap → Prop) : Prop :=
 C_redo_Bytes B (3) p123 h135 (fun s137 h136 =>
 C_redo_Bytes B (2) p129 h136 (fun s139 h138 =>
 ∀ k140 : Nat, h138 k140 = none → B k140 = none → ∀ h141 : Heap, h141 = Heap.set h138 k140 (.vec 9 (plains [(Value.string s137), (Value.string s139)]) 2) →
 C_redo_Replay B p15 (some ⟨k140, 0, none⟩) 2 2 h141 (fun i143 i144 h142 =>
 ((i143 : Int) = 3 →
 ((i144 : Int) = 2 →
 ∃ l147 : List Value, List.length l147 = 12 ∧ CellsAt B h142 ⟨k119, 0, none⟩ 0 l147 ∧
 C_countermandref18_Apply B l147 a124 n125 c126 h142 (fun l149 h148 =>
 C_countermandref18_Apply B l149 a130 n131 c132 h148 (fun l151 h150 =>
 C_countermandlaw18_are B p15 l151 h150 (fun b153 h152 =>
 Fin B h152 (Q (b153)))))) ∧ (¬ ((i144 : Int) = 2) →
 Fin B h142 (Q (false)))) ∧ (¬ ((i143 : Int) = 3) →
 Fin B h142 (Q (false))))))
def S_countermandlaw18_RedoLast_J6 (B : RO) (p15 : Option Addr) (k119 : Nat) (p123 : Option Addr) (a124 : Option Addr) (n125 : Nat) (c126 : Nat) (p129 : Option Addr) (a130 : Option Addr) (n131 : Nat) (c132 : Nat) (h155 : Heap) (Q : Bool → Heap → Prop) : Prop :=
 C_redo_Bytes B (3) p123 h155 (fun s157 h156 =>
 C_redo_Bytes B (2) p129 h156 (fun s159 h158 =>
 ∀ k160 : Nat, h158 k160 = none → B k160 = none → ∀ h161 : Heap, h161 = Heap.set h158 k160 (.vec 9 (plains [(Value.string s157), (Value.string s159)]) 2) →
 C_redo_Replay B p15 (some ⟨k160, 0, none⟩) 2 2 h161 (fun i163 i164 h162 =>
 ((i163 : Int) = 3 →
 ((i164 : Int) = 2 →
 ∃ l167 : List Value, List.length l167 = 12 ∧ CellsAt B h162 ⟨k119, 0, none⟩ 0 l167 ∧
 C_countermandref18_Apply B l167 a124 n125 c126 h162 (fun l169 h168 =>
 C_countermandref18_Apply B l169 a130 n131 c132 h168 (fun l171 h170 =>
 C_countermandlaw18_are B p15 l171 h170 (fun b173 h172 =>
 Fin B h172 (Q (b173)))))) ∧ (¬ ((i164 : Int) = 2) →
 Fin B h162 (Q (false)))) ∧ (¬ ((i163 : Int) = 3) →
 Fin B h162 (Q (false))))))
def S_countermandlaw18_RedoLast_J7 (B : RO) (p15 : Option Addr) (k119 : Nat) (p123 : Option Addr) (a124 : Option Addr) (n125 : Nat) (c126 : Nat) (p175 : Option Addr) (a176 : Option Addr) (n177 : Nat) (c178 : Nat) (h181 : Heap) (Q : Bool → Heap → Prop) : Prop :=
 C_redo_Bytes B (3) p123 h181 (fun s183 h182 =>
 C_redo_Bytes B (2) p175 h182 (fun s185 h184 =>
 ∀ k186 : Nat, h184 k186 = none → B k186 = none → ∀ h187 : Heap, h187 = Heap.set h184 k186 (.vec 9 (plains [(Value.string s183), (Value.string s185)]) 2) →
 C_redo_Replay B p15 (some ⟨k186, 0, none⟩) 2 2 h187 (fun i189 i190 h188 =>
 ((i189 : Int) = 3 →
 ((i190 : Int) = 2 →
 ∃ l193 : List Value, List.length l193 = 12 ∧ CellsAt B h188 ⟨k119, 0, none⟩ 0 l193 ∧
 C_countermandref18_Apply B l193 a124 n125 c126 h188 (fun l195 h194 =>
 C_countermandref18_Apply B l195 a176 n177 c178 h194 (fun l197 h196 =>
 C_countermandlaw18_are B p15 l197 h196 (fun b199 h198 =>
 Fin B h198 (Q (b199)))))) ∧ (¬ ((i190 : Int) = 2) →
 Fin B h188 (Q (false)))) ∧ (¬ ((i189 : Int) = 3) →
 Fin B h188 (Q (false))))))
def S_countermandlaw18_RedoLast_J8 (B : RO) (p15 : Option Addr) (k119 : Nat) (p123 : Option Addr) (a124 : Option Addr) (n125 : Nat) (c126 : Nat) (p175 : Option Addr) (a176 : Option Addr) (n177 : Nat) (c178 : Nat) (h201 : Heap) (Q : Bool → Heap → Prop) : Prop :=
 C_redo_Bytes B (3) p123 h201 (fun s203 h202 =>
 C_redo_Bytes B (2) p175 h202 (fun s205 h204 =>
 ∀ k206 : Nat, h204 k206 = none → B k206 = none → ∀ h207 : Heap, h207 = Heap.set h204 k206 (.vec 9 (plains [(Value.string s203), (Value.string s205)]) 2) →
 C_redo_Replay B p15 (some ⟨k206, 0, none⟩) 2 2 h207 (fun i209 i210 h208 =>
 ((i209 : Int) = 3 →
 ((i210 : Int) = 2 →
 ∃ l213 : List Value, List.length l213 = 12 ∧ CellsAt B h208 ⟨k119, 0, none⟩ 0 l213 ∧
 C_countermandref18_Apply B l213 a124 n125 c126 h208 (fun l215 h214 =>
 C_countermandref18_Apply B l215 a176 n177 c178 h214 (fun l217 h216 =>
 C_countermandlaw18_are B p15 l217 h216 (fun b219 h218 =>
 Fin B h218 (Q (b219)))))) ∧ (¬ ((i210 : Int) = 2) →
 Fin B h208 (Q (false)))) ∧ (¬ ((i209 : Int) = 3) →
 Fin B h208 (Q (false))))))
def S_countermandlaw18_RedoLast (B : RO) (l1 : List Value) (a2 : Option Addr) (n3 : Nat) (c4 : Nat) (a5 : Option Addr) (n6 : Nat) (c7 : Nat) (h : Heap) (Q : Bool → Heap → Prop) : Prop :=
 ∀ k9 : Nat, h k9 = none → B k9 = none → ∀ h10 : Heap, h10 = Heap.set h k9 (.vec 112 (plains l1) (List.length l1)) →
 C_countermandlaw18_alive B h10 (fun b12 h11 =>
 (b12 = true →
 ∃ l13 : List Value, List.length l13 = 12 ∧ CellsAt B h11 ⟨k9, 0, none⟩ 0 l13 ∧
 C_countermandlaw18_tomes B l13 h11 (fun p15 l16 b17 h14 =>
 (b17 = true →
 ∀ k119 : Nat, h14 k119 = none → B k119 = none → ∀ h120 : Heap, h120 = Heap.set h14 k119 (.vec 115 (plains [(Value.bool false), (Value.string ByteArray.empty), (Value.bool false), (Value.string ByteArray.empty), (Value.bool false), (Value.string ByteArray.empty), (Value.bool false), (Value.string ByteArray.empty), (Value.bool false), (Value.string ByteArray.empty), (Value.bool false), (Value.string ByteArray.empty)]) 12) →
 List.length l16 = 12 ∧ ∃ h121 : Heap, StoresAt ⟨k119, 0, none⟩ h120 0 l16 h121 ∧
 C_countermandlaw18_drawn B a2 n3 c4 h121 (fun p123 a124 n125 c126 b127 h122 =>
 (b127 = true →
 C_countermandlaw18_drawn B a5 n6 c7 h122 (fun p175 a176 n177 c178 b179 h174 =>
 (b179 = true →
 Fin B h174 (fun h' => S_countermandlaw18_RedoLast_J8 B p15 k119 p123 a124 n125 c126 p175 a176 n177 c178 h' Q)) ∧ (b179 = false →
 Fin B h174 (Q (true))))) ∧ (b127 = false →
 C_countermandlaw18_drawn B a5 n6 c7 h122 (fun p129 a130 n131 c132 b133 h128 =>
 (b133 = true →
 Fin B h128 (Q (true))) ∧ (b133 = false →
 Fin B h128 (Q (true))))))) ∧ (b17 = false →
 ∀ k18 : Nat, h14 k18 = none → B k18 = none → ∀ h19 : Heap, h19 = Heap.set h14 k18 (.vec 115 (plains [(Value.bool false), (Value.string ByteArray.empty), (Value.bool false), (Value.string ByteArray.empty), (Value.bool false), (Value.string ByteArray.empty), (Value.bool false), (Value.string ByteArray.empty), (Value.bool false), (Value.string ByteArray.empty), (Value.bool false), (Value.string ByteArray.empty)]) 12) →
 List.length l16 = 12 ∧ ∃ h20 : Heap, StoresAt ⟨k18, 0, none⟩ h19 0 l16 h20 ∧
 C_countermandlaw18_drawn B a2 n3 c4 h20 (fun p22 a23 n24 c25 b26 h21 =>
 (b26 = true →
 C_countermandlaw18_drawn B a5 n6 c7 h21 (fun p74 a75 n76 c77 b78 h73 =>
 (b78 = true →
 Fin B h73 (Q (true))) ∧ (b78 = false →
 Fin B h73 (Q (true))))) ∧ (b26 = false →
 C_countermandlaw18_drawn B a5 n6 c7 h21 (fun p28 a29 n30 c31 b32 h27 =>
 (b32 = true →
 Fin B h27 (Q (true))) ∧ (b32 = false →
 Fin B h27 (Q (true))))))))) ∧ (b12 = false →
 Fin B h11 (Q (false))))
def S_countermandlaw18_alive (B : RO) (h : Heap) (Q : Bool → Heap → Prop) : Prop :=
 ∀ k2 : Nat, h k2 = none → B k2 = none → ∀ h3 : Heap, h3 = Heap.set h k2 (.vec 193 (plains [(Value.slice none 0 0)]) 1) →
 C_draft_Draft_file_File_Put B (some ⟨k2, 0, none⟩) (2) (true) (ByteArray.mk #[97, 98]) h3 (fun b5 h4 =>
 C_redo_Bytes B (1) (some ⟨k2, 0, none⟩) h4 (fun s7 h6 =>
 Fin B h6 (Q ((decide (s7 = (ByteArray.mk #[1, 2, 1, 2, 97, 98])))))))
def S_redo_Read_J1 (B : RO) (p8 : Option Addr) (i10 : Int) (a12 : Option Addr) (n13 : Nat) (c14 : Nat) (h15 : Heap) (Q : Int → Option Addr → Nat → Nat → Bool → Heap → Prop) : Prop :=
 C_stylus_Reader_Bad B p8 h15 (fun b17 h16 =>
 (b17 = true →
 Fin B h16 (Q (0) none 0 0 (false))) ∧ (b17 = false →
 Fin B h16 (Q (i10) a12 n13 c14 (true))))
def S_redo_Read_J3 (B : RO) (p8 : Option Addr) (i10 : Int) (a18 : Option Addr) (n19 : Nat) (c20 : Nat) (m23 : Nat) (J26 : Option Addr → Nat → Nat → Int → Nat → Heap → Prop) (k32 : Nat) (h38 : Heap) (Q : Int → Option Addr → Nat → Nat → Bool → Heap → Prop) : Prop :=
 ∃ i39 : Int, cellH B h38 ⟨k32, 0, none⟩ = some (Value.int .i64 (i39)) ∧
 ∃ i40 : Int, ∃ b41 : Bool, ∃ s42 : ByteArray, CellsAt B h38 ⟨k32, 0, none⟩ 0 [(Value.int .i64 (i40)), (Value.bool b41), (Value.string s42)] ∧
 ∀ k43 : Nat, h38 k43 = none → B k43 = none → ∀ h44 : Heap, h44 = Heap.set h38 k43 (.vec 199 (plains [(Value.int .i64 (i40)), (Value.bool b41), (Value.string s42)]) 3) →
 semH PG B (Builtin.append_ #[96, 96] 96 #[(Value.slice a18 n19 c20), (Value.slice (some ⟨k43, 0, none⟩) 1 1)]) h44 (fun v h45 => ∃ a46 : Option Addr, ∃ n47 : Nat, ∃ c48 : Nat, v = (Value.slice a46 n47 c48) ∧
 Fin B h45 (fun h' => ∃ m', m' < m23 ∧ J26 a46 n47 c48 (i39) m' h'))
def S_redo_Read_J2 (B : RO) (p8 : Option Addr) (i10 : Int) (a18 : Option Addr) (n19 : Nat) (c20 : Nat) (i21 : Int) (m23 : Nat) (J26 : Option Addr → Nat → Nat → Int → Nat → Heap → Prop) (k32 : Nat) (h36 : Heap) (Q : Int → Option Addr → Nat → Nat → Bool → Heap → Prop) : Prop :=
 C_stylus_Reader_Bad B p8 h36 (fun b50 h49 =>
 (b50 = true →
 Fin B h49 (Q (0) none 0 0 (false))) ∧ (b50 = false →
 ∃ i51 : Int, cellH B h49 ⟨k32, 0, none⟩ = some (Value.int .i64 (i51)) ∧
 ((i51 : Int) ≤ (i21) →
 Fin B h49 (Q (0) none 0 0 (false))) ∧ (¬ ((i51 : Int) ≤ (i21)) →
 Fin B h49 (fun h' => S_redo_Read_J3 B p8 i10 a18 n19 c20 m23 J26 k32 h' Q))))
def S_redo_Read (B : RO) (s1 : ByteArray) (h : Heap) (Q : Int → Option Addr → Nat → Nat → Bool → Heap → Prop) : Prop :=
 C_stylus_Of B s1 h (fun p8 h7 =>
 C_stylus_Reader_Nat B p8 (1099511627776) h7 (fun i10 h9 =>
 ∃ (J26 : Option Addr → Nat → Nat → Int → Nat → Heap → Prop) (m24 : Nat), Fin B h9 (J26 none 0 0 ((-1)) m24) ∧
 ∀ (a18 : Option Addr) (n19 : Nat) (c20 : Nat) (i21 : Int) (m23 : Nat) (h22 : Heap), J26 a18 n19 c20 i21 m23 h22 →
 C_stylus_Reader_Left B p8 h22 (fun i28 h27 =>
 ((i28 : Int) > (0) →
 C_stylus_Reader_Nat B p8 (5) h27 (fun i31 h30 =>
 ∀ k32 : Nat, h30 k32 = none → B k32 = none → ∀ h33 : Heap, h33 = Heap.set h30 k32 (.vec 199 (plains [(Value.int .i64 (0)), (Value.bool false), (Value.string ByteArray.empty)]) 3) →
 ∃ h34 : Heap, StoresAt ⟨k32, 0, none⟩ h33 0 [(Value.int .i64 (i31)), (Value.bool false), (Value.string ByteArray.empty)] h34 ∧
 C_stylus_Reader_Nat B p8 (1) h34 (fun i54 h53 =>
 ((i54 : Int) = 1 →
 C_stylus_Reader_Text B p8 (32) h53 (fun s57 h56 =>
 ∃ h58 : Heap, StoresAt ⟨k32, 1, none⟩ h56 0 [(Value.bool true), (Value.string s57)] h58 ∧
 Fin B h58 (fun h' => S_redo_Read_J2 B p8 i10 a18 n19 c20 i21 m23 J26 k32 h' Q))) ∧ (¬ ((i54 : Int) = 1) →
 Fin B h53 (fun h' => S_redo_Read_J2 B p8 i10 a18 n19 c20 i21 m23 J26 k32 h' Q))))) ∧ (¬ ((i28 : Int) > (0)) →
 Fin B h27 (fun h' => S_redo_Read_J1 B p8 i10 a18 n19 c20 h' Q)))))
def S_countermandref18_Read_J3 (B : RO) (i8 : Int) (a12 : Option Addr) (n13 : Nat) (c14 : Nat) (m16 : Nat) (J19 : ByteArray → Option Addr → Nat → Nat → Nat → Heap → Prop) (k21 : Nat) (i38 : Int) (s39 : ByteArray) (h42 : Heap) (Q : Int → Option Addr → Nat → Nat → Bool → Heap → Prop) : Prop :=
 0 ≤ (0 : Int) ∧ (0 : Int) ≤ (i38 : Int) ∧ (i38 : Int) ≤ (ByteArray.size s39 : Nat) ∧
 ∃ h43 : Heap, StoresAt ⟨k21, 1, none⟩ h42 0 [(Value.bool true), (Value.string (ByteArray.extract s39 (Int.toNat (0)) (Int.toNat (i38))))] h43 ∧
 0 ≤ (i38 : Int) ∧ (i38 : Int) ≤ ((ByteArray.size s39 : Nat) : Int) ∧ ((ByteArray.size s39 : Nat) : Int) ≤ (ByteArray.size s39 : Nat) ∧
 ∃ i44 : Int, ∃ b45 : Bool, ∃ s46 : ByteArray, CellsAt B h43 ⟨k21, 0, none⟩ 0 [(Value.int .i64 (i44)), (Value.bool b45), (Value.string s46)] ∧
 ∀ k47 : Nat, h43 k47 = none → B k47 = none → ∀ h48 : Heap, h48 = Heap.set h43 k47 (.vec 122 (plains [(Value.int .i64 (i44)), (Value.bool b45), (Value.string s46)]) 3) →
 semH PG B (Builtin.append_ #[99, 99] 99 #[(Value.slice a12 n13 c14), (Value.slice (some ⟨k47, 0, none⟩) 1 1)]) h48 (fun v h49 => ∃ a50 : Option Addr, ∃ n51 : Nat, ∃ c52 : Nat, v = (Value.slice a50 n51 c52) ∧
 Fin B h49 (fun h' => ∃ m', m' < m16 ∧ J19 (ByteArray.extract s39 (Int.toNat (i38)) (Int.toNat ((ByteArray.size s39 : Nat)))) a50 n51 c52 m' h'))
def S_countermandref18_Read_J4 (B : RO) (i8 : Int) (a12 : Option Addr) (n13 : Nat) (c14 : Nat) (m16 : Nat) (J19 : ByteArray → Option Addr → Nat → Nat → Nat → Heap → Prop) (k21 : Nat) (i38 : Int) (s39 : ByteArray) (h54 : Heap) (Q : Int → Option Addr → Nat → Nat → Bool → Heap → Prop) : Prop :=
 0 ≤ (0 : Int) ∧ (0 : Int) ≤ (i38 : Int) ∧ (i38 : Int) ≤ (ByteArray.size s39 : Nat) ∧
 ∃ h55 : Heap, StoresAt ⟨k21, 1, none⟩ h54 0 [(Value.bool true), (Value.string (ByteArray.extract s39 (Int.toNat (0)) (Int.toNat (i38))))] h55 ∧
 0 ≤ (i38 : Int) ∧ (i38 : Int) ≤ ((ByteArray.size s39 : Nat) : Int) ∧ ((ByteArray.size s39 : Nat) : Int) ≤ (ByteArray.size s39 : Nat) ∧
 ∃ i56 : Int, ∃ b57 : Bool, ∃ s58 : ByteArray, CellsAt B h55 ⟨k21, 0, none⟩ 0 [(Value.int .i64 (i56)), (Value.bool b57), (Value.string s58)] ∧
 ∀ k59 : Nat, h55 k59 = none → B k59 = none → ∀ h60 : Heap, h60 = Heap.set h55 k59 (.vec 122 (plains [(Value.int .i64 (i56)), (Value.bool b57), (Value.string s58)]) 3) →
 semH PG B (Builtin.append_ #[99, 99] 99 #[(Value.slice a12 n13 c14), (Value.slice (some ⟨k59, 0, none⟩) 1 1)]) h60 (fun v h61 => ∃ a62 : Option Addr, ∃ n63 : Nat, ∃ c64 : Nat, v = (Value.slice a62 n63 c64) ∧
 Fin B h61 (fun h' => ∃ m', m' < m16 ∧ J19 (ByteArray.extract s39 (Int.toNat (i38)) (Int.toNat ((ByteArray.size s39 : Nat)))) a62 n63 c64 m' h'))
def S_countermandref18_Read_J2 (B : RO) (i8 : Int) (a12 : Option Addr) (n13 : Nat) (c14 : Nat) (m16 : Nat) (J19 : ByteArray → Option Addr → Nat → Nat → Nat → Heap → Prop) (k21 : Nat) (s30 : ByteArray) (i32 : Int) (h35 : Heap) (Q : Int → Option Addr → Nat → Nat → Bool → Heap → Prop) : Prop :=
 ((i32 : Int) = 1 →
 C_countermandref18_nat B s30 (32) h35 (fun i38 s39 b40 h37 =>
 (b40 = true →
 ((i38 : Int) > ((ByteArray.size s39 : Nat)) →
 Fin B h37 (Q (0) none 0 0 (false))) ∧ (¬ ((i38 : Int) > ((ByteArray.size s39 : Nat))) →
 Fin B h37 (fun h' => S_countermandref18_Read_J4 B i8 a12 n13 c14 m16 J19 k21 i38 s39 h' Q))) ∧ (b40 = false →
 Fin B h37 (Q (0) none 0 0 (false))))) ∧ (¬ ((i32 : Int) = 1) →
 ∃ i66 : Int, ∃ b67 : Bool, ∃ s68 : ByteArray, CellsAt B h35 ⟨k21, 0, none⟩ 0 [(Value.int .i64 (i66)), (Value.bool b67), (Value.string s68)] ∧
 ∀ k69 : Nat, h35 k69 = none → B k69 = none → ∀ h70 : Heap, h70 = Heap.set h35 k69 (.vec 122 (plains [(Value.int .i64 (i66)), (Value.bool b67), (Value.string s68)]) 3) →
 semH PG B (Builtin.append_ #[99, 99] 99 #[(Value.slice a12 n13 c14), (Value.slice (some ⟨k69, 0, none⟩) 1 1)]) h70 (fun v h71 => ∃ a72 : Option Addr, ∃ n73 : Nat, ∃ c74 : Nat, v = (Value.slice a72 n73 c74) ∧
 Fin B h71 (fun h' => ∃ m', m' < m16 ∧ J19 s30 a72 n73 c74 m' h')))
def S_countermandref18_Read_J1 (B : RO) (i8 : Int) (a12 : Option Addr) (n13 : Nat) (c14 : Nat) (m16 : Nat) (J19 : ByteArray → Option Addr → Nat → Nat → Nat → Heap → Prop) (k21 : Nat) (s30 : ByteArray) (b31 : Bool) (i32 : Int) (h33 : Heap) (Q : Int → Option Addr → Nat → Nat → Bool → Heap → Prop) : Prop :=
 (b31 = true →
 (((n13 : Nat) : Int) > (0) →
 ∃ A76 : Addr, a12 = some A76 ∧ 0 ≤ (IntKind.wrap .i64 (((n13 : Nat)) - (1)) : Int) ∧ (IntKind.wrap .i64 (((n13 : Nat)) - (1)) : Int) < (n13 : Nat) ∧
 ∃ i78 : Int, cellH B h33 (Addr.add A76 (Int.toNat (IntKind.wrap .i64 (((n13 : Nat)) - (1))) * 3)) = some (Value.int .i64 (i78)) ∧
 ∃ i79 : Int, cellH B h33 ⟨k21, 0, none⟩ = some (Value.int .i64 (i79)) ∧
 ((i78 : Int) ≥ (i79) →
 Fin B h33 (Q (0) none 0 0 (false))) ∧ (¬ ((i78 : Int) ≥ (i79)) →
 Fin B h33 (fun h' => S_countermandref18_Read_J2 B i8 a12 n13 c14 m16 J19 k21 s30 i32 h' Q))) ∧ (¬ (((n13 : Nat) : Int) > (0)) →
 Fin B h33 (fun h' => S_countermandref18_Read_J2 B i8 a12 n13 c14 m16 J19 k21 s30 i32 h' Q))) ∧ (b31 = false →
 Fin B h33 (Q (0) none 0 0 (false)))
def S_countermandref18_Read_J7 (B : RO) (i8 : Int) (a12 : Option Addr) (n13 : Nat) (c14 : Nat) (m16 : Nat) (J19 : ByteArray → Option Addr → Nat → Nat → Nat → Heap → Prop) (k21 : Nat) (i91 : Int) (s92 : ByteArray) (h95 : Heap) (Q : Int → Option Addr → Nat → Nat → Bool → Heap → Prop) : Prop :=
 0 ≤ (0 : Int) ∧ (0 : Int) ≤ (i91 : Int) ∧ (i91 : Int) ≤ (ByteArray.size s92 : Nat) ∧
 ∃ h96 : Heap, StoresAt ⟨k21, 1, none⟩ h95 0 [(Value.bool true), (Value.string (ByteArray.extract s92 (Int.toNat (0)) (Int.toNat (i91))))] h96 ∧
 0 ≤ (i91 : Int) ∧ (i91 : Int) ≤ ((ByteArray.size s92 : Nat) : Int) ∧ ((ByteArray.size s92 : Nat) : Int) ≤ (ByteArray.size s92 : Nat) ∧
 ∃ i97 : Int, ∃ b98 : Bool, ∃ s99 : ByteArray, CellsAt B h96 ⟨k21, 0, none⟩ 0 [(Value.int .i64 (i97)), (Value.bool b98), (Value.string s99)] ∧
 ∀ k100 : Nat, h96 k100 = none → B k100 = none → ∀ h101 : Heap, h101 = Heap.set h96 k100 (.vec 122 (plains [(Value.int .i64 (i97)), (Value.bool b98), (Value.string s99)]) 3) →
 semH PG B (Builtin.append_ #[99, 99] 99 #[(Value.slice a12 n13 c14), (Value.slice (some ⟨k100, 0, none⟩) 1 1)]) h101 (fun v h102 => ∃ a103 : Option Addr, ∃ n104 : Nat, ∃ c105 : Nat, v = (Value.slice a103 n104 c105) ∧
 Fin B h102 (fun h' => ∃ m', m' < m16 ∧ J19 (ByteArray.extract s92 (Int.toNat (i91)) (Int.toNat ((ByteArray.size s92 : Nat)))) a103 n104 c105 m' h'))
def S_countermandref18_Read_J8 (B : RO) (i8 : Int) (a12 : Option Addr) (n13 : Nat) (c14 : Nat) (m16 : Nat) (J19 : ByteArray → Option Addr → Nat → Nat → Nat → Heap → Prop) (k21 : Nat) (i91 : Int) (s92 : ByteArray) (h107 : Heap) (Q : Int → Option Addr → Nat → Nat → Bool → Heap → Prop) : Prop :=
 0 ≤ (0 : Int) ∧ (0 : Int) ≤ (i91 : Int) ∧ (i91 : Int) ≤ (ByteArray.size s92 : Nat) ∧
 ∃ h108 : Heap, StoresAt ⟨k21, 1, none⟩ h107 0 [(Value.bool true), (Value.string (ByteArray.extract s92 (Int.toNat (0)) (Int.toNat (i91))))] h108 ∧
 0 ≤ (i91 : Int) ∧ (i91 : Int) ≤ ((ByteArray.size s92 : Nat) : Int) ∧ ((ByteArray.size s92 : Nat) : Int) ≤ (ByteArray.size s92 : Nat) ∧
 ∃ i109 : Int, ∃ b110 : Bool, ∃ s111 : ByteArray, CellsAt B h108 ⟨k21, 0, none⟩ 0 [(Value.int .i64 (i109)), (Value.bool b110), (Value.string s111)] ∧
 ∀ k112 : Nat, h108 k112 = none → B k112 = none → ∀ h113 : Heap, h113 = Heap.set h108 k112 (.vec 122 (plains [(Value.int .i64 (i109)), (Value.bool b110), (Value.string s111)]) 3) →
 semH PG B (Builtin.append_ #[99, 99] 99 #[(Value.slice a12 n13 c14), (Value.slice (some ⟨k112, 0, none⟩) 1 1)]) h113 (fun v h114 => ∃ a115 : Option Addr, ∃ n116 : Nat, ∃ c117 : Nat, v = (Value.slice a115 n116 c117) ∧
 Fin B h114 (fun h' => ∃ m', m' < m16 ∧ J19 (ByteArray.extract s92 (Int.toNat (i91)) (Int.toNat ((ByteArray.size s92 : Nat)))) a115 n116 c117 m' h'))
def S_countermandref18_Read_J6 (B : RO) (i8 : Int) (a12 : Option Addr) (n13 : Nat) (c14 : Nat) (m16 : Nat) (J19 : ByteArray → Option Addr → Nat → Nat → Nat → Heap → Prop) (k21 : Nat) (s83 : ByteArray) (i85 : Int) (h88 : Heap) (Q : Int → Option Addr → Nat → Nat → Bool → Heap → Prop) : Prop :=
 ((i85 : Int) = 1 →
 C_countermandref18_nat B s83 (32) h88 (fun i91 s92 b93 h90 =>
 (b93 = true →
 ((i91 : Int) > ((ByteArray.size s92 : Nat)) →
 Fin B h90 (Q (0) none 0 0 (false))) ∧ (¬ ((i91 : Int) > ((ByteArray.size s92 : Nat))) →
 Fin B h90 (fun h' => S_countermandref18_Read_J8 B i8 a12 n13 c14 m16 J19 k21 i91 s92 h' Q))) ∧ (b93 = false →
 Fin B h90 (Q (0) none 0 0 (false))))) ∧ (¬ ((i85 : Int) = 1) →
 ∃ i119 : Int, ∃ b120 : Bool, ∃ s121 : ByteArray, CellsAt B h88 ⟨k21, 0, none⟩ 0 [(Value.int .i64 (i119)), (Value.bool b120), (Value.string s121)] ∧
 ∀ k122 : Nat, h88 k122 = none → B k122 = none → ∀ h123 : Heap, h123 = Heap.set h88 k122 (.vec 122 (plains [(Value.int .i64 (i119)), (Value.bool b120), (Value.string s121)]) 3) →
 semH PG B (Builtin.append_ #[99, 99] 99 #[(Value.slice a12 n13 c14), (Value.slice (some ⟨k122, 0, none⟩) 1 1)]) h123 (fun v h124 => ∃ a125 : Option Addr, ∃ n126 : Nat, ∃ c127 : Nat, v = (Value.slice a125 n126 c127) ∧
 Fin B h124 (fun h' => ∃ m', m' < m16 ∧ J19 s83 a125 n126 c127 m' h')))
def S_countermandref18_Read_J5 (B : RO) (i8 : Int) (a12 : Option Addr) (n13 : Nat) (c14 : Nat) (m16 : Nat) (J19 : ByteArray → Option Addr → Nat → Nat → Nat → Heap → Prop) (k21 : Nat) (s83 : ByteArray) (b84 : Bool) (i85 : Int) (h86 : Heap) (Q : Int → Option Addr → Nat → Nat → Bool → Heap → Prop) : Prop :=
 (b84 = true →
 (((n13 : Nat) : Int) > (0) →
 ∃ A129 : Addr, a12 = some A129 ∧ 0 ≤ (IntKind.wrap .i64 (((n13 : Nat)) - (1)) : Int) ∧ (IntKind.wrap .i64 (((n13 : Nat)) - (1)) : Int) < (n13 : Nat) ∧
 ∃ i131 : Int, cellH B h86 (Addr.add A129 (Int.toNat (IntKind.wrap .i64 (((n13 : Nat)) - (1))) * 3)) = some (Value.int .i64 (i131)) ∧
 ∃ i132 : Int, cellH B h86 ⟨k21, 0, none⟩ = some (Value.int .i64 (i132)) ∧
 ((i131 : Int) ≥ (i132) →
 Fin B h86 (Q (0) none 0 0 (false))) ∧ (¬ ((i131 : Int) ≥ (i132)) →
 Fin B h86 (fun h' => S_countermandref18_Read_J6 B i8 a12 n13 c14 m16 J19 k21 s83 i85 h' Q))) ∧ (¬ (((n13 : Nat) : Int) > (0)) →
 Fin B h86 (fun h' => S_countermandref18_Read_J6 B i8 a12 n13 c14 m16 J19 k21 s83 i85 h' Q))) ∧ (b84 = false →
 Fin B h86 (Q (0) none 0 0 (false)))
def S_countermandref18_Read (B : RO) (s1 : ByteArray) (h : Heap) (Q : Int → Option Addr → Nat → Nat → Bool → Heap → Prop) : Prop :=
 C_countermandref18_nat B s1 (1099511627776) h (fun i8 s9 b10 h7 =>
 (b10 = true →
 ∃ (J19 : ByteArray → Option Addr → Nat → Nat → Nat → Heap → Prop) (m17 : Nat), Fin B h7 (J19 s9 none 0 0 m17) ∧
 ∀ (s11 : ByteArray) (a12 : Option Addr) (n13 : Nat) (c14 : Nat) (m16 : Nat) (h15 : Heap), J19 s11 a12 n13 c14 m16 h15 →
 (((ByteArray.size s11 : Nat) : Int) > (0) →
 ∀ k21 : Nat, h15 k21 = none → B k21 = none → ∀ h22 : Heap, h22 = Heap.set h15 k21 (.vec 122 (plains [(Value.int .i64 (0)), (Value.bool false), (Value.string ByteArray.empty)]) 3) →
 ∃ h23 : Heap, StoresAt ⟨k21, 0, none⟩ h22 0 [(Value.int .i64 (0)), (Value.bool false), (Value.string ByteArray.empty)] h23 ∧
 C_countermandref18_nat B s11 (5) h23 (fun i25 s26 b27 h24 =>
 (b27 = true →
 ∃ h81 : Heap, storeH h24 ⟨k21, 0, none⟩ (Value.int .i64 (i25)) = some h81 ∧
 C_countermandref18_nat B s26 (1) h81 (fun i135 s136 b137 h134 =>
 (b137 = true →
 Fin B h134 (fun h' => S_countermandref18_Read_J5 B i8 a12 n13 c14 m16 J19 k21 s136 (true) (i135) h' Q)) ∧ (b137 = false →
 Fin B h134 (fun h' => S_countermandref18_Read_J5 B i8 a12 n13 c14 m16 J19 k21 s136 (false) (i135) h' Q)))) ∧ (b27 = false →
 ∃ h28 : Heap, storeH h24 ⟨k21, 0, none⟩ (Value.int .i64 (i25)) = some h28 ∧
 Fin B h28 (fun h' => S_countermandref18_Read_J1 B i8 a12 n13 c14 m16 J19 k21 s26 (false) (0) h' Q)))) ∧ (¬ (((ByteArray.size s11 : Nat) : Int) > (0)) →
 Fin B h15 (Q (i8) a12 n13 c14 (true)))) ∧ (b10 = false →
 Fin B h7 (Q (0) none 0 0 (false))))
def S_countermandlaw18_same (B : RO) (a1 : Option Addr) (n2 : Nat) (c3 : Nat) (a4 : Option Addr) (n5 : Nat) (c6 : Nat) (h : Heap) (Q : Bool → Heap → Prop) : Prop :=
 (((n2 : Nat) : Int) = (n5 : Nat) →
 ∃ (J14 : Int → Nat → Heap → Prop) (m12 : Nat), Fin B h (J14 (0) m12) ∧
 ∀ (i9 : Int) (m11 : Nat) (h10 : Heap), J14 i9 m11 h10 →
 ((i9 : Int) < ((n2 : Nat)) →
 ∃ A16 : Addr, a1 = some A16 ∧ 0 ≤ (i9 : Int) ∧ (i9 : Int) < (n2 : Nat) ∧
 ∃ i18 : Int, ∃ b19 : Bool, ∃ s20 : ByteArray, CellsAt B h10 (Addr.add A16 (Int.toNat (i9) * 3)) 0 [(Value.int .i64 (i18)), (Value.bool b19), (Value.string s20)] ∧
 ∀ k21 : Nat, h10 k21 = none → B k21 = none → ∀ h22 : Heap, h22 = Heap.set h10 k21 (.vec 199 (plains [(Value.int .i64 (0)), (Value.bool false), (Value.string ByteArray.empty)]) 3) →
 ∃ h23 : Heap, StoresAt ⟨k21, 0, none⟩ h22 0 [(Value.int .i64 (i18)), (Value.bool b19), (Value.string s20)] h23 ∧
 ∃ i24 : Int, cellH B h23 ⟨k21, 0, none⟩ = some (Value.int .i64 (i24)) ∧
 ∃ A25 : Addr, a4 = some A25 ∧ 0 ≤ (i9 : Int) ∧ (i9 : Int) < (n5 : Nat) ∧
 ∃ i27 : Int, cellH B h23 (Addr.add A25 (Int.toNat (i9) * 3)) = some (Value.int .i64 (i27)) ∧
 ((i24 : Int) = i27 →
 ∃ b29 : Bool, ∃ s30 : ByteArray, CellsAt B h23 ⟨k21, 1, none⟩ 0 [(Value.bool b29), (Value.string s30)] ∧
 ∃ A31 : Addr, a4 = some A31 ∧ 0 ≤ (i9 : Int) ∧ (i9 : Int) < (n5 : Nat) ∧
 ∃ b33 : Bool, ∃ s34 : ByteArray, CellsAt B h23 (Addr.add (Addr.add A31 (Int.toNat (i9) * 3)) 1) 0 [(Value.bool b33), (Value.string s34)] ∧
 (eqL [(Value.bool b29), (Value.string s30)] [(Value.bool b33), (Value.string s34)] = true →
 Fin B h23 (fun h' => ∃ m', m' < m11 ∧ J14 (IntKind.wrap .i64 ((i9) + (1))) m' h')) ∧ (¬ (eqL [(Value.bool b29), (Value.string s30)] [(Value.bool b33), (Value.string s34)] = true) →
 Fin B h23 (Q (false)))) ∧ (¬ ((i24 : Int) = i27) →
 Fin B h23 (Q (false)))) ∧ (¬ ((i9 : Int) < ((n2 : Nat))) →
 Fin B h10 (Q (true)))) ∧ (¬ (((n2 : Nat) : Int) = (n5 : Nat)) →
 Fin B h (Q (false)))
def S_countermandref18_Bytes (B : RO) (i1 : Int) (a2 : Option Addr) (n3 : Nat) (c4 : Nat) (h : Heap) (Q : ByteArray → Heap → Prop) : Prop :=
 C_countermandref01_Nat B (i1) h (fun s7 h6 =>
 ∃ (J14 : ByteArray → Int → Nat → Heap → Prop) (m12 : Nat), Fin B h6 (J14 s7 (0) m12) ∧
 ∀ (s8 : ByteArray) (i9 : Int) (m11 : Nat) (h10 : Heap), J14 s8 i9 m11 h10 →
 ((i9 : Int) < ((n3 : Nat)) →
 ∃ A16 : Addr, a2 = some A16 ∧ 0 ≤ (i9 : Int) ∧ (i9 : Int) < (n3 : Nat) ∧
 ∃ i18 : Int, ∃ b19 : Bool, ∃ s20 : ByteArray, CellsAt B h10 (Addr.add A16 (Int.toNat (i9) * 3)) 0 [(Value.int .i64 (i18)), (Value.bool b19), (Value.string s20)] ∧
 ∀ k21 : Nat, h10 k21 = none → B k21 = none → ∀ h22 : Heap, h22 = Heap.set h10 k21 (.vec 122 (plains [(Value.int .i64 (0)), (Value.bool false), (Value.string ByteArray.empty)]) 3) →
 ∃ h23 : Heap, StoresAt ⟨k21, 0, none⟩ h22 0 [(Value.int .i64 (i18)), (Value.bool b19), (Value.string s20)] h23 ∧
 ∃ i24 : Int, cellH B h23 ⟨k21, 0, none⟩ = some (Value.int .i64 (i24)) ∧
 C_countermandref01_Nat B (i24) h23 (fun s26 h25 =>
 ByteArray.size s8 + ByteArray.size s26 ≤ 4611686018427387904 ∧
 ∃ b27 : Bool, cellH B h25 ⟨k21, 1, none⟩ = some (Value.bool b27) ∧ (b27 = true →
 ByteArray.size (s8 ++ s26) + ByteArray.size (ByteArray.mk #[1]) ≤ 4611686018427387904 ∧
 ∃ s28 : ByteArray, cellH B h25 ⟨k21, 2, none⟩ = some (Value.string s28) ∧
 C_countermandref01_Text B s28 h25 (fun s30 h29 =>
 ByteArray.size ((s8 ++ s26) ++ (ByteArray.mk #[1])) + ByteArray.size s30 ≤ 4611686018427387904 ∧
 Fin B h29 (fun h' => ∃ m', m' < m11 ∧ J14 (((s8 ++ s26) ++ (ByteArray.mk #[1])) ++ s30) (IntKind.wrap .i64 ((i9) + (1))) m' h'))) ∧ (b27 = false →
 ByteArray.size (s8 ++ s26) + ByteArray.size (ByteArray.mk #[0]) ≤ 4611686018427387904 ∧
 Fin B h25 (fun h' => ∃ m', m' < m11 ∧ J14 ((s8 ++ s26) ++ (ByteArray.mk #[0])) (IntKind.wrap .i64 ((i9) + (1))) m' h')))) ∧ (¬ ((i9 : Int) < ((n3 : Nat))) →
 Fin B h10 (Q s8)))
def S_countermandlaw18_drawn_J1 (B : RO) (k9 : Nat) (h13 : Heap) (Q : Option Addr → Option Addr → Nat → Nat → Bool → Heap → Prop) : Prop :=
 ∀ k14 : Nat, h13 k14 = none → B k14 = none → ∀ h15 : Heap, h15 = Heap.set h13 k14 (.vec 99 (plains [(Value.slice none 0 0)]) 1) →
 C_draft_Draft_file_File_All B (some ⟨k9, 0, none⟩) h15 (fun v17 h16 =>
 ∃ (xs25 : List (Int × Bool × ByteArray)) (G21 : Heap → Prop) (J24 : Nat → Heap → Prop), Iter PG B v17 (xs25.map (fun x : Int × Bool × ByteArray => [(Value.int .i64 (x.1)), (Value.agg #[(Value.bool x.2.1), (Value.string x.2.2)])])) G21 ∧ Ins G21 ∧ (∀ i h, J24 i h → G21 h) ∧ Fin B h16 (J24 0) ∧
 (∀ (q23 : Nat) (h22 : Heap) (i18 : Int) (b19 : Bool) (s20 : ByteArray), xs25[q23]? = some (i18, b19, s20) → J24 q23 h22 →
 ∀ k26 : Nat, h22 k26 = none → B k26 = none → ∀ h27 : Heap, h27 = Heap.set h22 k26 (.vec 111 (plains [(Value.bool false), (Value.string ByteArray.empty)]) 2) →
 ∃ h28 : Heap, StoresAt ⟨k26, 0, none⟩ h27 0 [(Value.bool b19), (Value.string s20)] h28 ∧
 LdSl B h28 ⟨k14, 0, none⟩ fun a29 n30 c31 h32 =>
 ∃ b33 : Bool, ∃ s34 : ByteArray, CellsAt B h32 ⟨k26, 0, none⟩ 0 [(Value.bool b33), (Value.string s34)] ∧
 ∀ k35 : Nat, h32 k35 = none → B k35 = none → ∀ h36 : Heap, h36 = Heap.set h32 k35 (.vec 122 (plains [(Value.int .i64 (i18)), (Value.bool b33), (Value.string s34)]) 3) →
 semH PG B (Builtin.append_ #[99, 99] 99 #[(Value.slice a29 n30 c31), (Value.slice (some ⟨k35, 0, none⟩) 1 1)]) h36 (fun v h37 => ∃ a38 : Option Addr, ∃ n39 : Nat, ∃ c40 : Nat, v = (Value.slice a38 n39 c40) ∧
 ∃ h41 : Heap, storeH h37 ⟨k14, 0, none⟩ (Value.slice a38 n39 c40) = some h41 ∧
 Fin B h41 (J24 (q23 + 1)))) ∧
 (∀ (h22 : Heap), J24 xs25.length h22 →
 ∃ a42 : Option Addr, ∃ n43 : Nat, ∃ c44 : Nat, cellH B h22 ⟨k14, 0, none⟩ = some (Value.slice a42 n43 c44) ∧
 Fin B h22 (Q (some ⟨k9, 0, none⟩) a42 n43 c44 (true))))
def S_countermandlaw18_drawn_J2 (B : RO) (a1 : Option Addr) (n2 : Nat) (c3 : Nat) (k9 : Nat) (i45 : Int) (m47 : Nat) (J50 : Int → Nat → Heap → Prop) (k57 : Nat) (h61 : Heap) (Q : Option Addr → Option Addr → Nat → Nat → Bool → Heap → Prop) : Prop :=
 ∃ i62 : Int, cellH B h61 ⟨k57, 0, none⟩ = some (Value.int .i64 (i62)) ∧
 ∃ b63 : Bool, ∃ s64 : ByteArray, CellsAt B h61 ⟨k57, 1, none⟩ 0 [(Value.bool b63), (Value.string s64)] ∧
 C_draft_Draft_file_File_Put B (some ⟨k9, 0, none⟩) (i62) (b63) s64 h61 (fun b66 h65 =>
 Fin B h65 (fun h' => ∃ m', m' < m47 ∧ J50 (IntKind.wrap .i64 ((i45) + (1))) m' h'))
def S_countermandlaw18_drawn (B : RO) (a1 : Option Addr) (n2 : Nat) (c3 : Nat) (h : Heap) (Q : Option Addr → Option Addr → Nat → Nat → Bool → Heap → Prop) : Prop :=
 ∀ k9 : Nat, h k9 = none → B k9 = none → ∀ h10 : Heap, h10 = Heap.set h k9 (.vec 193 (plains [(Value.slice none 0 0)]) 1) →
 (((n2 : Nat) : Int) > (40) →
 Fin B h10 (Q (some ⟨k9, 0, none⟩) none 0 0 (false))) ∧ (¬ (((n2 : Nat) : Int) > (40)) →
 ∃ (J50 : Int → Nat → Heap → Prop) (m48 : Nat), Fin B h10 (J50 (0) m48) ∧
 ∀ (i45 : Int) (m47 : Nat) (h46 : Heap), J50 i45 m47 h46 →
 ((i45 : Int) < ((n2 : Nat)) →
 ∃ A52 : Addr, a1 = some A52 ∧ 0 ≤ (i45 : Int) ∧ (i45 : Int) < (n2 : Nat) ∧
 ∃ i54 : Int, ∃ b55 : Bool, ∃ s56 : ByteArray, CellsAt B h46 (Addr.add A52 (Int.toNat (i45) * 3)) 0 [(Value.int .i64 (i54)), (Value.bool b55), (Value.string s56)] ∧
 ∀ k57 : Nat, h46 k57 = none → B k57 = none → ∀ h58 : Heap, h58 = Heap.set h46 k57 (.vec 199 (plains [(Value.int .i64 (0)), (Value.bool false), (Value.string ByteArray.empty)]) 3) →
 ∃ h59 : Heap, StoresAt ⟨k57, 0, none⟩ h58 0 [(Value.int .i64 (i54)), (Value.bool b55), (Value.string s56)] h59 ∧
 ∃ i67 : Int, cellH B h59 ⟨k57, 0, none⟩ = some (Value.int .i64 (i67)) ∧
 ((i67 : Int) < (0) →
 Fin B h59 (Q (some ⟨k9, 0, none⟩) none 0 0 (false))) ∧ (¬ ((i67 : Int) < (0)) →
 ∃ i69 : Int, cellH B h59 ⟨k57, 0, none⟩ = some (Value.int .i64 (i69)) ∧
 ((i69 : Int) > (5) →
 Fin B h59 (Q (some ⟨k9, 0, none⟩) none 0 0 (false))) ∧ (¬ ((i69 : Int) > (5)) →
 ∃ b71 : Bool, ∃ s72 : ByteArray, CellsAt B h59 ⟨k57, 1, none⟩ 0 [(Value.bool b71), (Value.string s72)] ∧
 C_file_Good B (b71) s72 h59 (fun b74 h73 =>
 (b74 = true →
 Fin B h73 (fun h' => S_countermandlaw18_drawn_J2 B a1 n2 c3 k9 i45 m47 J50 k57 h' Q)) ∧ (b74 = false →
 Fin B h73 (Q (some ⟨k9, 0, none⟩) none 0 0 (false))))))) ∧ (¬ ((i45 : Int) < ((n2 : Nat))) →
 Fin B h46 (fun h' => S_countermandlaw18_drawn_J1 B k9 h' Q)))
def S_redo_Bytes (B : RO) (i1 : Int) (p2 : Option Addr) (h : Heap) (Q : ByteArray → Heap → Prop) : Prop :=
 ∀ k4 : Nat, h k4 = none → B k4 = none → ∀ h5 : Heap, h5 = Heap.set h k4 (.vec 210 (plains [(Value.slice none 0 0)]) 1) →
 ∀ k6 : Nat, h5 k6 = none → B k6 = none → ∀ h7 : Heap, h7 = Heap.set h5 k6 (.vec 207 (plains [(Value.pointer none)]) 1) →
 ∃ h8 : Heap, storeH h7 ⟨k6, 0, none⟩ (Value.pointer (some ⟨k4, 0, none⟩)) = some h8 ∧
 ∃ p9 : Option Addr, cellH B h8 ⟨k6, 0, none⟩ = some (Value.pointer p9) ∧
 ∀ k10 : Nat, h8 k10 = none → B k10 = none → ∀ h11 : Heap, h11 = Heap.set h8 k10 (.vec 3 (plains [(Value.int .i64 (i1))]) 1) →
 C_stylus_Stylus_Nat B p9 (some ⟨k10, 0, none⟩) 1 1 h11 (fun h12 =>
 C_draft_Draft_file_File_All B p2 h12 (fun v14 h13 =>
 ∃ (xs22 : List (Int × Bool × ByteArray)) (G18 : Heap → Prop) (J21 : Nat → Heap → Prop), Iter PG B v14 (xs22.map (fun x : Int × Bool × ByteArray => [(Value.int .i64 (x.1)), (Value.agg #[(Value.bool x.2.1), (Value.string x.2.2)])])) G18 ∧ Ins G18 ∧ (∀ i h, J21 i h → G18 h) ∧ Fin B h13 (J21 0) ∧
 (∀ (q20 : Nat) (h19 : Heap) (i15 : Int) (b16 : Bool) (s17 : ByteArray), xs22[q20]? = some (i15, b16, s17) → J21 q20 h19 →
 ∀ k23 : Nat, h19 k23 = none → B k23 = none → ∀ h24 : Heap, h24 = Heap.set h19 k23 (.vec 111 (plains [(Value.bool false), (Value.string ByteArray.empty)]) 2) →
 ∃ h25 : Heap, StoresAt ⟨k23, 0, none⟩ h24 0 [(Value.bool b16), (Value.string s17)] h25 ∧
 ∃ b26 : Bool, cellH B h25 ⟨k23, 0, none⟩ = some (Value.bool b26) ∧ (b26 = true →
 ∃ p31 : Option Addr, cellH B h25 ⟨k6, 0, none⟩ = some (Value.pointer p31) ∧
 ∀ k32 : Nat, h25 k32 = none → B k32 = none → ∀ h33 : Heap, h33 = Heap.set h25 k32 (.vec 3 (plains [(Value.int .i64 (i15)), (Value.int .i64 (1))]) 2) →
 C_stylus_Stylus_Nat B p31 (some ⟨k32, 0, none⟩) 2 2 h33 (fun h34 =>
 ∃ p35 : Option Addr, cellH B h34 ⟨k6, 0, none⟩ = some (Value.pointer p35) ∧
 ∃ s36 : ByteArray, cellH B h34 ⟨k23, 1, none⟩ = some (Value.string s36) ∧
 ∀ k37 : Nat, h34 k37 = none → B k37 = none → ∀ h38 : Heap, h38 = Heap.set h34 k37 (.vec 9 (plains [(Value.string s36)]) 1) →
 C_stylus_Stylus_Text B p35 (some ⟨k37, 0, none⟩) 1 1 h38 (fun h39 =>
 Fin B h39 (J21 (q20 + 1))))) ∧ (b26 = false →
 ∃ p27 : Option Addr, cellH B h25 ⟨k6, 0, none⟩ = some (Value.pointer p27) ∧
 ∀ k28 : Nat, h25 k28 = none → B k28 = none → ∀ h29 : Heap, h29 = Heap.set h25 k28 (.vec 3 (plains [(Value.int .i64 (i15)), (Value.int .i64 (0))]) 2) →
 C_stylus_Stylus_Nat B p27 (some ⟨k28, 0, none⟩) 2 2 h29 (fun h30 =>
 Fin B h30 (J21 (q20 + 1))))) ∧
 (∀ (h19 : Heap), J21 xs22.length h19 →
 ∃ p40 : Option Addr, cellH B h19 ⟨k6, 0, none⟩ = some (Value.pointer p40) ∧
 C_stylus_Stylus_Bytes B p40 h19 (fun s42 h41 =>
 Fin B h41 (Q s42)))))
def S_countermandlaw18_tomes (B : RO) (l1 : List Value) (h : Heap) (Q : Option Addr → List Value → Bool → Heap → Prop) : Prop :=
 ∀ k5 : Nat, h k5 = none → B k5 = none → ∀ h6 : Heap, h6 = Heap.set h k5 (.vec 112 (plains l1) (List.length l1)) →
 ∀ k7 : Nat, h6 k7 = none → B k7 = none → ∀ h8 : Heap, h8 = Heap.set h6 k7 (.vec 115 (plains [(Value.bool false), (Value.string ByteArray.empty), (Value.bool false), (Value.string ByteArray.empty), (Value.bool false), (Value.string ByteArray.empty), (Value.bool false), (Value.string ByteArray.empty), (Value.bool false), (Value.string ByteArray.empty), (Value.bool false), (Value.string ByteArray.empty)]) 12) →
 C_tome_New B h8 (fun p10 h9 =>
 ∀ k11 : Nat, h9 k11 = none → B k11 = none → ∀ h12 : Heap, h12 = Heap.set h9 k11 (.vec 115 (plains [(Value.bool false), (Value.string ByteArray.empty), (Value.bool false), (Value.string ByteArray.empty), (Value.bool false), (Value.string ByteArray.empty), (Value.bool false), (Value.string ByteArray.empty), (Value.bool false), (Value.string ByteArray.empty), (Value.bool false), (Value.string ByteArray.empty)]) 12) →
 ∃ l13 : List Value, List.length l13 = 12 ∧ CellsAt B h12 ⟨k5, 0, none⟩ 0 l13 ∧
 ∃ (J19 : Int → Nat → Heap → Prop) (m17 : Nat), Fin B h12 (J19 (0) m17) ∧
 ∀ (i14 : Int) (m16 : Nat) (h15 : Heap), J19 i14 m16 h15 →
 ((i14 : Int) < (6) →
 0 ≤ (i14 : Int) ∧ (i14 : Int) < (6 : Nat) ∧ ∃ b21 : Bool, ∃ s22 : ByteArray, Array.extract (List.toArray l13) (Int.toNat (i14) * 2) (Int.toNat (i14) * 2 + 2) = #[(Value.bool b21), (Value.string s22)] ∧
 ∀ k23 : Nat, h15 k23 = none → B k23 = none → ∀ h24 : Heap, h24 = Heap.set h15 k23 (.vec 111 (plains [(Value.bool false), (Value.string ByteArray.empty)]) 2) →
 ∃ h25 : Heap, StoresAt ⟨k23, 0, none⟩ h24 0 [(Value.bool b21), (Value.string s22)] h25 ∧
 ∃ b26 : Bool, ∃ s27 : ByteArray, CellsAt B h25 ⟨k23, 0, none⟩ 0 [(Value.bool b26), (Value.string s27)] ∧
 C_tome_Tome_Set B p10 (i14) (b26) s27 (0) h25 (fun b29 h28 =>
 (b29 = true →
 ∃ b37 : Bool, ∃ s38 : ByteArray, CellsAt B h28 ⟨k23, 0, none⟩ 0 [(Value.bool b37), (Value.string s38)] ∧
 0 ≤ (i14 : Int) ∧ (i14 : Int) < (6 : Nat) ∧
 ∃ h39 : Heap, StoresAt (Addr.add ⟨k11, 0, none⟩ (Int.toNat (i14) * 2)) h28 0 [(Value.bool b37), (Value.string s38)] h39 ∧
 Fin B h39 (fun h' => ∃ m', m' < m16 ∧ J19 (IntKind.wrap .i64 ((i14) + (1))) m' h')) ∧ (b29 = false →
 ∃ l31 : List Value, List.length l31 = 12 ∧ CellsAt B h28 ⟨k11, 0, none⟩ 0 l31 ∧
 List.length l31 = 12 ∧ ∃ h34 : Heap, StoresAt ⟨k7, 0, none⟩ h28 0 l31 h34 ∧
 CellsAt B h34 ⟨k11, 0, none⟩ 0 l31 ∧
 ∃ l36 : List Value, List.length l36 = 12 ∧ CellsAt B h34 ⟨k7, 0, none⟩ 0 l36 ∧ Fin B h34 (Q p10 l36 (false))))) ∧ (¬ ((i14 : Int) < (6)) →
 ∃ l41 : List Value, List.length l41 = 12 ∧ CellsAt B h15 ⟨k11, 0, none⟩ 0 l41 ∧
 List.length l41 = 12 ∧ ∃ h44 : Heap, StoresAt ⟨k7, 0, none⟩ h15 0 l41 h44 ∧
 CellsAt B h44 ⟨k11, 0, none⟩ 0 l41 ∧
 ∃ l46 : List Value, List.length l46 = 12 ∧ CellsAt B h44 ⟨k7, 0, none⟩ 0 l46 ∧ Fin B h44 (Q p10 l46 (true))))
def S_redo_Apply (B : RO) (p1 : Option Addr) (a2 : Option Addr) (n3 : Nat) (c4 : Nat) (i5 : Int) (h : Heap) (Q : Heap → Prop) : Prop :=
 ∃ (J11 : Int → Nat → Heap → Prop) (m9 : Nat), Fin B h (J11 (0) m9) ∧
 ∀ (i6 : Int) (m8 : Nat) (h7 : Heap), J11 i6 m8 h7 →
 ((i6 : Int) < ((n3 : Nat)) →
 ∃ A13 : Addr, a2 = some A13 ∧ 0 ≤ (i6 : Int) ∧ (i6 : Int) < (n3 : Nat) ∧
 ∃ i15 : Int, ∃ b16 : Bool, ∃ s17 : ByteArray, CellsAt B h7 (Addr.add A13 (Int.toNat (i6) * 3)) 0 [(Value.int .i64 (i15)), (Value.bool b16), (Value.string s17)] ∧
 ∀ k18 : Nat, h7 k18 = none → B k18 = none → ∀ h19 : Heap, h19 = Heap.set h7 k18 (.vec 199 (plains [(Value.int .i64 (0)), (Value.bool false), (Value.string ByteArray.empty)]) 3) →
 ∃ h20 : Heap, StoresAt ⟨k18, 0, none⟩ h19 0 [(Value.int .i64 (i15)), (Value.bool b16), (Value.string s17)] h20 ∧
 ∃ i21 : Int, cellH B h20 ⟨k18, 0, none⟩ = some (Value.int .i64 (i21)) ∧
 ∃ b22 : Bool, ∃ s23 : ByteArray, CellsAt B h20 ⟨k18, 1, none⟩ 0 [(Value.bool b22), (Value.string s23)] ∧
 C_tome_Tome_Set B p1 (i21) (b22) s23 (i5) h20 (fun b25 h24 =>
 Fin B h24 (fun h' => ∃ m', m' < m8 ∧ J11 (IntKind.wrap .i64 ((i6) + (1))) m' h'))) ∧ (¬ ((i6 : Int) < ((n3 : Nat))) →
 Fin B h7 (Q))
def S_countermandref18_Apply (B : RO) (l1 : List Value) (a2 : Option Addr) (n3 : Nat) (c4 : Nat) (h : Heap) (Q : List Value → Heap → Prop) : Prop :=
 ∀ k6 : Nat, h k6 = none → B k6 = none → ∀ h7 : Heap, h7 = Heap.set h k6 (.vec 115 (plains l1) (List.length l1)) →
 ∀ k8 : Nat, h7 k8 = none → B k8 = none → ∀ h9 : Heap, h9 = Heap.set h7 k8 (.vec 115 (plains [(Value.bool false), (Value.string ByteArray.empty), (Value.bool false), (Value.string ByteArray.empty), (Value.bool false), (Value.string ByteArray.empty), (Value.bool false), (Value.string ByteArray.empty), (Value.bool false), (Value.string ByteArray.empty), (Value.bool false), (Value.string ByteArray.empty)]) 12) →
 ∃ (J15 : Int → Nat → Heap → Prop) (m13 : Nat), Fin B h9 (J15 (0) m13) ∧
 ∀ (i10 : Int) (m12 : Nat) (h11 : Heap), J15 i10 m12 h11 →
 ((i10 : Int) < ((n3 : Nat)) →
 ∃ A17 : Addr, a2 = some A17 ∧ 0 ≤ (i10 : Int) ∧ (i10 : Int) < (n3 : Nat) ∧
 ∃ i19 : Int, ∃ b20 : Bool, ∃ s21 : ByteArray, CellsAt B h11 (Addr.add A17 (Int.toNat (i10) * 3)) 0 [(Value.int .i64 (i19)), (Value.bool b20), (Value.string s21)] ∧
 ∀ k22 : Nat, h11 k22 = none → B k22 = none → ∀ h23 : Heap, h23 = Heap.set h11 k22 (.vec 122 (plains [(Value.int .i64 (0)), (Value.bool false), (Value.string ByteArray.empty)]) 3) →
 ∃ h24 : Heap, StoresAt ⟨k22, 0, none⟩ h23 0 [(Value.int .i64 (i19)), (Value.bool b20), (Value.string s21)] h24 ∧
 ∃ i25 : Int, cellH B h24 ⟨k22, 0, none⟩ = some (Value.int .i64 (i25)) ∧
 ∃ b26 : Bool, ∃ s27 : ByteArray, CellsAt B h24 ⟨k22, 1, none⟩ 0 [(Value.bool b26), (Value.string s27)] ∧
 0 ≤ (i25 : Int) ∧ (i25 : Int) < (6 : Nat) ∧
 ∃ h28 : Heap, StoresAt (Addr.add ⟨k6, 0, none⟩ (Int.toNat (i25) * 2)) h24 0 [(Value.bool b26), (Value.string s27)] h28 ∧
 Fin B h28 (fun h' => ∃ m', m' < m12 ∧ J15 (IntKind.wrap .i64 ((i10) + (1))) m' h')) ∧ (¬ ((i10 : Int) < ((n3 : Nat))) →
 ∃ l29 : List Value, List.length l29 = 12 ∧ CellsAt B h11 ⟨k6, 0, none⟩ 0 l29 ∧
 List.length l29 = 12 ∧ ∃ h30 : Heap, StoresAt ⟨k8, 0, none⟩ h11 0 l29 h30 ∧
 ∃ l31 : List Value, List.length l31 = 12 ∧ CellsAt B h30 ⟨k8, 0, none⟩ 0 l31 ∧ Fin B h30 (Q l31))
def S_countermandlaw18_are (B : RO) (p1 : Option Addr) (l2 : List Value) (h : Heap) (Q : Bool → Heap → Prop) : Prop :=
 ∀ k4 : Nat, h k4 = none → B k4 = none → ∀ h5 : Heap, h5 = Heap.set h k4 (.vec 115 (plains l2) (List.length l2)) →
 ∃ l6 : List Value, List.length l6 = 12 ∧ CellsAt B h5 ⟨k4, 0, none⟩ 0 l6 ∧
 ∃ (J12 : Int → Nat → Heap → Prop) (m10 : Nat), Fin B h5 (J12 (0) m10) ∧
 ∀ (i7 : Int) (m9 : Nat) (h8 : Heap), J12 i7 m9 h8 →
 ((i7 : Int) < (6) →
 0 ≤ (i7 : Int) ∧ (i7 : Int) < (6 : Nat) ∧ ∃ b14 : Bool, ∃ s15 : ByteArray, Array.extract (List.toArray l6) (Int.toNat (i7) * 2) (Int.toNat (i7) * 2 + 2) = #[(Value.bool b14), (Value.string s15)] ∧
 ∀ k16 : Nat, h8 k16 = none → B k16 = none → ∀ h17 : Heap, h17 = Heap.set h8 k16 (.vec 114 (plains [(Value.bool false), (Value.string ByteArray.empty)]) 2) →
 ∃ h18 : Heap, StoresAt ⟨k16, 0, none⟩ h17 0 [(Value.bool b14), (Value.string s15)] h18 ∧
 C_tome_Tome_Get B p1 (i7) h18 (fun b20 s21 i22 h19 =>
 ∀ k23 : Nat, h19 k23 = none → B k23 = none → ∀ h24 : Heap, h24 = Heap.set h19 k23 (.vec 111 (plains [(Value.bool false), (Value.string ByteArray.empty)]) 2) →
 ∃ h25 : Heap, StoresAt ⟨k23, 0, none⟩ h24 0 [(Value.bool b20), (Value.string s21)] h25 ∧
 ∃ b26 : Bool, ∃ s27 : ByteArray, CellsAt B h25 ⟨k23, 0, none⟩ 0 [(Value.bool b26), (Value.string s27)] ∧
 ∃ b28 : Bool, ∃ s29 : ByteArray, CellsAt B h25 ⟨k16, 0, none⟩ 0 [(Value.bool b28), (Value.string s29)] ∧
 (eqL [(Value.bool b26), (Value.string s27)] [(Value.bool b28), (Value.string s29)] = true →
 Fin B h25 (fun h' => ∃ m', m' < m9 ∧ J12 (IntKind.wrap .i64 ((i7) + (1))) m' h')) ∧ (¬ (eqL [(Value.bool b26), (Value.string s27)] [(Value.bool b28), (Value.string s29)] = true) →
 Fin B h25 (Q (false))))) ∧ (¬ ((i7 : Int) < (6)) →
 Fin B h8 (Q (true)))
def S_tome_Tome_Get (B : RO) (p1 : Option Addr) (i2 : Int) (h : Heap) (Q : Bool → ByteArray → Int → Heap → Prop) : Prop :=
 ∀ k6 : Nat, h k6 = none → B k6 = none → ∀ h7 : Heap, h7 = Heap.set h k6 (.vec 111 (plains [(Value.bool false), (Value.string ByteArray.empty)]) 2) →
 (p1 = none →
 ∃ h9 : Heap, StoresAt ⟨k6, 0, none⟩ h7 0 [(Value.bool false), (Value.string ByteArray.empty)] h9 ∧
 ∃ b10 : Bool, ∃ s11 : ByteArray, CellsAt B h9 ⟨k6, 0, none⟩ 0 [(Value.bool b10), (Value.string s11)] ∧ Fin B h9 (Q (b10) s11 (0))) ∧ (¬ (p1 = none) →
 ∃ A12 : Addr, p1 = some A12 ∧
 ∃ p14 : Option Addr, cellH B h7 A12 = some (Value.pointer p14) ∧
 C_cell_Row_file_File_Get B p14 (i2) h7 (fun b16 s17 i18 h15 =>
 ∃ h19 : Heap, StoresAt ⟨k6, 0, none⟩ h15 0 [(Value.bool b16), (Value.string s17)] h19 ∧
 ∃ b20 : Bool, ∃ s21 : ByteArray, CellsAt B h19 ⟨k6, 0, none⟩ 0 [(Value.bool b20), (Value.string s21)] ∧ Fin B h19 (Q (b20) s21 (i18))))
def S_redo_Replay (B : RO) (p1 : Option Addr) (a2 : Option Addr) (n3 : Nat) (c4 : Nat) (h : Heap) (Q : Int → Int → Heap → Prop) : Prop :=
 ∃ (J13 : Int → Int → Nat → Heap → Prop) (m11 : Nat), Fin B h (J13 (0) (0) m11) ∧
 ∀ (i7 : Int) (i8 : Int) (m10 : Nat) (h9 : Heap), J13 i7 i8 m10 h9 →
 ((i8 : Int) < ((n3 : Nat)) →
 ∃ A15 : Addr, a2 = some A15 ∧ 0 ≤ (i8 : Int) ∧ (i8 : Int) < (n3 : Nat) ∧
 ∃ s17 : ByteArray, cellH B h9 (Addr.add A15 (Int.toNat (i8) * 1)) = some (Value.string s17) ∧
 C_redo_Read B s17 h9 (fun i19 a20 n21 c22 b23 h18 =>
 (b23 = true →
 C_redo_Apply B p1 a20 n21 c22 (0) h18 (fun h24 =>
 Fin B h24 (fun h' => ∃ m', m' < m10 ∧ J13 (if (i19 : Int) > (i7) then (i19 : Int) else (i7)) (IntKind.wrap .i64 ((i8) + (1))) m' h'))) ∧ (b23 = false →
 Fin B h18 (Q (i7) (i8))))) ∧ (¬ ((i8 : Int) < ((n3 : Nat))) →
 Fin B h9 (Q (i7) ((n3 : Nat))))
def S_draft_Draft_file_File_Put (B : RO) (p1 : Option Addr) (i2 : Int) (b3 : Bool) (s4 : ByteArray) (h : Heap) (Q : Bool → Heap → Prop) : Prop :=
 ∀ k6 : Nat, h k6 = none → B k6 = none → ∀ h7 : Heap, h7 = Heap.set h k6 (.vec 111 (plains [(Value.bool b3), (Value.string s4)]) 2) →
 (p1 = none →
 Fin B h7 (Q (false))) ∧ (¬ (p1 = none) →
 C_draft_Draft_file_File_find B p1 (i2) h7 (fun i10 b11 h9 =>
 (b11 = true →
 ∃ A41 : Addr, p1 = some A41 ∧
 ∃ a43 : Option Addr, ∃ n44 : Nat, ∃ c45 : Nat, cellH B h9 A41 = some (Value.slice a43 n44 c45) ∧
 ∃ b46 : Bool, ∃ s47 : ByteArray, CellsAt B h9 ⟨k6, 0, none⟩ 0 [(Value.bool b46), (Value.string s47)] ∧
 ∃ A48 : Addr, a43 = some A48 ∧ 0 ≤ (i10 : Int) ∧ (i10 : Int) < (n44 : Nat) ∧
 ∃ h50 : Heap, StoresAt (Addr.add (Addr.add A48 (Int.toNat (i10) * 3)) 1) h9 0 [(Value.bool b46), (Value.string s47)] h50 ∧
 Fin B h50 (Q (true))) ∧ (b11 = false →
 ∃ A14 : Addr, p1 = some A14 ∧
 ∃ a18 : Option Addr, ∃ n19 : Nat, ∃ c20 : Nat, cellH B h9 A14 = some (Value.slice a18 n19 c20) ∧
 ∃ b24 : Bool, ∃ s25 : ByteArray, CellsAt B h9 ⟨k6, 0, none⟩ 0 [(Value.bool b24), (Value.string s25)] ∧
 ∀ k28 : Nat, h9 k28 = none → B k28 = none → ∀ h29 : Heap, h29 = Heap.set h9 k28 (.vec 246 (plains [(Value.int .i64 (i2)), (Value.bool b24), (Value.string s25)]) 3) →
 cellH B h29 A14 = some (Value.slice a18 n19 c20) ∧ CellsAt B h29 ⟨k6, 0, none⟩ 0 [(Value.bool b24), (Value.string s25)] ∧
 C_slices_Insert_s_draft_entry_file_File_draft_entry_file_File B a18 n19 c20 (i10) (some ⟨k28, 0, none⟩) 1 1 h29 (fun a33 n34 c35 h32 =>
 cellH B h32 A14 = some (Value.slice a18 n19 c20) ∧ CellsAt B h32 ⟨k6, 0, none⟩ 0 [(Value.bool b24), (Value.string s25)] ∧
 ∃ A38 : Addr, p1 = some A38 ∧
 ∃ h40 : Heap, storeH h32 A38 (Value.slice a33 n34 c35) = some h40 ∧
 Fin B h40 (Q (true))))))
def S_stylus_Of (B : RO) (s1 : ByteArray) (h : Heap) (Q : Option Addr → Heap → Prop) : Prop :=
 ∀ k3 : Nat, h k3 = none → B k3 = none → ∀ h4 : Heap, h4 = Heap.set h k3 (.vec 249 (plains [(Value.string s1), (Value.bool false)]) 2) →
 Fin B h4 (Q (some ⟨k3, 0, none⟩))
def S_stylus_Reader_Nat (B : RO) (p1 : Option Addr) (i2 : Int) (h : Heap) (Q : Int → Heap → Prop) : Prop :=
 C_stylus_Reader_word B p1 h (fun i5 h4 =>
 ((i2 : Int) < (0) →
 C_stylus_Reader_Spoil B p1 h4 (fun h7 =>
 Fin B h7 (Q (0)))) ∧ (¬ ((i2 : Int) < (0)) →
 ((i5 : Int) > (IntKind.wrap .u64 (i2)) →
 C_stylus_Reader_Spoil B p1 h4 (fun h9 =>
 Fin B h9 (Q (0)))) ∧ (¬ ((i5 : Int) > (IntKind.wrap .u64 (i2))) →
 Fin B h4 (Q (IntKind.wrap .i64 (i5))))))
def S_stylus_Reader_Left (B : RO) (p1 : Option Addr) (h : Heap) (Q : Int → Heap → Prop) : Prop :=
 (p1 = none →
 Fin B h (Q (0))) ∧ (¬ (p1 = none) →
 ∃ A4 : Addr, p1 = some A4 ∧
 ∃ s6 : ByteArray, cellH B h A4 = some (Value.string s6) ∧
 Fin B h (Q ((ByteArray.size s6 : Nat))))
def S_stylus_Reader_Text (B : RO) (p1 : Option Addr) (i2 : Int) (h : Heap) (Q : ByteArray → Heap → Prop) : Prop :=
 C_stylus_Reader_Nat B p1 (i2) h (fun i5 h4 =>
 C_stylus_Reader_Raw B p1 (i5) h4 (fun s7 h6 =>
 Fin B h6 (Q s7)))
def S_stylus_Reader_Bad (B : RO) (p1 : Option Addr) (h : Heap) (Q : Bool → Heap → Prop) : Prop :=
 (p1 = none →
 Fin B h (Q (true))) ∧ (¬ (p1 = none) →
 ∃ A4 : Addr, p1 = some A4 ∧
 ∃ b6 : Bool, cellH B h (Addr.add A4 1) = some (Value.bool b6) ∧
 Fin B h (Q (b6)))
def S_countermandref18_nat_J1 (B : RO) (s1 : ByteArray) (i7 : Int) (i8 : Int) (h10 : Heap) (Q : Int → ByteArray → Bool → Heap → Prop) : Prop :=
 0 ≤ (i8 : Int) ∧ (i8 : Int) ≤ ((ByteArray.size s1 : Nat) : Int) ∧ ((ByteArray.size s1 : Nat) : Int) ≤ (ByteArray.size s1 : Nat) ∧
 Fin B h10 (Q (IntKind.wrap .i64 (i7)) (ByteArray.extract s1 (Int.toNat (i8)) (Int.toNat ((ByteArray.size s1 : Nat)))) (true))
def S_countermandref18_nat (B : RO) (s1 : ByteArray) (i2 : Int) (h : Heap) (Q : Int → ByteArray → Bool → Heap → Prop) : Prop :=
 C_countermandref01_Taken B s1 h (fun i7 i8 h6 =>
 ((i8 : Int) = 0 →
 Fin B h6 (Q (0) (ByteArray.mk #[]) (false))) ∧ (¬ ((i8 : Int) = 0) →
 ((i7 : Int) > (i2) →
 Fin B h6 (Q (0) (ByteArray.mk #[]) (false))) ∧ (¬ ((i7 : Int) > (i2)) →
 Fin B h6 (fun h' => S_countermandref18_nat_J1 B s1 i7 i8 h' Q))))
def S_countermandref01_Nat (B : RO) (i1 : Int) (h : Heap) (Q : ByteArray → Heap → Prop) : Prop :=
 ((i1 : Int) < (0) →
 Fin B h (Q (ByteArray.mk #[]))) ∧ (¬ ((i1 : Int) < (0)) →
 C_countermandref01_Wide B (IntKind.wrap .u64 (i1)) h (fun s5 h4 =>
 Fin B h4 (Q s5)))
def S_countermandref01_Text (B : RO) (s1 : ByteArray) (h : Heap) (Q : ByteArray → Heap → Prop) : Prop :=
 C_countermandref01_Nat B ((ByteArray.size s1 : Nat)) h (fun s4 h3 =>
 ByteArray.size s4 + ByteArray.size s1 ≤ 4611686018427387904 ∧
 Fin B h3 (Q (s4 ++ s1)))
def S_file_Good (B : RO) (b1 : Bool) (s2 : ByteArray) (h : Heap) (Q : Bool → Heap → Prop) : Prop :=
 ∀ k4 : Nat, h k4 = none → B k4 = none → ∀ h5 : Heap, h5 = Heap.set h k4 (.vec 111 (plains [(Value.bool b1), (Value.string s2)]) 2) →
 ∃ s6 : ByteArray, cellH B h5 ⟨k4, 1, none⟩ = some (Value.string s6) ∧
 (((ByteArray.size s6 : Nat) : Int) ≤ (32) →
 ∃ b8 : Bool, cellH B h5 ⟨k4, 0, none⟩ = some (Value.bool b8) ∧ (b8 = true →
 Fin B h5 (Q (true))) ∧ (b8 = false →
 ∃ s9 : ByteArray, cellH B h5 ⟨k4, 1, none⟩ = some (Value.string s9) ∧
 Fin B h5 (Q ((decide (s9 = (ByteArray.mk #[]))))))) ∧ (¬ (((ByteArray.size s6 : Nat) : Int) ≤ (32)) →
 Fin B h5 (Q (false)))
def S_draft_Draft_file_File_All (B : RO) (p1 : Option Addr) (h : Heap) (Q : Value → Heap → Prop) : Prop :=
 ∀ k3 : Nat, h k3 = none → B k3 = none → ∀ h4 : Heap, h4 = Heap.set h k3 (.vec 105 [.plain (Value.pointer p1)] 1) →
 Fin B h4 (Q (Value.func (.func 145) #[] #[(Value.pointer (some ⟨k3, 0, none⟩))]))
def S_stylus_Stylus_Nat_J1 (B : RO) (p1 : Option Addr) (a2 : Option Addr) (n3 : Nat) (c4 : Nat) (i5 : Int) (m7 : Nat) (J10 : Int → Nat → Heap → Prop) (i17 : Int) (h18 : Heap) (Q : Heap → Prop) : Prop :=
 ∃ A19 : Addr, p1 = some A19 ∧
 LdSl B h18 A19 fun a21 n22 c23 h24 =>
 ∀ k25 : Nat, h24 k25 = none → B k25 = none → ∀ h26 : Heap, h26 = Heap.set h24 k25 (.vec 5 (plains [(Value.int .u8 (IntKind.wrap .u8 (i17)))]) 1) →
 semH PG B (Builtin.append_ #[208, 208] 208 #[(Value.slice a21 n22 c23), (Value.slice (some ⟨k25, 0, none⟩) 1 1)]) h26 (fun v h27 => ∃ a28 : Option Addr, ∃ n29 : Nat, ∃ c30 : Nat, v = (Value.slice a28 n29 c30) ∧
 ∃ A31 : Addr, p1 = some A31 ∧
 ∃ h33 : Heap, storeH h27 A31 (Value.slice a28 n29 c30) = some h33 ∧
 Fin B h33 (fun h' => ∃ m', m' < m7 ∧ J10 (IntKind.wrap .i64 ((i5) + (1))) m' h'))
def S_stylus_Stylus_Nat (B : RO) (p1 : Option Addr) (a2 : Option Addr) (n3 : Nat) (c4 : Nat) (h : Heap) (Q : Heap → Prop) : Prop :=
 ∃ (J10 : Int → Nat → Heap → Prop) (m8 : Nat), Fin B h (J10 (0) m8) ∧
 ∀ (i5 : Int) (m7 : Nat) (h6 : Heap), J10 i5 m7 h6 →
 ((i5 : Int) < ((n3 : Nat)) →
 ∃ A12 : Addr, a2 = some A12 ∧ 0 ≤ (i5 : Int) ∧ (i5 : Int) < (n3 : Nat) ∧
 ∃ i14 : Int, cellH B h6 (Addr.add A12 (Int.toNat (i5) * 1)) = some (Value.int .i64 (i14)) ∧
 ((i14 : Int) < (0) →
 Fin B h6 (fun h' => ∃ m', m' < m7 ∧ J10 (IntKind.wrap .i64 ((i5) + (1))) m' h')) ∧ (¬ ((i14 : Int) < (0)) →
 ∃ (J39 : Int → Nat → Heap → Prop) (m37 : Nat), Fin B h6 (J39 (i14) m37) ∧
 ∀ (i34 : Int) (m36 : Nat) (h35 : Heap), J39 i34 m36 h35 →
 ((i34 : Int) ≥ (128) →
 ∃ A41 : Addr, p1 = some A41 ∧
 LdSl B h35 A41 fun a43 n44 c45 h46 =>
 ∀ k47 : Nat, h46 k47 = none → B k47 = none → ∀ h48 : Heap, h48 = Heap.set h46 k47 (.vec 5 (plains [(Value.int .u8 (IntKind.wrap .u8 ((BitVec.ofInt (IntKind.bits .u8) (IntKind.wrap .u8 (i34)) ||| BitVec.ofInt (IntKind.bits .u8) (128)).toNat : Int)))]) 1) →
 semH PG B (Builtin.append_ #[208, 208] 208 #[(Value.slice a43 n44 c45), (Value.slice (some ⟨k47, 0, none⟩) 1 1)]) h48 (fun v h49 => ∃ a50 : Option Addr, ∃ n51 : Nat, ∃ c52 : Nat, v = (Value.slice a50 n51 c52) ∧
 ∃ A53 : Addr, p1 = some A53 ∧
 ∃ h55 : Heap, storeH h49 A53 (Value.slice a50 n51 c52) = some h55 ∧
 ¬ ((7 : Int) < 0) ∧
 Fin B h55 (fun h' => ∃ m', m' < m36 ∧ J39 (Int.fdiv (i34) (2 ^ (min (Int.toNat (7)) (IntKind.bits .i64)))) m' h'))) ∧ (¬ ((i34 : Int) ≥ (128)) →
 Fin B h35 (fun h' => S_stylus_Stylus_Nat_J1 B p1 a2 n3 c4 i5 m7 J10 (i34) h' Q)))) ∧ (¬ ((i5 : Int) < ((n3 : Nat))) →
 Fin B h6 (Q))
def S_stylus_Stylus_Text (B : RO) (p1 : Option Addr) (a2 : Option Addr) (n3 : Nat) (c4 : Nat) (h : Heap) (Q : Heap → Prop) : Prop :=
 ∃ (J10 : Int → Nat → Heap → Prop) (m8 : Nat), Fin B h (J10 (0) m8) ∧
 ∀ (i5 : Int) (m7 : Nat) (h6 : Heap), J10 i5 m7 h6 →
 ((i5 : Int) < ((n3 : Nat)) →
 ∃ A12 : Addr, a2 = some A12 ∧ 0 ≤ (i5 : Int) ∧ (i5 : Int) < (n3 : Nat) ∧
 ∃ s14 : ByteArray, cellH B h6 (Addr.add A12 (Int.toNat (i5) * 1)) = some (Value.string s14) ∧
 ∀ k15 : Nat, h6 k15 = none → B k15 = none → ∀ h16 : Heap, h16 = Heap.set h6 k15 (.vec 3 (plains [(Value.int .i64 ((ByteArray.size s14 : Nat)))]) 1) →
 C_stylus_Stylus_Nat B p1 (some ⟨k15, 0, none⟩) 1 1 h16 (fun h17 =>
 C_stylus_Stylus_Raw B p1 s14 h17 (fun h18 =>
 Fin B h18 (fun h' => ∃ m', m' < m7 ∧ J10 (IntKind.wrap .i64 ((i5) + (1))) m' h')))) ∧ (¬ ((i5 : Int) < ((n3 : Nat))) →
 Fin B h6 (Q))
def S_stylus_Stylus_Bytes (B : RO) (p1 : Option Addr) (h : Heap) (Q : ByteArray → Heap → Prop) : Prop :=
 ∃ A3 : Addr, p1 = some A3 ∧
 LdSl B h A3 fun a5 n6 c7 h8 =>
 semH PG B (convert 208 9 (Value.slice a5 n6 c7)) h8 (fun v h10 => ∃ s9 : ByteArray, v = (Value.string s9) ∧
 Fin B h10 (Q s9))
def S_tome_New (B : RO) (h : Heap) (Q : Option Addr → Heap → Prop) : Prop :=
 C_cell_New_file_File B (6) (false) ByteArray.empty h (fun p3 h2 =>
 ∀ k4 : Nat, h2 k4 = none → B k4 = none → ∀ h5 : Heap, h5 = Heap.set h2 k4 (.vec 217 (plains [(Value.pointer p3)]) 1) →
 Fin B h5 (Q (some ⟨k4, 0, none⟩)))
def S_tome_Tome_Set_J1 (B : RO) (h14 : Heap) (Q : Bool → Heap → Prop) : Prop :=
 Fin B h14 (Q (false))
def S_tome_Tome_Set_J2 (B : RO) (k7 : Nat) (b17 : Bool) (s18 : ByteArray) (h24 : Heap) (Q : Bool → Heap → Prop) : Prop :=
 Fin B h24 (Q (false))
def S_tome_Tome_Set_J3 (B : RO) (i2 : Int) (i5 : Int) (k7 : Nat) (b17 : Bool) (s18 : ByteArray) (p36 : Option Addr) (b37 : Bool) (s38 : ByteArray) (h39 : Heap) (Q : Bool → Heap → Prop) : Prop :=
 C_cell_Row_file_File_Set B p36 (i2) (b37) s38 (i5) h39 (fun b42 h41 =>
 CellsAt B h41 ⟨k7, 0, none⟩ 0 [(Value.bool b17), (Value.string s18)] ∧
 Fin B h41 (Q (b42)))
def S_tome_Tome_Set (B : RO) (p1 : Option Addr) (i2 : Int) (b3 : Bool) (s4 : ByteArray) (i5 : Int) (h : Heap) (Q : Bool → Heap → Prop) : Prop :=
 ∀ k7 : Nat, h k7 = none → B k7 = none → ∀ h8 : Heap, h8 = Heap.set h k7 (.vec 111 (plains [(Value.bool b3), (Value.string s4)]) 2) →
 (p1 = none →
 (S_tome_Tome_Set_J1 B h8 Q) ∧
 (S_tome_Tome_Set_J1 B h8 Q)) ∧ (¬ (p1 = none) →
 ∃ b17 : Bool, ∃ s18 : ByteArray, CellsAt B h8 ⟨k7, 0, none⟩ 0 [(Value.bool b17), (Value.string s18)] ∧
 C_file_Good B (b17) s18 h8 (fun b21 h20 =>
 (b21 = true →
 CellsAt B h20 ⟨k7, 0, none⟩ 0 [(Value.bool b17), (Value.string s18)] ∧
 ∃ A27 : Addr, p1 = some A27 ∧
 (∃ p44 : Option Addr, cellH B h20 A27 = some (Value.pointer p44) ∧
 ∃ b45 : Bool, ∃ s46 : ByteArray, CellsAt B h20 ⟨k7, 0, none⟩ 0 [(Value.bool b45), (Value.string s46)] ∧
 S_tome_Tome_Set_J3 B i2 i5 k7 b17 s18 p44 (b45) s46 h20 Q) ∧
 (∃ b47 : Bool, ∃ s48 : ByteArray, CellsAt B h20 ⟨k7, 0, none⟩ 0 [(Value.bool b47), (Value.string s48)] ∧
 ∃ p49 : Option Addr, cellH B h20 A27 = some (Value.pointer p49) ∧
 S_tome_Tome_Set_J3 B i2 i5 k7 b17 s18 p49 (b47) s48 h20 Q)) ∧ (b21 = false →
 CellsAt B h20 ⟨k7, 0, none⟩ 0 [(Value.bool b17), (Value.string s18)] ∧
 (S_tome_Tome_Set_J2 B k7 b17 s18 h20 Q) ∧
 (S_tome_Tome_Set_J2 B k7 b17 s18 h20 Q))))
def S_cell_Row_file_File_Get (B : RO) (p1 : Option Addr) (i2 : Int) (h : Heap) (Q : Bool → ByteArray → Int → Heap → Prop) : Prop :=
 ∀ k6 : Nat, h k6 = none → B k6 = none → ∀ h7 : Heap, h7 = Heap.set h k6 (.vec 111 (plains [(Value.bool false), (Value.string ByteArray.empty)]) 2) →
 C_cell_Row_file_File_is B p1 (i2) h7 (fun b9 h8 =>
 (b9 = true →
 ∃ A18 : Addr, p1 = some A18 ∧
 ∃ a22 : Option Addr, ∃ n23 : Nat, ∃ c24 : Nat, cellH B h8 A18 = some (Value.slice a22 n23 c24) ∧
 ∃ A27 : Addr, a22 = some A27 ∧ 0 ≤ (i2 : Int) ∧ (i2 : Int) < (n23 : Nat) ∧
 ∃ b33 : Bool, ∃ s34 : ByteArray, CellsAt B h8 (Addr.add A27 (Int.toNat (i2) * 3)) 0 [(Value.bool b33), (Value.string s34)] ∧
 ∃ A37 : Addr, p1 = some A37 ∧
 ∃ a41 : Option Addr, ∃ n42 : Nat, ∃ c43 : Nat, cellH B h8 A37 = some (Value.slice a41 n42 c43) ∧
 ∃ A46 : Addr, a41 = some A46 ∧ 0 ≤ (i2 : Int) ∧ (i2 : Int) < (n42 : Nat) ∧
 ∃ i52 : Int, cellH B h8 (Addr.add (Addr.add A46 (Int.toNat (i2) * 3)) 2) = some (Value.int .i64 (i52)) ∧
 ∃ h54 : Heap, StoresAt ⟨k6, 0, none⟩ h8 0 [(Value.bool b33), (Value.string s34)] h54 ∧
 cellH B h54 A18 = some (Value.slice a22 n23 c24) ∧ CellsAt B h54 (Addr.add A27 (Int.toNat (i2) * 3)) 0 [(Value.bool b33), (Value.string s34)] ∧ cellH B h54 A37 = some (Value.slice a41 n42 c43) ∧ cellH B h54 (Addr.add (Addr.add A46 (Int.toNat (i2) * 3)) 2) = some (Value.int .i64 (i52)) ∧
 ∃ b59 : Bool, ∃ s60 : ByteArray, CellsAt B h54 ⟨k6, 0, none⟩ 0 [(Value.bool b59), (Value.string s60)] ∧ Fin B h54 (Q (b59) s60 (i52))) ∧ (b9 = false →
 ∀ k10 : Nat, h8 k10 = none → B k10 = none → ∀ h11 : Heap, h11 = Heap.set h8 k10 (.vec 111 (plains [(Value.bool false), (Value.string ByteArray.empty)]) 2) →
 ∃ b12 : Bool, ∃ s13 : ByteArray, CellsAt B h11 ⟨k10, 0, none⟩ 0 [(Value.bool b12), (Value.string s13)] ∧
 ∃ h14 : Heap, StoresAt ⟨k6, 0, none⟩ h11 0 [(Value.bool b12), (Value.string s13)] h14 ∧
 ∃ b15 : Bool, ∃ s16 : ByteArray, CellsAt B h14 ⟨k6, 0, none⟩ 0 [(Value.bool b15), (Value.string s16)] ∧ Fin B h14 (Q (b15) s16 (0))))
def S_draft_Draft_file_File_find (B : RO) (p1 : Option Addr) (i2 : Int) (h : Heap) (Q : Int → Bool → Heap → Prop) : Prop :=
 ∃ A5 : Addr, p1 = some A5 ∧
 LdSl B h A5 fun a7 n8 c9 h10 =>
 C_slices_BinarySearchFunc_s_draft_entry_file_File_draft_entry_file_File_int B a7 n8 c9 (i2) (Value.func (.func 161) #[] #[]) h10 (fun i12 b13 h11 =>
 Fin B h11 (Q (i12) (b13)))
def S_slices_Insert_s_draft_entry_file_File_draft_entry_file_File (B : RO) (a1 : Option Addr) (n2 : Nat) (c3 : Nat) (i4 : Int) (a5 : Option Addr) (n6 : Nat) (c7 : Nat) (h : Heap) (Q : Option Addr → Nat → Nat → Heap → Prop) : Prop :=
 0 ≤ (i4 : Int) ∧ (i4 : Int) ≤ ((n2 : Nat) : Int) ∧ ((n2 : Nat) : Int) ≤ (c3 : Nat) ∧
 (((n6 : Nat) : Int) = 0 →
 Fin B h (Q a1 n2 c3)) ∧ (¬ (((n6 : Nat) : Int) = 0) →
 ((i4 : Int) = (n2 : Nat) →
 semH PG B (Builtin.append_ #[191, 191] 191 #[(Value.slice a1 n2 c3), (Value.slice a5 n6 c7)]) h (fun v h13 => ∃ a14 : Option Addr, ∃ n15 : Nat, ∃ c16 : Nat, v = (Value.slice a14 n15 c16) ∧
 Fin B h13 (Q a14 n15 c16))) ∧ (¬ ((i4 : Int) = (n2 : Nat)) →
 ((IntKind.wrap .i64 (((n2 : Nat)) + ((n6 : Nat))) : Int) > ((c3 : Nat)) →
 0 ≤ (0 : Int) ∧ (0 : Int) ≤ (i4 : Int) ∧ (i4 : Int) ≤ (c3 : Nat) ∧
 semH PG B (Builtin.append_ #[191, 3] 191 #[(Value.slice (if c3 = Int.toNat (0) then a1 else Option.map (·.add (Int.toNat (0) * 3)) a1) (Int.toNat (i4) - Int.toNat (0)) (c3 - Int.toNat (0))), (Value.int .i64 (IntKind.wrap .i64 ((IntKind.wrap .i64 (((n2 : Nat)) + ((n6 : Nat)))) - (i4))))]) h (fun v h18 => ∃ a19 : Option Addr, ∃ n20 : Nat, ∃ c21 : Nat, v = (Value.slice a19 n20 c21) ∧
 0 ≤ (i4 : Int) ∧ (i4 : Int) ≤ ((n20 : Nat) : Int) ∧ ((n20 : Nat) : Int) ≤ (c21 : Nat) ∧
 semH PG B (Builtin.copy_ #[191, 191] 3 #[(Value.slice (if c21 = Int.toNat (i4) then a19 else Option.map (·.add (Int.toNat (i4) * 3)) a19) (Int.toNat ((n20 : Nat)) - Int.toNat (i4)) (c21 - Int.toNat (i4))), (Value.slice a5 n6 c7)]) h18 (fun v h22 => ∃ i23 : Int, v = (Value.int .i64 (i23)) ∧
 0 ≤ (IntKind.wrap .i64 ((i4) + ((n6 : Nat))) : Int) ∧ (IntKind.wrap .i64 ((i4) + ((n6 : Nat))) : Int) ≤ ((n20 : Nat) : Int) ∧ ((n20 : Nat) : Int) ≤ (c21 : Nat) ∧
 0 ≤ (i4 : Int) ∧ (i4 : Int) ≤ ((n2 : Nat) : Int) ∧ ((n2 : Nat) : Int) ≤ (c3 : Nat) ∧
 semH PG B (Builtin.copy_ #[191, 191] 3 #[(Value.slice (if c21 = Int.toNat (IntKind.wrap .i64 ((i4) + ((n6 : Nat)))) then a19 else Option.map (·.add (Int.toNat (IntKind.wrap .i64 ((i4) + ((n6 : Nat)))) * 3)) a19) (Int.toNat ((n20 : Nat)) - Int.toNat (IntKind.wrap .i64 ((i4) + ((n6 : Nat))))) (c21 - Int.toNat (IntKind.wrap .i64 ((i4) + ((n6 : Nat)))))), (Value.slice (if c3 = Int.toNat (i4) then a1 else Option.map (·.add (Int.toNat (i4) * 3)) a1) (Int.toNat ((n2 : Nat)) - Int.toNat (i4)) (c3 - Int.toNat (i4)))]) h22 (fun v h24 => ∃ i25 : Int, v = (Value.int .i64 (i25)) ∧
 Fin B h24 (Q a19 n20 c21))))) ∧ (¬ ((IntKind.wrap .i64 (((n2 : Nat)) + ((n6 : Nat))) : Int) > ((c3 : Nat))) →
 0 ≤ (0 : Int) ∧ (0 : Int) ≤ (IntKind.wrap .i64 (((n2 : Nat)) + ((n6 : Nat))) : Int) ∧ (IntKind.wrap .i64 (((n2 : Nat)) + ((n6 : Nat))) : Int) ≤ (c3 : Nat) ∧
 0 ≤ (IntKind.wrap .i64 ((i4) + ((n6 : Nat))) : Int) ∧ (IntKind.wrap .i64 ((i4) + ((n6 : Nat))) : Int) ≤ (((Int.toNat (IntKind.wrap .i64 (((n2 : Nat)) + ((n6 : Nat)))) - Int.toNat (0)) : Nat) : Int) ∧ (((Int.toNat (IntKind.wrap .i64 (((n2 : Nat)) + ((n6 : Nat)))) - Int.toNat (0)) : Nat) : Int) ≤ ((c3 - Int.toNat (0)) : Nat) ∧
 semH PG B (Extern.SlicesOverlaps.overlaps #[191, 191] #[4] #[(Value.slice a5 n6 c7), (Value.slice (if (c3 - Int.toNat (0)) = Int.toNat (IntKind.wrap .i64 ((i4) + ((n6 : Nat)))) then (if c3 = Int.toNat (0) then a1 else Option.map (·.add (Int.toNat (0) * 3)) a1) else Option.map (·.add (Int.toNat (IntKind.wrap .i64 ((i4) + ((n6 : Nat)))) * 3)) (if c3 = Int.toNat (0) then a1 else Option.map (·.add (Int.toNat (0) * 3)) a1)) (Int.toNat (((Int.toNat (IntKind.wrap .i64 (((n2 : Nat)) + ((n6 : Nat)))) - Int.toNat (0)) : Nat)) - Int.toNat (IntKind.wrap .i64 ((i4) + ((n6 : Nat))))) ((c3 - Int.toNat (0)) - Int.toNat (IntKind.wrap .i64 ((i4) + ((n6 : Nat))))))]) h (fun v h26 => ∃ b27 : Bool, v = (Value.bool b27) ∧
 (b27 = true →
 0 ≤ ((n2 : Nat) : Int) ∧ ((n2 : Nat) : Int) ≤ (((Int.toNat (IntKind.wrap .i64 (((n2 : Nat)) + ((n6 : Nat)))) - Int.toNat (0)) : Nat) : Int) ∧ (((Int.toNat (IntKind.wrap .i64 (((n2 : Nat)) + ((n6 : Nat)))) - Int.toNat (0)) : Nat) : Int) ≤ ((c3 - Int.toNat (0)) : Nat) ∧
 semH PG B (Builtin.copy_ #[191, 191] 3 #[(Value.slice (if (c3 - Int.toNat (0)) = Int.toNat ((n2 : Nat)) then (if c3 = Int.toNat (0) then a1 else Option.map (·.add (Int.toNat (0) * 3)) a1) else Option.map (·.add (Int.toNat ((n2 : Nat)) * 3)) (if c3 = Int.toNat (0) then a1 else Option.map (·.add (Int.toNat (0) * 3)) a1)) (Int.toNat (((Int.toNat (IntKind.wrap .i64 (((n2 : Nat)) + ((n6 : Nat)))) - Int.toNat (0)) : Nat)) - Int.toNat ((n2 : Nat))) ((c3 - Int.toNat (0)) - Int.toNat ((n2 : Nat)))), (Value.slice a5 n6 c7)]) h26 (fun v h32 => ∃ i33 : Int, v = (Value.int .i64 (i33)) ∧
 0 ≤ (i4 : Int) ∧ (i4 : Int) ≤ (((Int.toNat (IntKind.wrap .i64 (((n2 : Nat)) + ((n6 : Nat)))) - Int.toNat (0)) : Nat) : Int) ∧ (((Int.toNat (IntKind.wrap .i64 (((n2 : Nat)) + ((n6 : Nat)))) - Int.toNat (0)) : Nat) : Int) ≤ ((c3 - Int.toNat (0)) : Nat) ∧
 C_slices_rotateRight_draft_entry_file_File B (if (c3 - Int.toNat (0)) = Int.toNat (i4) then (if c3 = Int.toNat (0) then a1 else Option.map (·.add (Int.toNat (0) * 3)) a1) else Option.map (·.add (Int.toNat (i4) * 3)) (if c3 = Int.toNat (0) then a1 else Option.map (·.add (Int.toNat (0) * 3)) a1)) (Int.toNat (((Int.toNat (IntKind.wrap .i64 (((n2 : Nat)) + ((n6 : Nat)))) - Int.toNat (0)) : Nat)) - Int.toNat (i4)) ((c3 - Int.toNat (0)) - Int.toNat (i4)) ((n6 : Nat)) h32 (fun h34 =>
 Fin B h34 (Q (if c3 = Int.toNat (0) then a1 else Option.map (·.add (Int.toNat (0) * 3)) a1) (Int.toNat (IntKind.wrap .i64 (((n2 : Nat)) + ((n6 : Nat)))) - Int.toNat (0)) (c3 - Int.toNat (0)))))) ∧ (b27 = false →
 0 ≤ (IntKind.wrap .i64 ((i4) + ((n6 : Nat))) : Int) ∧ (IntKind.wrap .i64 ((i4) + ((n6 : Nat))) : Int) ≤ (((Int.toNat (IntKind.wrap .i64 (((n2 : Nat)) + ((n6 : Nat)))) - Int.toNat (0)) : Nat) : Int) ∧ (((Int.toNat (IntKind.wrap .i64 (((n2 : Nat)) + ((n6 : Nat)))) - Int.toNat (0)) : Nat) : Int) ≤ ((c3 - Int.toNat (0)) : Nat) ∧
 0 ≤ (i4 : Int) ∧ (i4 : Int) ≤ (((Int.toNat (IntKind.wrap .i64 (((n2 : Nat)) + ((n6 : Nat)))) - Int.toNat (0)) : Nat) : Int) ∧ (((Int.toNat (IntKind.wrap .i64 (((n2 : Nat)) + ((n6 : Nat)))) - Int.toNat (0)) : Nat) : Int) ≤ ((c3 - Int.toNat (0)) : Nat) ∧
 semH PG B (Builtin.copy_ #[191, 191] 3 #[(Value.slice (if (c3 - Int.toNat (0)) = Int.toNat (IntKind.wrap .i64 ((i4) + ((n6 : Nat)))) then (if c3 = Int.toNat (0) then a1 else Option.map (·.add (Int.toNat (0) * 3)) a1) else Option.map (·.add (Int.toNat (IntKind.wrap .i64 ((i4) + ((n6 : Nat)))) * 3)) (if c3 = Int.toNat (0) then a1 else Option.map (·.add (Int.toNat (0) * 3)) a1)) (Int.toNat (((Int.toNat (IntKind.wrap .i64 (((n2 : Nat)) + ((n6 : Nat)))) - Int.toNat (0)) : Nat)) - Int.toNat (IntKind.wrap .i64 ((i4) + ((n6 : Nat))))) ((c3 - Int.toNat (0)) - Int.toNat (IntKind.wrap .i64 ((i4) + ((n6 : Nat)))))), (Value.slice (if (c3 - Int.toNat (0)) = Int.toNat (i4) then (if c3 = Int.toNat (0) then a1 else Option.map (·.add (Int.toNat (0) * 3)) a1) else Option.map (·.add (Int.toNat (i4) * 3)) (if c3 = Int.toNat (0) then a1 else Option.map (·.add (Int.toNat (0) * 3)) a1)) (Int.toNat (((Int.toNat (IntKind.wrap .i64 (((n2 : Nat)) + ((n6 : Nat)))) - Int.toNat (0)) : Nat)) - Int.toNat (i4)) ((c3 - Int.toNat (0)) - Int.toNat (i4)))]) h26 (fun v h28 => ∃ i29 : Int, v = (Value.int .i64 (i29)) ∧
 0 ≤ (i4 : Int) ∧ (i4 : Int) ≤ (((Int.toNat (IntKind.wrap .i64 (((n2 : Nat)) + ((n6 : Nat)))) - Int.toNat (0)) : Nat) : Int) ∧ (((Int.toNat (IntKind.wrap .i64 (((n2 : Nat)) + ((n6 : Nat)))) - Int.toNat (0)) : Nat) : Int) ≤ ((c3 - Int.toNat (0)) : Nat) ∧
 semH PG B (Builtin.copy_ #[191, 191] 3 #[(Value.slice (if (c3 - Int.toNat (0)) = Int.toNat (i4) then (if c3 = Int.toNat (0) then a1 else Option.map (·.add (Int.toNat (0) * 3)) a1) else Option.map (·.add (Int.toNat (i4) * 3)) (if c3 = Int.toNat (0) then a1 else Option.map (·.add (Int.toNat (0) * 3)) a1)) (Int.toNat (((Int.toNat (IntKind.wrap .i64 (((n2 : Nat)) + ((n6 : Nat)))) - Int.toNat (0)) : Nat)) - Int.toNat (i4)) ((c3 - Int.toNat (0)) - Int.toNat (i4))), (Value.slice a5 n6 c7)]) h28 (fun v h30 => ∃ i31 : Int, v = (Value.int .i64 (i31)) ∧
 Fin B h30 (Q (if c3 = Int.toNat (0) then a1 else Option.map (·.add (Int.toNat (0) * 3)) a1) (Int.toNat (IntKind.wrap .i64 (((n2 : Nat)) + ((n6 : Nat)))) - Int.toNat (0)) (c3 - Int.toNat (0))))))))))
def S_stylus_Reader_word_J1 (B : RO) (p1 : Option Addr) (i3 : Int) (i4 : Int) (m6 : Nat) (J9 : Int → Int → Nat → Heap → Prop) (s12 : ByteArray) (h14 : Heap) (Q : Int → Heap → Prop) : Prop :=
 0 ≤ (0 : Int) ∧ (0 : Int) < (ByteArray.size s12 : Nat) ∧
 ¬ ((i4 : Int) < 0) ∧
 0 ≤ (0 : Int) ∧ (0 : Int) < (ByteArray.size s12 : Nat) ∧
 ((byteAt s12 (Int.toNat (0)) : Int) < (128) →
 Fin B h14 (Q (IntKind.wrap .u64 ((BitVec.ofInt (IntKind.bits .u64) (i3) ||| BitVec.ofInt (IntKind.bits .u64) (IntKind.wrap .u64 ((IntKind.wrap .u64 (IntKind.wrap .u8 ((BitVec.ofInt (IntKind.bits .u8) (byteAt s12 (Int.toNat (0))) &&& BitVec.ofInt (IntKind.bits .u8) (127)).toNat : Int))) * 2 ^ (min (Int.toNat (i4)) (IntKind.bits .u64))))).toNat : Int)))) ∧ (¬ ((byteAt s12 (Int.toNat (0)) : Int) < (128)) →
 Fin B h14 (fun h' => ∃ m', m' < m6 ∧ J9 (IntKind.wrap .u64 ((BitVec.ofInt (IntKind.bits .u64) (i3) ||| BitVec.ofInt (IntKind.bits .u64) (IntKind.wrap .u64 ((IntKind.wrap .u64 (IntKind.wrap .u8 ((BitVec.ofInt (IntKind.bits .u8) (byteAt s12 (Int.toNat (0))) &&& BitVec.ofInt (IntKind.bits .u8) (127)).toNat : Int))) * 2 ^ (min (Int.toNat (i4)) (IntKind.bits .u64))))).toNat : Int)) (IntKind.wrap .i64 ((i4) + (7))) m' h'))
def S_stylus_Reader_word (B : RO) (p1 : Option Addr) (h : Heap) (Q : Int → Heap → Prop) : Prop :=
 ∃ (J9 : Int → Int → Nat → Heap → Prop) (m7 : Nat), Fin B h (J9 (0) (0) m7) ∧
 ∀ (i3 : Int) (i4 : Int) (m6 : Nat) (h5 : Heap), J9 i3 i4 m6 h5 →
 ((i4 : Int) < (64) →
 C_stylus_Reader_Raw B p1 (1) h5 (fun s12 h11 =>
 (s12 = (ByteArray.mk #[]) →
 C_stylus_Reader_Spoil B p1 h11 (fun h17 =>
 Fin B h17 (Q (0)))) ∧ (¬ (s12 = (ByteArray.mk #[])) →
 ((i4 : Int) = 63 →
 0 ≤ (0 : Int) ∧ (0 : Int) < (ByteArray.size s12 : Nat) ∧
 ((byteAt s12 (Int.toNat (0)) : Int) > (1) →
 C_stylus_Reader_Spoil B p1 h11 (fun h20 =>
 Fin B h20 (Q (0)))) ∧ (¬ ((byteAt s12 (Int.toNat (0)) : Int) > (1)) →
 ((i4 : Int) > (0) →
 0 ≤ (0 : Int) ∧ (0 : Int) < (ByteArray.size s12 : Nat) ∧
 ((byteAt s12 (Int.toNat (0)) : Int) = 0 →
 C_stylus_Reader_Spoil B p1 h11 (fun h23 =>
 Fin B h23 (Q (0)))) ∧ (¬ ((byteAt s12 (Int.toNat (0)) : Int) = 0) →
 Fin B h11 (fun h' => S_stylus_Reader_word_J1 B p1 i3 i4 m6 J9 s12 h' Q))) ∧ (¬ ((i4 : Int) > (0)) →
 Fin B h11 (fun h' => S_stylus_Reader_word_J1 B p1 i3 i4 m6 J9 s12 h' Q)))) ∧ (¬ ((i4 : Int) = 63) →
 ((i4 : Int) > (0) →
 0 ≤ (0 : Int) ∧ (0 : Int) < (ByteArray.size s12 : Nat) ∧
 ((byteAt s12 (Int.toNat (0)) : Int) = 0 →
 C_stylus_Reader_Spoil B p1 h11 (fun h26 =>
 Fin B h26 (Q (0)))) ∧ (¬ ((byteAt s12 (Int.toNat (0)) : Int) = 0) →
 Fin B h11 (fun h' => S_stylus_Reader_word_J1 B p1 i3 i4 m6 J9 s12 h' Q))) ∧ (¬ ((i4 : Int) > (0)) →
 Fin B h11 (fun h' => S_stylus_Reader_word_J1 B p1 i3 i4 m6 J9 s12 h' Q)))))) ∧ (¬ ((i4 : Int) < (64)) →
 C_stylus_Reader_Spoil B p1 h5 (fun h27 =>
 Fin B h27 (Q (0))))
def S_stylus_Reader_Spoil (B : RO) (p1 : Option Addr) (h : Heap) (Q : Heap → Prop) : Prop :=
 (p1 = none →
 Fin B h (Q)) ∧ (¬ (p1 = none) →
 ∃ A3 : Addr, p1 = some A3 ∧
 ∃ h5 : Heap, storeH h A3 (Value.string (ByteArray.mk #[])) = some h5 ∧
 ∃ A6 : Addr, p1 = some A6 ∧
 ∃ h8 : Heap, storeH h5 (Addr.add A6 1) (Value.bool true) = some h8 ∧
 Fin B h8 (Q))
def S_stylus_Reader_Raw_J1 (B : RO) (p1 : Option Addr) (i2 : Int) (h5 : Heap) (Q : ByteArray → Heap → Prop) : Prop :=
 ∃ A6 : Addr, p1 = some A6 ∧
 ∃ s8 : ByteArray, cellH B h5 A6 = some (Value.string s8) ∧
 0 ≤ (0 : Int) ∧ (0 : Int) ≤ (i2 : Int) ∧ (i2 : Int) ≤ (ByteArray.size s8 : Nat) ∧
 ∃ A9 : Addr, p1 = some A9 ∧
 ∃ s11 : ByteArray, cellH B h5 A9 = some (Value.string s11) ∧
 0 ≤ (i2 : Int) ∧ (i2 : Int) ≤ ((ByteArray.size s11 : Nat) : Int) ∧ ((ByteArray.size s11 : Nat) : Int) ≤ (ByteArray.size s11 : Nat) ∧
 ∃ A12 : Addr, p1 = some A12 ∧
 ∃ h14 : Heap, storeH h5 A12 (Value.string (ByteArray.extract s11 (Int.toNat (i2)) (Int.toNat ((ByteArray.size s11 : Nat))))) = some h14 ∧
 Fin B h14 (Q (ByteArray.extract s8 (Int.toNat (0)) (Int.toNat (i2))))
def S_stylus_Reader_Raw (B : RO) (p1 : Option Addr) (i2 : Int) (h : Heap) (Q : ByteArray → Heap → Prop) : Prop :=
 (p1 = none →
 C_stylus_Reader_Spoil B p1 h (fun h16 =>
 Fin B h16 (Q (ByteArray.mk #[])))) ∧ (¬ (p1 = none) →
 ∃ A17 : Addr, p1 = some A17 ∧
 ∃ b19 : Bool, cellH B h (Addr.add A17 1) = some (Value.bool b19) ∧ (b19 = true →
 C_stylus_Reader_Spoil B p1 h (fun h27 =>
 Fin B h27 (Q (ByteArray.mk #[])))) ∧ (b19 = false →
 ((i2 : Int) < (0) →
 C_stylus_Reader_Spoil B p1 h (fun h21 =>
 Fin B h21 (Q (ByteArray.mk #[])))) ∧ (¬ ((i2 : Int) < (0)) →
 ∃ A22 : Addr, p1 = some A22 ∧
 ∃ s24 : ByteArray, cellH B h A22 = some (Value.string s24) ∧
 ((i2 : Int) > ((ByteArray.size s24 : Nat)) →
 C_stylus_Reader_Spoil B p1 h (fun h26 =>
 Fin B h26 (Q (ByteArray.mk #[])))) ∧ (¬ ((i2 : Int) > ((ByteArray.size s24 : Nat))) →
 Fin B h (fun h' => S_stylus_Reader_Raw_J1 B p1 i2 h' Q)))))
def S_countermandref01_Taken_J2 (B : RO) (s1 : ByteArray) (i4 : Int) (i14 : Int) (h15 : Heap) (Q : Int → Int → Heap → Prop) : Prop :=
 0 ≤ (0 : Int) ∧ (0 : Int) ≤ (i4 : Int) ∧ (i4 : Int) ≤ (ByteArray.size s1 : Nat) ∧
 C_countermandref01_Wide B (i14) h15 (fun s24 h23 =>
 (s24 = (ByteArray.extract s1 (Int.toNat (0)) (Int.toNat (i4))) →
 Fin B h23 (Q (i14) (i4))) ∧ (¬ (s24 = (ByteArray.extract s1 (Int.toNat (0)) (Int.toNat (i4)))) →
 Fin B h23 (Q (0) (0))))
def S_countermandref01_Taken_J1 (B : RO) (s1 : ByteArray) (i4 : Int) (m6 : Nat) (J9 : Int → Nat → Heap → Prop) (h11 : Heap) (Q : Int → Int → Heap → Prop) : Prop :=
 0 ≤ (IntKind.wrap .i64 ((i4) - (1)) : Int) ∧ (IntKind.wrap .i64 ((i4) - (1)) : Int) < (ByteArray.size s1 : Nat) ∧
 ((byteAt s1 (Int.toNat (IntKind.wrap .i64 ((i4) - (1)))) : Int) > (127) →
 Fin B h11 (fun h' => ∃ m', m' < m6 ∧ J9 (IntKind.wrap .i64 ((i4) + (1))) m' h')) ∧ (¬ ((byteAt s1 (Int.toNat (IntKind.wrap .i64 ((i4) - (1)))) : Int) > (127)) →
 ∃ (J32 : Int → Int → Nat → Heap → Prop) (m30 : Nat), Fin B h11 (J32 (0) (IntKind.wrap .i64 ((i4) - (1))) m30) ∧
 ∀ (i26 : Int) (i27 : Int) (m29 : Nat) (h28 : Heap), J32 i26 i27 m29 h28 →
 ((i27 : Int) ≥ (0) →
 0 ≤ (i27 : Int) ∧ (i27 : Int) < (ByteArray.size s1 : Nat) ∧
 ¬ ((128 : Int) = 0) ∧
 Fin B h28 (fun h' => ∃ m', m' < m29 ∧ J32 (IntKind.wrap .u64 ((IntKind.wrap .u64 ((i26) * (128))) + (Int.tmod (IntKind.wrap .u64 (byteAt s1 (Int.toNat (i27)))) (128)))) (IntKind.wrap .i64 ((i27) - (1))) m' h')) ∧ (¬ ((i27 : Int) ≥ (0)) →
 Fin B h28 (fun h' => S_countermandref01_Taken_J2 B s1 i4 (i26) h' Q)))
def S_countermandref01_Taken (B : RO) (s1 : ByteArray) (h : Heap) (Q : Int → Int → Heap → Prop) : Prop :=
 ∃ (J9 : Int → Nat → Heap → Prop) (m7 : Nat), Fin B h (J9 (1) m7) ∧
 ∀ (i4 : Int) (m6 : Nat) (h5 : Heap), J9 i4 m6 h5 →
 ((i4 : Int) ≤ (10) →
 ((i4 : Int) ≤ ((ByteArray.size s1 : Nat)) →
 Fin B h5 (fun h' => S_countermandref01_Taken_J1 B s1 i4 m6 J9 h' Q)) ∧ (¬ ((i4 : Int) ≤ ((ByteArray.size s1 : Nat))) →
 Fin B h5 (Q (0) (0)))) ∧ (¬ ((i4 : Int) ≤ (10)) →
 Fin B h5 (Q (0) (0)))
def S_countermandref01_Wide_J1 (B : RO) (i4 : Int) (s5 : ByteArray) (h6 : Heap) (Q : ByteArray → Heap → Prop) : Prop :=
 ∀ k7 : Nat, h6 k7 = none → B k7 = none → ∀ h8 : Heap, h8 = Heap.set h6 k7 (.vec 5 (plains [(Value.int .u8 (IntKind.wrap .u8 (i4)))]) 1) →
 semH PG B (convert 208 9 (Value.slice (some ⟨k7, 0, none⟩) 1 1)) h8 (fun v h10 => ∃ s9 : ByteArray, v = (Value.string s9) ∧
 ByteArray.size s5 + ByteArray.size s9 ≤ 4611686018427387904 ∧
 Fin B h10 (Q (s5 ++ s9)))
def S_countermandref01_Wide (B : RO) (i1 : Int) (h : Heap) (Q : ByteArray → Heap → Prop) : Prop :=
 ∃ (J17 : Int → ByteArray → Nat → Heap → Prop) (m15 : Nat), Fin B h (J17 (i1) (ByteArray.mk #[]) m15) ∧
 ∀ (i11 : Int) (s12 : ByteArray) (m14 : Nat) (h13 : Heap), J17 i11 s12 m14 h13 →
 ((i11 : Int) > (127) →
 ¬ ((128 : Int) = 0) ∧
 ∀ k19 : Nat, h13 k19 = none → B k19 = none → ∀ h20 : Heap, h20 = Heap.set h13 k19 (.vec 5 (plains [(Value.int .u8 (IntKind.wrap .u8 (IntKind.wrap .u64 ((128) + (Int.tmod (i11) (128))))))]) 1) →
 semH PG B (convert 208 9 (Value.slice (some ⟨k19, 0, none⟩) 1 1)) h20 (fun v h22 => ∃ s21 : ByteArray, v = (Value.string s21) ∧
 ByteArray.size s12 + ByteArray.size s21 ≤ 4611686018427387904 ∧
 ¬ ((128 : Int) = 0) ∧
 Fin B h22 (fun h' => ∃ m', m' < m14 ∧ J17 (IntKind.wrap .u64 (Int.tdiv (i11) (128))) (s12 ++ s21) m' h'))) ∧ (¬ ((i11 : Int) > (127)) →
 Fin B h13 (fun h' => S_countermandref01_Wide_J1 B (i11) s12 h' Q))
def S_draft_Draft_file_File_All_1 (B : RO) (v1 : Value) (A2 : Addr) (h : Heap) (Q : Heap → Prop) : Prop :=
 ∃ p3 : Option Addr, cellH B h A2 = some (Value.pointer p3) ∧
 (p3 = none →
 Fin B h (Q)) ∧ (¬ (p3 = none) →
 ∃ p5 : Option Addr, cellH B h A2 = some (Value.pointer p5) ∧
 ∃ A6 : Addr, p5 = some A6 ∧
 LdSl B h A6 fun a8 n9 c10 h11 =>
 ∃ (J17 : Int → Nat → Heap → Prop) (m15 : Nat), Fin B h11 (J17 (0) m15) ∧
 ∀ (i12 : Int) (m14 : Nat) (h13 : Heap), J17 i12 m14 h13 →
 ((i12 : Int) < ((n9 : Nat)) →
 ∃ A19 : Addr, a8 = some A19 ∧ 0 ≤ (i12 : Int) ∧ (i12 : Int) < (n9 : Nat) ∧
 ∃ i21 : Int, ∃ b22 : Bool, ∃ s23 : ByteArray, CellsAt B h13 (Addr.add A19 (Int.toNat (i12) * 3)) 0 [(Value.int .i64 (i21)), (Value.bool b22), (Value.string s23)] ∧
 ∀ k24 : Nat, h13 k24 = none → B k24 = none → ∀ h25 : Heap, h25 = Heap.set h13 k24 (.vec 246 (plains [(Value.int .i64 (0)), (Value.bool false), (Value.string ByteArray.empty)]) 3) →
 ∃ h26 : Heap, StoresAt ⟨k24, 0, none⟩ h25 0 [(Value.int .i64 (i21)), (Value.bool b22), (Value.string s23)] h26 ∧
 ∃ i27 : Int, cellH B h26 ⟨k24, 0, none⟩ = some (Value.int .i64 (i27)) ∧
 ∃ b28 : Bool, ∃ s29 : ByteArray, CellsAt B h26 ⟨k24, 1, none⟩ 0 [(Value.bool b28), (Value.string s29)] ∧
 CallV PG B v1 [(Value.int .i64 (i27)), (Value.agg #[(Value.bool b28), (Value.string s29)])] h26 (fun v h30 => ∃ b31 : Bool, v = (Value.bool b31) ∧
 (b31 = true →
 Fin B h30 (fun h' => ∃ m', m' < m14 ∧ J17 (IntKind.wrap .i64 ((i12) + (1))) m' h')) ∧ (b31 = false →
 Fin B h30 (Q)))) ∧ (¬ ((i12 : Int) < ((n9 : Nat))) →
 Fin B h13 (Q)))
def S_stylus_Stylus_Raw (B : RO) (p1 : Option Addr) (s2 : ByteArray) (h : Heap) (Q : Heap → Prop) : Prop :=
 ∃ A3 : Addr, p1 = some A3 ∧
 LdSl B h A3 fun a5 n6 c7 h8 =>
 semH PG B (Builtin.append_ #[208, 9] 208 #[(Value.slice a5 n6 c7), (Value.string s2)]) h8 (fun v h9 => ∃ a10 : Option Addr, ∃ n11 : Nat, ∃ c12 : Nat, v = (Value.slice a10 n11 c12) ∧
 ∃ A13 : Addr, p1 = some A13 ∧
 ∃ h15 : Heap, storeH h9 A13 (Value.slice a10 n11 c12) = some h15 ∧
 Fin B h15 (Q))
def S_cell_New_file_File (B : RO) (i1 : Int) (b2 : Bool) (s3 : ByteArray) (h : Heap) (Q : Option Addr → Heap → Prop) : Prop :=
 ∀ k5 : Nat, h k5 = none → B k5 = none → ∀ h6 : Heap, h6 = Heap.set h k5 (.vec 111 (plains [(Value.bool b2), (Value.string s3)]) 2) →
 ∀ k7 : Nat, h6 k7 = none → B k7 = none → ∀ h8 : Heap, h8 = Heap.set h6 k7 (.vec 260 (plains [(Value.slice none 0 0)]) 1) →
 ∃ (J14 : Int → Nat → Heap → Prop) (m12 : Nat), Fin B h8 (J14 (0) m12) ∧
 ∀ (i9 : Int) (m11 : Nat) (h10 : Heap), J14 i9 m11 h10 →
 ((i9 : Int) < (i1) →
 ∃ a20 : Option Addr, ∃ n21 : Nat, ∃ c22 : Nat, cellH B h10 ⟨k7, 0, none⟩ = some (Value.slice a20 n21 c22) ∧
 ∃ b24 : Bool, ∃ s25 : ByteArray, CellsAt B h10 ⟨k5, 0, none⟩ 0 [(Value.bool b24), (Value.string s25)] ∧
 ∀ k28 : Nat, h10 k28 = none → B k28 = none → ∀ h29 : Heap, h29 = Heap.set h10 k28 (.vec 257 (plains [(Value.bool b24), (Value.string s25), (Value.int .i64 (0))]) 3) →
 cellH B h29 ⟨k7, 0, none⟩ = some (Value.slice a20 n21 c22) ∧ CellsAt B h29 ⟨k5, 0, none⟩ 0 [(Value.bool b24), (Value.string s25)] ∧
 semH PG B (Builtin.append_ #[258, 258] 258 #[(Value.slice a20 n21 c22), (Value.slice (some ⟨k28, 0, none⟩) 1 1)]) h29 (fun v h32 => ∃ a33 : Option Addr, ∃ n34 : Nat, ∃ c35 : Nat, v = (Value.slice a33 n34 c35) ∧
 cellH B h32 ⟨k7, 0, none⟩ = some (Value.slice a20 n21 c22) ∧ CellsAt B h32 ⟨k5, 0, none⟩ 0 [(Value.bool b24), (Value.string s25)] ∧
 ∃ h38 : Heap, storeH h32 ⟨k7, 0, none⟩ (Value.slice a33 n34 c35) = some h38 ∧
 Fin B h38 (fun h' => ∃ m', m' < m11 ∧ J14 (IntKind.wrap .i64 ((i9) + (1))) m' h'))) ∧ (¬ ((i9 : Int) < (i1)) →
 Fin B h10 (Q (some ⟨k7, 0, none⟩)))
def S_cell_Row_file_File_Set (B : RO) (p1 : Option Addr) (i2 : Int) (b3 : Bool) (s4 : ByteArray) (i5 : Int) (h : Heap) (Q : Bool → Heap → Prop) : Prop :=
 ∀ k7 : Nat, h k7 = none → B k7 = none → ∀ h8 : Heap, h8 = Heap.set h k7 (.vec 111 (plains [(Value.bool b3), (Value.string s4)]) 2) →
 C_cell_Row_file_File_is B p1 (i2) h8 (fun b10 h9 =>
 (b10 = true →
 ∃ A11 : Addr, p1 = some A11 ∧
 ∃ a13 : Option Addr, ∃ n14 : Nat, ∃ c15 : Nat, cellH B h9 A11 = some (Value.slice a13 n14 c15) ∧
 ∃ b16 : Bool, ∃ s17 : ByteArray, CellsAt B h9 ⟨k7, 0, none⟩ 0 [(Value.bool b16), (Value.string s17)] ∧
 ∃ A18 : Addr, a13 = some A18 ∧ 0 ≤ (i2 : Int) ∧ (i2 : Int) < (n14 : Nat) ∧
 ∃ h20 : Heap, StoresAt (Addr.add A18 (Int.toNat (i2) * 3)) h9 0 [(Value.bool b16), (Value.string s17), (Value.int .i64 (i5))] h20 ∧
 Fin B h20 (Q (true))) ∧ (b10 = false →
 Fin B h9 (Q (false))))
def S_cell_Row_file_File_is (B : RO) (p1 : Option Addr) (i2 : Int) (h : Heap) (Q : Bool → Heap → Prop) : Prop :=
 (p1 = none →
 Fin B h (Q (false))) ∧ (¬ (p1 = none) →
 ((i2 : Int) ≥ (0) →
 ∃ A6 : Addr, p1 = some A6 ∧
 LdSl B h A6 fun a8 n9 c10 h11 =>
 Fin B h11 (Q ((decide ((i2 : Int) < ((n9 : Nat))))))) ∧ (¬ ((i2 : Int) ≥ (0)) →
 Fin B h (Q (false))))
def S_slices_BinarySearchFunc_s_draft_entry_file_File_draft_entry_file_File_int_J1 (B : RO) (a1 : Option Addr) (n2 : Nat) (c3 : Nat) (i4 : Int) (v5 : Value) (i9 : Int) (h10 : Heap) (Q : Int → Bool → Heap → Prop) : Prop :=
 ((i9 : Int) < ((n2 : Nat)) →
 ∃ A12 : Addr, a1 = some A12 ∧ 0 ≤ (i9 : Int) ∧ (i9 : Int) < (n2 : Nat) ∧
 ∃ i14 : Int, ∃ b15 : Bool, ∃ s16 : ByteArray, CellsAt B h10 (Addr.add A12 (Int.toNat (i9) * 3)) 0 [(Value.int .i64 (i14)), (Value.bool b15), (Value.string s16)] ∧
 CallV PG B v5 [(Value.agg #[(Value.int .i64 (i14)), (Value.bool b15), (Value.string s16)]), (Value.int .i64 (i4))] h10 (fun v h17 => ∃ i18 : Int, v = (Value.int .i64 (i18)) ∧
 Fin B h17 (Q (i9) (((i18 : Int) == (0)))))) ∧ (¬ ((i9 : Int) < ((n2 : Nat))) →
 Fin B h10 (Q (i9) (false)))
def S_slices_BinarySearchFunc_s_draft_entry_file_File_draft_entry_file_File_int (B : RO) (a1 : Option Addr) (n2 : Nat) (c3 : Nat) (i4 : Int) (v5 : Value) (h : Heap) (Q : Int → Bool → Heap → Prop) : Prop :=
 ∃ (J25 : Int → Int → Nat → Heap → Prop) (m23 : Nat), Fin B h (J25 (0) ((n2 : Nat)) m23) ∧
 ∀ (i19 : Int) (i20 : Int) (m22 : Nat) (h21 : Heap), J25 i19 i20 m22 h21 →
 ((i19 : Int) < (i20) →
 ¬ ((1 : Int) < 0) ∧
 ∃ A27 : Addr, a1 = some A27 ∧ 0 ≤ (IntKind.wrap .i64 (Int.fdiv (IntKind.wrap .u64 (IntKind.wrap .i64 ((i19) + (i20)))) (2 ^ (min (Int.toNat (1)) (IntKind.bits .u64)))) : Int) ∧ (IntKind.wrap .i64 (Int.fdiv (IntKind.wrap .u64 (IntKind.wrap .i64 ((i19) + (i20)))) (2 ^ (min (Int.toNat (1)) (IntKind.bits .u64)))) : Int) < (n2 : Nat) ∧
 ∃ i29 : Int, ∃ b30 : Bool, ∃ s31 : ByteArray, CellsAt B h21 (Addr.add A27 (Int.toNat (IntKind.wrap .i64 (Int.fdiv (IntKind.wrap .u64 (IntKind.wrap .i64 ((i19) + (i20)))) (2 ^ (min (Int.toNat (1)) (IntKind.bits .u64))))) * 3)) 0 [(Value.int .i64 (i29)), (Value.bool b30), (Value.string s31)] ∧
 CallV PG B v5 [(Value.agg #[(Value.int .i64 (i29)), (Value.bool b30), (Value.string s31)]), (Value.int .i64 (i4))] h21 (fun v h32 => ∃ i33 : Int, v = (Value.int .i64 (i33)) ∧
 ((i33 : Int) < (0) →
 Fin B h32 (fun h' => ∃ m', m' < m22 ∧ J25 (IntKind.wrap .i64 ((IntKind.wrap .i64 (Int.fdiv (IntKind.wrap .u64 (IntKind.wrap .i64 ((i19) + (i20)))) (2 ^ (min (Int.toNat (1)) (IntKind.bits .u64))))) + (1))) (i20) m' h')) ∧ (¬ ((i33 : Int) < (0)) →
 Fin B h32 (fun h' => ∃ m', m' < m22 ∧ J25 (i19) (IntKind.wrap .i64 (Int.fdiv (IntKind.wrap .u64 (IntKind.wrap .i64 ((i19) + (i20)))) (2 ^ (min (Int.toNat (1)) (IntKind.bits .u64))))) m' h')))) ∧ (¬ ((i19 : Int) < (i20)) →
 Fin B h21 (fun h' => S_slices_BinarySearchFunc_s_draft_entry_file_File_draft_entry_file_File_int_J1 B a1 n2 c3 i4 v5 (i19) h' Q))
def S_draft_by_file_File (B : RO) (i1 : Int) (b2 : Bool) (s3 : ByteArray) (i4 : Int) (h : Heap) (Q : Int → Heap → Prop) : Prop :=
 ∀ k6 : Nat, h k6 = none → B k6 = none → ∀ h7 : Heap, h7 = Heap.set h k6 (.vec 246 (plains [(Value.int .i64 (i1)), (Value.bool b2), (Value.string s3)]) 3) →
 ∃ i8 : Int, cellH B h7 ⟨k6, 0, none⟩ = some (Value.int .i64 (i8)) ∧
 ((i8 : Int) < (i4) →
 Fin B h7 (Q ((-1)))) ∧ (¬ ((i8 : Int) < (i4)) →
 ∃ i10 : Int, cellH B h7 ⟨k6, 0, none⟩ = some (Value.int .i64 (i10)) ∧
 ((i10 : Int) > (i4) →
 Fin B h7 (Q (1))) ∧ (¬ ((i10 : Int) > (i4)) →
 Fin B h7 (Q (0))))
def S_slices_rotateRight_draft_entry_file_File (B : RO) (a1 : Option Addr) (n2 : Nat) (c3 : Nat) (i4 : Int) (h : Heap) (Q : Heap → Prop) : Prop :=
 C_slices_rotateLeft_draft_entry_file_File B a1 n2 c3 (IntKind.wrap .i64 (((n2 : Nat)) - (i4))) h (fun h5 =>
 Fin B h5 (Q))
def S_slices_rotateLeft_draft_entry_file_File (B : RO) (a1 : Option Addr) (n2 : Nat) (c3 : Nat) (i4 : Int) (h : Heap) (Q : Heap → Prop) : Prop :=
 0 ≤ (0 : Int) ∧ (0 : Int) ≤ (i4 : Int) ∧ (i4 : Int) ≤ (c3 : Nat) ∧
 C_slices_Reverse_s_draft_entry_file_File_draft_entry_file_File B (if c3 = Int.toNat (0) then a1 else Option.map (·.add (Int.toNat (0) * 3)) a1) (Int.toNat (i4) - Int.toNat (0)) (c3 - Int.toNat (0)) h (fun h5 =>
 0 ≤ (i4 : Int) ∧ (i4 : Int) ≤ ((n2 : Nat) : Int) ∧ ((n2 : Nat) : Int) ≤ (c3 : Nat) ∧
 C_slices_Reverse_s_draft_entry_file_File_draft_entry_file_File B (if c3 = Int.toNat (i4) then a1 else Option.map (·.add (Int.toNat (i4) * 3)) a1) (Int.toNat ((n2 : Nat)) - Int.toNat (i4)) (c3 - Int.toNat (i4)) h5 (fun h6 =>
 C_slices_Reverse_s_draft_entry_file_File_draft_entry_file_File B a1 n2 c3 h6 (fun h7 =>
 Fin B h7 (Q))))
def S_slices_Reverse_s_draft_entry_file_File_draft_entry_file_File (B : RO) (a1 : Option Addr) (n2 : Nat) (c3 : Nat) (h : Heap) (Q : Heap → Prop) : Prop :=
 ∃ (J10 : Int → Int → Nat → Heap → Prop) (m8 : Nat), Fin B h (J10 (0) (IntKind.wrap .i64 (((n2 : Nat)) - (1))) m8) ∧
 ∀ (i4 : Int) (i5 : Int) (m7 : Nat) (h6 : Heap), J10 i4 i5 m7 h6 →
 ((i4 : Int) < (i5) →
 ∃ A18 : Addr, a1 = some A18 ∧ 0 ≤ (i5 : Int) ∧ (i5 : Int) < (n2 : Nat) ∧
 ∃ i23 : Int, ∃ b24 : Bool, ∃ s25 : ByteArray, CellsAt B h6 (Addr.add A18 (Int.toNat (i5) * 3)) 0 [(Value.int .i64 (i23)), (Value.bool b24), (Value.string s25)] ∧
 ∃ A29 : Addr, a1 = some A29 ∧ 0 ≤ (i4 : Int) ∧ (i4 : Int) < (n2 : Nat) ∧
 ∃ i34 : Int, ∃ b35 : Bool, ∃ s36 : ByteArray, CellsAt B h6 (Addr.add A29 (Int.toNat (i4) * 3)) 0 [(Value.int .i64 (i34)), (Value.bool b35), (Value.string s36)] ∧
 ∃ A38 : Addr, a1 = some A38 ∧ 0 ≤ (i4 : Int) ∧ (i4 : Int) < (n2 : Nat) ∧
 ∃ h43 : Heap, StoresAt (Addr.add A38 (Int.toNat (i4) * 3)) h6 0 [(Value.int .i64 (i23)), (Value.bool b24), (Value.string s25)] h43 ∧
 CellsAt B h43 (Addr.add A18 (Int.toNat (i5) * 3)) 0 [(Value.int .i64 (i23)), (Value.bool b24), (Value.string s25)] ∧ CellsAt B h43 (Addr.add A29 (Int.toNat (i4) * 3)) 0 [(Value.int .i64 (i34)), (Value.bool b35), (Value.string s36)] ∧
 ∃ A46 : Addr, a1 = some A46 ∧ 0 ≤ (i5 : Int) ∧ (i5 : Int) < (n2 : Nat) ∧
 ∃ h48 : Heap, StoresAt (Addr.add A46 (Int.toNat (i5) * 3)) h43 0 [(Value.int .i64 (i34)), (Value.bool b35), (Value.string s36)] h48 ∧
 Fin B h48 (fun h' => ∃ m', m' < m7 ∧ J10 (IntKind.wrap .i64 ((i4) + (1))) (IntKind.wrap .i64 ((i5) - (1))) m' h')) ∧ (¬ ((i4 : Int) < (i5)) →
 Fin B h6 (Q))
end Go.Proofs.Ythloobpjkeodgaa.H
