/- What each function asks. No condition. -/
import Derived.Test.YthloobpjkeodgaaXdF
namespace Go.Proofs.Ythloobpjkeodgaa.H
open Go
set_option linter.unusedVariables false
set_option maxRecDepth 100000

def S_countermandlaw16_ActsDoes_J1 (B : RO) (h11 : Heap) (Q : Bool → Heap → Prop) : Prop :=
 C_acts_Acts_Send B none (0) (0) h11 (fun b13 h12 =>
 (b13 = true →
 Fin B h12 (Q (false))) ∧ (b13 = false →
 C_acts_Acts_Later B none (0) (0) h12 (fun b15 h14 =>
 (b15 = true →
 Fin B h14 (Q (false))) ∧ (b15 = false →
 C_acts_Acts_Note B none (0) h14 (fun b17 h16 =>
 (b17 = true →
 Fin B h16 (Q (false))) ∧ (b17 = false →
 C_acts_Acts_Opened B none (0) (0) h16 (fun b19 h18 =>
 (b19 = true →
 Fin B h18 (Q (false))) ∧ (b19 = false →
 C_acts_Acts_Output B none h18 (fun a21 n22 c23 h20 =>
 C_acts_Acts_Notes B none h20 (fun a25 n26 c27 h24 =>
 C_acts_Acts_Undo B none h24 (fun a29 n30 c31 h28 =>
 C_acts_Acts_Flush B none h28 (fun a33 n34 c35 h32 =>
 C_acts_Acts_Back B none (0) (0) (0) (0) h32 (fun a37 n38 c39 h36 =>
 ((IntKind.wrap .i64 ((IntKind.wrap .i64 ((IntKind.wrap .i64 ((IntKind.wrap .i64 (((n22 : Nat)) + ((n26 : Nat)))) + ((n30 : Nat)))) + ((n34 : Nat)))) + ((n38 : Nat))) : Int) = 0 →
 C_acts_Acts_Mark B none h36 (fun i42 i43 i44 i45 h41 =>
 Fin B h41 (Q ((decide (eqL [(Value.int .i64 (i42)), (Value.int .i64 (i43)), (Value.int .i64 (i44)), (Value.int .i64 (i45))] [(Value.int .i64 (0)), (Value.int .i64 (0)), (Value.int .i64 (0)), (Value.int .i64 (0))] = true)))))) ∧ (¬ ((IntKind.wrap .i64 ((IntKind.wrap .i64 ((IntKind.wrap .i64 ((IntKind.wrap .i64 (((n22 : Nat)) + ((n26 : Nat)))) + ((n30 : Nat)))) + ((n34 : Nat)))) + ((n38 : Nat))) : Int) = 0) →
 Fin B h36 (Q (false))))))))))))))))
def S_countermandlaw16_ActsDoes_J4 (B : RO) (a1 : Option Addr) (n2 : Nat) (c3 : Nat) (k8 : Nat) (i49 : Int) (m51 : Nat) (J54 : Option Addr → Nat → Nat → Int → Nat → Heap → Prop) (i64 : Int) (a69 : Option Addr) (n70 : Nat) (c71 : Nat) (h84 : Heap) (Q : Bool → Heap → Prop) : Prop :=
 C_acts_Acts_Output B (some ⟨k8, 0, none⟩) h84 (fun a86 n87 c88 h85 =>
 C_countermandref16_Of B a69 n70 c71 (0) h85 (fun a90 n91 c92 h89 =>
 C_countermandref16_Of B a69 n70 c71 (1) h89 (fun a94 n95 c96 h93 =>
 semH PG B (Builtin.append_ #[30, 30] 30 #[(Value.slice a90 n91 c92), (Value.slice a94 n95 c96)]) h93 (fun v h97 => ∃ a98 : Option Addr, ∃ n99 : Nat, ∃ c100 : Nat, v = (Value.slice a98 n99 c100) ∧
 C_countermandlaw16_outs B a86 n87 c88 a98 n99 c100 h97 (fun b102 h101 =>
 (b102 = true →
 C_acts_Acts_Undo B (some ⟨k8, 0, none⟩) h101 (fun a104 n105 c106 h103 =>
 C_countermandref16_Undo B a69 n70 c71 h103 (fun a108 n109 c110 h107 =>
 C_countermandlaw16_opens B a104 n105 c106 a108 n109 c110 h107 (fun b112 h111 =>
 (b112 = true →
 Fin B h111 (fun h' => ∃ m', m' < m51 ∧ J54 a69 n70 c71 (IntKind.wrap .i64 ((i49) + (1))) m' h')) ∧ (b112 = false →
 Fin B h111 (Q (false))))))) ∧ (b102 = false →
 Fin B h101 (Q (false))))))))
def S_countermandlaw16_ActsDoes_J3 (B : RO) (a1 : Option Addr) (n2 : Nat) (c3 : Nat) (k8 : Nat) (i49 : Int) (m51 : Nat) (J54 : Option Addr → Nat → Nat → Int → Nat → Heap → Prop) (i64 : Int) (a69 : Option Addr) (n70 : Nat) (c71 : Nat) (a74 : Option Addr) (n75 : Nat) (c76 : Nat) (a78 : Option Addr) (n79 : Nat) (c80 : Nat) (h82 : Heap) (Q : Bool → Heap → Prop) : Prop :=
 ∃ (J118 : Int → Nat → Heap → Prop) (m116 : Nat), Fin B h82 (J118 (0) m116) ∧
 ∀ (i113 : Int) (m115 : Nat) (h114 : Heap), J118 i113 m115 h114 →
 ((i113 : Int) < ((n79 : Nat)) →
 ∃ A120 : Addr, a78 = some A120 ∧ 0 ≤ (i113 : Int) ∧ (i113 : Int) < (n79 : Nat) ∧
 ∃ i122 : Int, cellH B h114 (Addr.add A120 (Int.toNat (i113) * 1)) = some (Value.int .i64 (i122)) ∧
 ∃ A123 : Addr, a74 = some A123 ∧ 0 ≤ (i113 : Int) ∧ (i113 : Int) < (n75 : Nat) ∧
 ∃ i125 : Int, cellH B h114 (Addr.add (Addr.add A123 (Int.toNat (i113) * 3)) 1) = some (Value.int .i64 (i125)) ∧
 ((i122 : Int) = i125 →
 Fin B h114 (fun h' => ∃ m', m' < m115 ∧ J118 (IntKind.wrap .i64 ((i113) + (1))) m' h')) ∧ (¬ ((i122 : Int) = i125) →
 Fin B h114 (Q (false)))) ∧ (¬ ((i113 : Int) < ((n79 : Nat))) →
 Fin B h114 (fun h' => S_countermandlaw16_ActsDoes_J4 B a1 n2 c3 k8 i49 m51 J54 i64 a69 n70 c71 h' Q))
def S_countermandlaw16_ActsDoes_J2 (B : RO) (a1 : Option Addr) (n2 : Nat) (c3 : Nat) (k8 : Nat) (i49 : Int) (m51 : Nat) (J54 : Option Addr → Nat → Nat → Int → Nat → Heap → Prop) (i64 : Int) (a69 : Option Addr) (n70 : Nat) (c71 : Nat) (h72 : Heap) (Q : Bool → Heap → Prop) : Prop :=
 C_countermandref16_Of B a69 n70 c71 (2) h72 (fun a74 n75 c76 h73 =>
 C_acts_Acts_Notes B (some ⟨k8, 0, none⟩) h73 (fun a78 n79 c80 h77 =>
 (((n79 : Nat) : Int) = (n75 : Nat) →
 C_acts_Acts_Mark B (some ⟨k8, 0, none⟩) h77 (fun i129 i130 i131 i132 h128 =>
 C_countermandref16_Count B a69 n70 c71 h128 (fun i134 i135 i136 i137 h133 =>
 (eqL [(Value.int .i64 (i129)), (Value.int .i64 (i130)), (Value.int .i64 (i131)), (Value.int .i64 (i132))] [(Value.int .i64 (i134)), (Value.int .i64 (i135)), (Value.int .i64 (i136)), (Value.int .i64 (i137))] = true →
 Fin B h133 (fun h' => S_countermandlaw16_ActsDoes_J3 B a1 n2 c3 k8 i49 m51 J54 i64 a69 n70 c71 a74 n75 c76 a78 n79 c80 h' Q)) ∧ (¬ (eqL [(Value.int .i64 (i129)), (Value.int .i64 (i130)), (Value.int .i64 (i131)), (Value.int .i64 (i132))] [(Value.int .i64 (i134)), (Value.int .i64 (i135)), (Value.int .i64 (i136)), (Value.int .i64 (i137))] = true) →
 Fin B h133 (Q (false)))))) ∧ (¬ (((n79 : Nat) : Int) = (n75 : Nat)) →
 Fin B h77 (Q (false)))))
def S_countermandlaw16_ActsDoes_J6 (B : RO) (a1 : Option Addr) (n2 : Nat) (c3 : Nat) (k8 : Nat) (a46 : Option Addr) (n47 : Nat) (c48 : Nat) (i49 : Int) (m51 : Nat) (J54 : Option Addr → Nat → Nat → Int → Nat → Heap → Prop) (i64 : Int) (k65 : Nat) (h145 : Heap) (Q : Bool → Heap → Prop) : Prop :=
 ∃ i146 : Int, ∃ i147 : Int, ∃ i148 : Int, ∃ i149 : Int, CellsAt B h145 ⟨k65, 3, none⟩ 0 [(Value.int .i64 (i146)), (Value.int .i64 (i147)), (Value.int .i64 (i148)), (Value.int .i64 (i149))] ∧
 C_countermandref16_First B a46 n47 c48 (i146) (i147) (i148) (i149) h145 (fun a151 n152 c153 a154 n155 c156 h150 =>
 ∃ i157 : Int, ∃ i158 : Int, ∃ i159 : Int, ∃ i160 : Int, CellsAt B h150 ⟨k65, 3, none⟩ 0 [(Value.int .i64 (i157)), (Value.int .i64 (i158)), (Value.int .i64 (i159)), (Value.int .i64 (i160))] ∧
 C_acts_Acts_Back B (some ⟨k8, 0, none⟩) (i157) (i158) (i159) (i160) h150 (fun a162 n163 c164 h161 =>
 C_countermandref16_Undo B a154 n155 c156 h161 (fun a166 n167 c168 h165 =>
 C_countermandlaw16_opens B a162 n163 c164 a166 n167 c168 h165 (fun b170 h169 =>
 (b170 = true →
 Fin B h169 (fun h' => S_countermandlaw16_ActsDoes_J2 B a1 n2 c3 k8 i49 m51 J54 i64 a151 n152 c153 h' Q)) ∧ (b170 = false →
 Fin B h169 (Q (false)))))))
def S_countermandlaw16_ActsDoes_J5 (B : RO) (a1 : Option Addr) (n2 : Nat) (c3 : Nat) (k8 : Nat) (a46 : Option Addr) (n47 : Nat) (c48 : Nat) (i49 : Int) (m51 : Nat) (J54 : Option Addr → Nat → Nat → Int → Nat → Heap → Prop) (i64 : Int) (k65 : Nat) (i139 : Int) (b141 : Bool) (h142 : Heap) (Q : Bool → Heap → Prop) : Prop :=
 (b141 = true →
 ∃ i204 : Int, ∃ i205 : Int, ∃ i206 : Int, CellsAt B h142 ⟨k65, 0, none⟩ 0 [(Value.int .i64 (i204)), (Value.int .i64 (i205)), (Value.int .i64 (i206))] ∧
 ∃ i209 : Int, ∃ i210 : Int, ∃ i211 : Int, CellsAt B h142 ⟨k65, 0, none⟩ 0 [(Value.int .i64 (i209)), (Value.int .i64 (i210)), (Value.int .i64 (i211))] ∧
 C_countermandlaw16_does B (some ⟨k8, 0, none⟩) (i204) (i205) (i206) h142 (fun b214 h213 =>
 CellsAt B h213 ⟨k65, 0, none⟩ 0 [(Value.int .i64 (i204)), (Value.int .i64 (i205)), (Value.int .i64 (i206))] ∧ CellsAt B h213 ⟨k65, 0, none⟩ 0 [(Value.int .i64 (i209)), (Value.int .i64 (i210)), (Value.int .i64 (i211))] ∧
 C_countermandlaw16_good B (i209) (i210) (i211) h213 (fun b218 h217 =>
 CellsAt B h217 ⟨k65, 0, none⟩ 0 [(Value.int .i64 (i204)), (Value.int .i64 (i205)), (Value.int .i64 (i206))] ∧ CellsAt B h217 ⟨k65, 0, none⟩ 0 [(Value.int .i64 (i209)), (Value.int .i64 (i210)), (Value.int .i64 (i211))] ∧
 (b214 = b218 →
 ∃ i222 : Int, ∃ i223 : Int, ∃ i224 : Int, CellsAt B h217 ⟨k65, 0, none⟩ 0 [(Value.int .i64 (i222)), (Value.int .i64 (i223)), (Value.int .i64 (i224))] ∧
 C_countermandlaw16_good B (i222) (i223) (i224) h217 (fun b226 h225 =>
 (b226 = true →
 ∃ i227 : Int, ∃ i228 : Int, ∃ i229 : Int, CellsAt B h225 ⟨k65, 0, none⟩ 0 [(Value.int .i64 (i227)), (Value.int .i64 (i228)), (Value.int .i64 (i229))] ∧
 ∀ k230 : Nat, h225 k230 = none → B k230 = none → ∀ h231 : Heap, h231 = Heap.set h225 k230 (.vec 32 (plains [(Value.int .i64 (i227)), (Value.int .i64 (i228)), (Value.int .i64 (i229))]) 3) →
 semH PG B (Builtin.append_ #[30, 30] 30 #[(Value.slice a46 n47 c48), (Value.slice (some ⟨k230, 0, none⟩) 1 1)]) h231 (fun v h232 => ∃ a233 : Option Addr, ∃ n234 : Nat, ∃ c235 : Nat, v = (Value.slice a233 n234 c235) ∧
 Fin B h232 (fun h' => S_countermandlaw16_ActsDoes_J2 B a1 n2 c3 k8 i49 m51 J54 i64 a233 n234 c235 h' Q))) ∧ (b226 = false →
 Fin B h225 (fun h' => S_countermandlaw16_ActsDoes_J2 B a1 n2 c3 k8 i49 m51 J54 i64 a46 n47 c48 h' Q)))) ∧ (¬ (b214 = b218) →
 Fin B h217 (Q (false)))))) ∧ (b141 = false →
 ((i139 : Int) = 4 →
 ∃ i171 : Int, ∃ i172 : Int, ∃ i173 : Int, ∃ i174 : Int, CellsAt B h142 ⟨k65, 3, none⟩ 0 [(Value.int .i64 (i171)), (Value.int .i64 (i172)), (Value.int .i64 (i173)), (Value.int .i64 (i174))] ∧
 ∃ (J180 : Int → Nat → Heap → Prop) (m178 : Nat), Fin B h142 (J180 (0) m178) ∧
 ∀ (i175 : Int) (m177 : Nat) (h176 : Heap), J180 i175 m177 h176 →
 ((i175 : Int) < (4) →
 0 ≤ (i175 : Int) ∧ (i175 : Int) < (4 : Nat) ∧ ∃ i182 : Int, (#[(Value.int .i64 (i171)), (Value.int .i64 (i172)), (Value.int .i64 (i173)), (Value.int .i64 (i174))] : Array Value)[Int.toNat (i175) * 1]? = some (Value.int .i64 (i182)) ∧
 ((i182 : Int) < (0) →
 Fin B h176 (Q (true))) ∧ (¬ ((i182 : Int) < (0)) →
 Fin B h176 (fun h' => ∃ m', m' < m177 ∧ J180 (IntKind.wrap .i64 ((i175) + (1))) m' h'))) ∧ (¬ ((i175 : Int) < (4)) →
 Fin B h176 (fun h' => S_countermandlaw16_ActsDoes_J6 B a1 n2 c3 k8 a46 n47 c48 i49 m51 J54 i64 k65 h' Q))) ∧ (¬ ((i139 : Int) = 4) →
 ((i139 : Int) = 5 →
 C_acts_Acts_Flush B (some ⟨k8, 0, none⟩) h142 (fun a186 n187 c188 h185 =>
 C_countermandref16_Of B a46 n47 c48 (0) h185 (fun a190 n191 c192 h189 =>
 C_countermandlaw16_outs B a186 n187 c188 a190 n191 c192 h189 (fun b194 h193 =>
 (b194 = true →
 C_countermandref16_First B a46 n47 c48 ((n47 : Nat)) (0) (0) (0) h193 (fun a196 n197 c198 a199 n200 c201 h195 =>
 Fin B h195 (fun h' => S_countermandlaw16_ActsDoes_J2 B a1 n2 c3 k8 i49 m51 J54 i64 a199 n200 c201 h' Q))) ∧ (b194 = false →
 Fin B h193 (Q (false))))))) ∧ (¬ ((i139 : Int) = 5) →
 Fin B h142 (Q (true)))))
def S_countermandlaw16_ActsDoes (B : RO) (a1 : Option Addr) (n2 : Nat) (c3 : Nat) (h : Heap) (Q : Bool → Heap → Prop) : Prop :=
 C_countermandlaw16_alive B h (fun b6 h5 =>
 (b6 = true →
 (((n2 : Nat) : Int) > (80) →
 Fin B h5 (Q (true))) ∧ (¬ (((n2 : Nat) : Int) > (80)) →
 ∀ k8 : Nat, h5 k8 = none → B k8 = none → ∀ h9 : Heap, h9 = Heap.set h5 k8 (.vec 29 (plains [(Value.slice none 0 0), (Value.slice none 0 0), (Value.slice none 0 0), (Value.slice none 0 0)]) 4) →
 ∃ (J54 : Option Addr → Nat → Nat → Int → Nat → Heap → Prop) (m52 : Nat), Fin B h9 (J54 none 0 0 (0) m52) ∧
 ∀ (a46 : Option Addr) (n47 : Nat) (c48 : Nat) (i49 : Int) (m51 : Nat) (h50 : Heap), J54 a46 n47 c48 i49 m51 h50 →
 ((i49 : Int) < ((n2 : Nat)) →
 ∃ A56 : Addr, a1 = some A56 ∧ 0 ≤ (i49 : Int) ∧ (i49 : Int) < (n2 : Nat) ∧
 ∃ i58 : Int, ∃ i59 : Int, ∃ i60 : Int, ∃ i61 : Int, ∃ i62 : Int, ∃ i63 : Int, ∃ i64 : Int, CellsAt B h50 (Addr.add A56 (Int.toNat (i49) * 7)) 0 [(Value.int .i64 (i58)), (Value.int .i64 (i59)), (Value.int .i64 (i60)), (Value.int .i64 (i61)), (Value.int .i64 (i62)), (Value.int .i64 (i63)), (Value.int .i64 (i64))] ∧
 ∀ k65 : Nat, h50 k65 = none → B k65 = none → ∀ h66 : Heap, h66 = Heap.set h50 k65 (.vec 35 (plains [(Value.int .i64 (0)), (Value.int .i64 (0)), (Value.int .i64 (0)), (Value.int .i64 (0)), (Value.int .i64 (0)), (Value.int .i64 (0)), (Value.int .i64 (0))]) 7) →
 ∃ h67 : Heap, StoresAt ⟨k65, 0, none⟩ h66 0 [(Value.int .i64 (i58)), (Value.int .i64 (i59)), (Value.int .i64 (i60)), (Value.int .i64 (i61)), (Value.int .i64 (i62)), (Value.int .i64 (i63)), (Value.int .i64 (i64))] h67 ∧
 ∃ i139 : Int, cellH B h67 ⟨k65, 0, none⟩ = some (Value.int .i64 (i139)) ∧
 ((i139 : Int) = 0 →
 Fin B h67 (fun h' => S_countermandlaw16_ActsDoes_J5 B a1 n2 c3 k8 a46 n47 c48 i49 m51 J54 i64 k65 i139 (true) h' Q)) ∧ (¬ ((i139 : Int) = 0) →
 ((i139 : Int) = 1 →
 Fin B h67 (fun h' => S_countermandlaw16_ActsDoes_J5 B a1 n2 c3 k8 a46 n47 c48 i49 m51 J54 i64 k65 i139 (true) h' Q)) ∧ (¬ ((i139 : Int) = 1) →
 ((i139 : Int) = 2 →
 Fin B h67 (fun h' => S_countermandlaw16_ActsDoes_J5 B a1 n2 c3 k8 a46 n47 c48 i49 m51 J54 i64 k65 i139 (true) h' Q)) ∧ (¬ ((i139 : Int) = 2) →
 ((i139 : Int) = 3 →
 Fin B h67 (fun h' => S_countermandlaw16_ActsDoes_J5 B a1 n2 c3 k8 a46 n47 c48 i49 m51 J54 i64 k65 i139 (true) h' Q)) ∧ (¬ ((i139 : Int) = 3) →
 Fin B h67 (fun h' => S_countermandlaw16_ActsDoes_J5 B a1 n2 c3 k8 a46 n47 c48 i49 m51 J54 i64 k65 i139 (false) h' Q)))))) ∧ (¬ ((i49 : Int) < ((n2 : Nat))) →
 Fin B h50 (fun h' => S_countermandlaw16_ActsDoes_J1 B h' Q)))) ∧ (b6 = false →
 Fin B h5 (Q (false))))
def S_countermandlaw16_alive_J1 (B : RO) (k2 : Nat) (h5 : Heap) (Q : Bool → Heap → Prop) : Prop :=
 C_acts_Acts_Undo B (some ⟨k2, 0, none⟩) h5 (fun a7 n8 c9 h6 =>
 (((n8 : Nat) : Int) = 2 →
 ∃ A11 : Addr, a7 = some A11 ∧ 0 ≤ (0 : Int) ∧ (0 : Int) < (n8 : Nat) ∧
 ∃ i13 : Int, ∃ i14 : Int, CellsAt B h6 (Addr.add A11 (Int.toNat (0) * 2)) 0 [(Value.int .i64 (i13)), (Value.int .i64 (i14))] ∧
 Fin B h6 (Q ((decide (eqL [(Value.int .i64 (i13)), (Value.int .i64 (i14))] [(Value.int .i64 (2)), (Value.int .i64 ((-3)))] = true))))) ∧ (¬ (((n8 : Nat) : Int) = 2) →
 Fin B h6 (Q (false))))
def S_countermandlaw16_alive (B : RO) (h : Heap) (Q : Bool → Heap → Prop) : Prop :=
 ∀ k2 : Nat, h k2 = none → B k2 = none → ∀ h3 : Heap, h3 = Heap.set h k2 (.vec 29 (plains [(Value.slice none 0 0), (Value.slice none 0 0), (Value.slice none 0 0), (Value.slice none 0 0)]) 4) →
 C_acts_Acts_Opened B (some ⟨k2, 0, none⟩) (1) (5) h3 (fun b16 h15 =>
 (b16 = true →
 C_acts_Acts_Opened B (some ⟨k2, 0, none⟩) (2) (3) h15 (fun b18 h17 =>
 (b18 = true →
 Fin B h17 (fun h' => S_countermandlaw16_alive_J1 B k2 h' Q)) ∧ (b18 = false →
 Fin B h17 (Q (false))))) ∧ (b16 = false →
 Fin B h15 (Q (false))))
def S_countermandlaw16_does_J1 (B : RO) (p1 : Option Addr) (k6 : Nat) (h9 : Heap) (Q : Bool → Heap → Prop) : Prop :=
 ∃ i10 : Int, cellH B h9 ⟨k6, 1, none⟩ = some (Value.int .i64 (i10)) ∧
 ∃ i11 : Int, cellH B h9 ⟨k6, 2, none⟩ = some (Value.int .i64 (i11)) ∧
 C_acts_Acts_Opened B p1 (i10) (i11) h9 (fun b13 h12 =>
 Fin B h12 (Q (b13)))
def S_countermandlaw16_does (B : RO) (p1 : Option Addr) (i2 : Int) (i3 : Int) (i4 : Int) (h : Heap) (Q : Bool → Heap → Prop) : Prop :=
 ∀ k6 : Nat, h k6 = none → B k6 = none → ∀ h7 : Heap, h7 = Heap.set h k6 (.vec 32 (plains [(Value.int .i64 (i2)), (Value.int .i64 (i3)), (Value.int .i64 (i4))]) 3) →
 ∃ i14 : Int, cellH B h7 ⟨k6, 0, none⟩ = some (Value.int .i64 (i14)) ∧
 ((i14 : Int) = 0 →
 ∃ i16 : Int, cellH B h7 ⟨k6, 1, none⟩ = some (Value.int .i64 (i16)) ∧
 ∃ i17 : Int, cellH B h7 ⟨k6, 2, none⟩ = some (Value.int .i64 (i17)) ∧
 C_acts_Acts_Send B p1 (i16) (IntKind.wrap .u8 (i17)) h7 (fun b19 h18 =>
 Fin B h18 (Q (b19)))) ∧ (¬ ((i14 : Int) = 0) →
 ((i14 : Int) = 1 →
 ∃ i21 : Int, cellH B h7 ⟨k6, 1, none⟩ = some (Value.int .i64 (i21)) ∧
 ∃ i22 : Int, cellH B h7 ⟨k6, 2, none⟩ = some (Value.int .i64 (i22)) ∧
 C_acts_Acts_Later B p1 (i21) (IntKind.wrap .u8 (i22)) h7 (fun b24 h23 =>
 Fin B h23 (Q (b24)))) ∧ (¬ ((i14 : Int) = 1) →
 ((i14 : Int) = 2 →
 ∃ i26 : Int, cellH B h7 ⟨k6, 1, none⟩ = some (Value.int .i64 (i26)) ∧
 C_acts_Acts_Note B p1 (i26) h7 (fun b28 h27 =>
 Fin B h27 (Q (b28)))) ∧ (¬ ((i14 : Int) = 2) →
 Fin B h7 (fun h' => S_countermandlaw16_does_J1 B p1 k6 h' Q))))
def S_countermandlaw16_good (B : RO) (i1 : Int) (i2 : Int) (i3 : Int) (h : Heap) (Q : Bool → Heap → Prop) : Prop :=
 ∀ k5 : Nat, h k5 = none → B k5 = none → ∀ h6 : Heap, h6 = Heap.set h k5 (.vec 32 (plains [(Value.int .i64 (i1)), (Value.int .i64 (i2)), (Value.int .i64 (i3))]) 3) →
 ∃ i7 : Int, cellH B h6 ⟨k5, 0, none⟩ = some (Value.int .i64 (i7)) ∧
 ((i7 : Int) = 2 →
 Fin B h6 (Q (true))) ∧ (¬ ((i7 : Int) = 2) →
 ∃ i9 : Int, cellH B h6 ⟨k5, 1, none⟩ = some (Value.int .i64 (i9)) ∧
 ((i9 : Int) ≥ (0) →
 ∃ i11 : Int, cellH B h6 ⟨k5, 0, none⟩ = some (Value.int .i64 (i11)) ∧
 ((i11 : Int) < (2) →
 ∃ i13 : Int, cellH B h6 ⟨k5, 1, none⟩ = some (Value.int .i64 (i13)) ∧
 ((i13 : Int) ≤ (2) →
 Fin B h6 (Q (true))) ∧ (¬ ((i13 : Int) ≤ (2)) →
 ∃ i15 : Int, cellH B h6 ⟨k5, 0, none⟩ = some (Value.int .i64 (i15)) ∧
 ((i15 : Int) = 3 →
 ∃ i17 : Int, cellH B h6 ⟨k5, 1, none⟩ = some (Value.int .i64 (i17)) ∧
 Fin B h6 (Q ((decide ((i17 : Int) ≤ (3)))))) ∧ (¬ ((i15 : Int) = 3) →
 Fin B h6 (Q (false))))) ∧ (¬ ((i11 : Int) < (2)) →
 ∃ i18 : Int, cellH B h6 ⟨k5, 0, none⟩ = some (Value.int .i64 (i18)) ∧
 ((i18 : Int) = 3 →
 ∃ i20 : Int, cellH B h6 ⟨k5, 1, none⟩ = some (Value.int .i64 (i20)) ∧
 Fin B h6 (Q ((decide ((i20 : Int) ≤ (3)))))) ∧ (¬ ((i18 : Int) = 3) →
 Fin B h6 (Q (false))))) ∧ (¬ ((i9 : Int) ≥ (0)) →
 Fin B h6 (Q (false))))
def S_countermandref16_First_J1 (B : RO) (a1 : Option Addr) (n2 : Nat) (c3 : Nat) (k14 : Nat) (k16 : Nat) (i24 : Int) (m26 : Nat) (J29 : Option Addr → Nat → Nat → Option Addr → Nat → Nat → Int → Nat → Heap → Prop) (k36 : Nat) (a40 : Option Addr) (n41 : Nat) (c42 : Nat) (a43 : Option Addr) (n44 : Nat) (c45 : Nat) (h46 : Heap) (Q : Option Addr → Nat → Nat → Option Addr → Nat → Nat → Heap → Prop) : Prop :=
 ∃ i47 : Int, cellH B h46 ⟨k36, 0, none⟩ = some (Value.int .i64 (i47)) ∧
 0 ≤ (i47 : Int) ∧ (i47 : Int) < (4 : Nat) ∧
 ∃ i48 : Int, cellH B h46 (Addr.add ⟨k16, 0, none⟩ (Int.toNat (i47) * 1)) = some (Value.int .i64 (i48)) ∧
 0 ≤ (i47 : Int) ∧ (i47 : Int) < (4 : Nat) ∧
 ∃ h49 : Heap, storeH h46 (Addr.add ⟨k16, 0, none⟩ (Int.toNat (i47) * 1)) (Value.int .i64 (IntKind.wrap .i64 ((i48) + (1)))) = some h49 ∧
 Fin B h49 (fun h' => ∃ m', m' < m26 ∧ J29 a40 n41 c42 a43 n44 c45 (IntKind.wrap .i64 ((i24) + (1))) m' h')
def S_countermandref16_First (B : RO) (a1 : Option Addr) (n2 : Nat) (c3 : Nat) (i4 : Int) (i5 : Int) (i6 : Int) (i7 : Int) (h : Heap) (Q : Option Addr → Nat → Nat → Option Addr → Nat → Nat → Heap → Prop) : Prop :=
 ∀ k14 : Nat, h k14 = none → B k14 = none → ∀ h15 : Heap, h15 = Heap.set h k14 (.vec 33 (plains [(Value.int .i64 (i4)), (Value.int .i64 (i5)), (Value.int .i64 (i6)), (Value.int .i64 (i7))]) 4) →
 ∀ k16 : Nat, h15 k16 = none → B k16 = none → ∀ h17 : Heap, h17 = Heap.set h15 k16 (.vec 33 (plains [(Value.int .i64 (0)), (Value.int .i64 (0)), (Value.int .i64 (0)), (Value.int .i64 (0))]) 4) →
 ∃ (J29 : Option Addr → Nat → Nat → Option Addr → Nat → Nat → Int → Nat → Heap → Prop) (m27 : Nat), Fin B h17 (J29 none 0 0 none 0 0 (0) m27) ∧
 ∀ (a18 : Option Addr) (n19 : Nat) (c20 : Nat) (a21 : Option Addr) (n22 : Nat) (c23 : Nat) (i24 : Int) (m26 : Nat) (h25 : Heap), J29 a18 n19 c20 a21 n22 c23 i24 m26 h25 →
 ((i24 : Int) < ((n2 : Nat)) →
 ∃ A31 : Addr, a1 = some A31 ∧ 0 ≤ (i24 : Int) ∧ (i24 : Int) < (n2 : Nat) ∧
 ∃ i33 : Int, ∃ i34 : Int, ∃ i35 : Int, CellsAt B h25 (Addr.add A31 (Int.toNat (i24) * 3)) 0 [(Value.int .i64 (i33)), (Value.int .i64 (i34)), (Value.int .i64 (i35))] ∧
 ∀ k36 : Nat, h25 k36 = none → B k36 = none → ∀ h37 : Heap, h37 = Heap.set h25 k36 (.vec 32 (plains [(Value.int .i64 (0)), (Value.int .i64 (0)), (Value.int .i64 (0))]) 3) →
 ∃ h38 : Heap, StoresAt ⟨k36, 0, none⟩ h37 0 [(Value.int .i64 (i33)), (Value.int .i64 (i34)), (Value.int .i64 (i35))] h38 ∧
 ∃ i50 : Int, cellH B h38 ⟨k36, 0, none⟩ = some (Value.int .i64 (i50)) ∧
 0 ≤ (i50 : Int) ∧ (i50 : Int) < (4 : Nat) ∧
 ∃ i51 : Int, cellH B h38 (Addr.add ⟨k16, 0, none⟩ (Int.toNat (i50) * 1)) = some (Value.int .i64 (i51)) ∧
 ∃ i52 : Int, cellH B h38 ⟨k36, 0, none⟩ = some (Value.int .i64 (i52)) ∧
 0 ≤ (i52 : Int) ∧ (i52 : Int) < (4 : Nat) ∧
 ∃ i53 : Int, cellH B h38 (Addr.add ⟨k14, 0, none⟩ (Int.toNat (i52) * 1)) = some (Value.int .i64 (i53)) ∧
 ((i51 : Int) < (i53) →
 ∃ i55 : Int, ∃ i56 : Int, ∃ i57 : Int, CellsAt B h38 ⟨k36, 0, none⟩ 0 [(Value.int .i64 (i55)), (Value.int .i64 (i56)), (Value.int .i64 (i57))] ∧
 ∀ k58 : Nat, h38 k58 = none → B k58 = none → ∀ h59 : Heap, h59 = Heap.set h38 k58 (.vec 32 (plains [(Value.int .i64 (i55)), (Value.int .i64 (i56)), (Value.int .i64 (i57))]) 3) →
 semH PG B (Builtin.append_ #[30, 30] 30 #[(Value.slice a18 n19 c20), (Value.slice (some ⟨k58, 0, none⟩) 1 1)]) h59 (fun v h60 => ∃ a61 : Option Addr, ∃ n62 : Nat, ∃ c63 : Nat, v = (Value.slice a61 n62 c63) ∧
 Fin B h60 (fun h' => S_countermandref16_First_J1 B a1 n2 c3 k14 k16 i24 m26 J29 k36 a61 n62 c63 a21 n22 c23 h' Q))) ∧ (¬ ((i51 : Int) < (i53)) →
 ∃ i64 : Int, ∃ i65 : Int, ∃ i66 : Int, CellsAt B h38 ⟨k36, 0, none⟩ 0 [(Value.int .i64 (i64)), (Value.int .i64 (i65)), (Value.int .i64 (i66))] ∧
 ∀ k67 : Nat, h38 k67 = none → B k67 = none → ∀ h68 : Heap, h68 = Heap.set h38 k67 (.vec 32 (plains [(Value.int .i64 (i64)), (Value.int .i64 (i65)), (Value.int .i64 (i66))]) 3) →
 semH PG B (Builtin.append_ #[30, 30] 30 #[(Value.slice a21 n22 c23), (Value.slice (some ⟨k67, 0, none⟩) 1 1)]) h68 (fun v h69 => ∃ a70 : Option Addr, ∃ n71 : Nat, ∃ c72 : Nat, v = (Value.slice a70 n71 c72) ∧
 Fin B h69 (fun h' => S_countermandref16_First_J1 B a1 n2 c3 k14 k16 i24 m26 J29 k36 a18 n19 c20 a70 n71 c72 h' Q)))) ∧ (¬ ((i24 : Int) < ((n2 : Nat))) →
 Fin B h25 (Q a18 n19 c20 a21 n22 c23))
def S_countermandlaw16_opens (B : RO) (a1 : Option Addr) (n2 : Nat) (c3 : Nat) (a4 : Option Addr) (n5 : Nat) (c6 : Nat) (h : Heap) (Q : Bool → Heap → Prop) : Prop :=
 (((n2 : Nat) : Int) = (n5 : Nat) →
 ∃ (J14 : Int → Nat → Heap → Prop) (m12 : Nat), Fin B h (J14 (0) m12) ∧
 ∀ (i9 : Int) (m11 : Nat) (h10 : Heap), J14 i9 m11 h10 →
 ((i9 : Int) < ((n2 : Nat)) →
 ∃ A16 : Addr, a1 = some A16 ∧ 0 ≤ (i9 : Int) ∧ (i9 : Int) < (n2 : Nat) ∧
 ∃ i18 : Int, ∃ i19 : Int, CellsAt B h10 (Addr.add A16 (Int.toNat (i9) * 2)) 0 [(Value.int .i64 (i18)), (Value.int .i64 (i19))] ∧
 ∀ k20 : Nat, h10 k20 = none → B k20 = none → ∀ h21 : Heap, h21 = Heap.set h10 k20 (.vec 160 (plains [(Value.int .i64 (0)), (Value.int .i64 (0))]) 2) →
 ∃ h22 : Heap, StoresAt ⟨k20, 0, none⟩ h21 0 [(Value.int .i64 (i18)), (Value.int .i64 (i19))] h22 ∧
 ∃ i23 : Int, cellH B h22 ⟨k20, 0, none⟩ = some (Value.int .i64 (i23)) ∧
 ∃ A24 : Addr, a4 = some A24 ∧ 0 ≤ (i9 : Int) ∧ (i9 : Int) < (n5 : Nat) ∧
 ∃ i26 : Int, cellH B h22 (Addr.add (Addr.add A24 (Int.toNat (i9) * 3)) 1) = some (Value.int .i64 (i26)) ∧
 ((i23 : Int) = i26 →
 ∃ i28 : Int, cellH B h22 ⟨k20, 1, none⟩ = some (Value.int .i64 (i28)) ∧
 ∃ A29 : Addr, a4 = some A29 ∧ 0 ≤ (i9 : Int) ∧ (i9 : Int) < (n5 : Nat) ∧
 ∃ i31 : Int, cellH B h22 (Addr.add (Addr.add A29 (Int.toNat (i9) * 3)) 2) = some (Value.int .i64 (i31)) ∧
 ((i28 : Int) = i31 →
 Fin B h22 (fun h' => ∃ m', m' < m11 ∧ J14 (IntKind.wrap .i64 ((i9) + (1))) m' h')) ∧ (¬ ((i28 : Int) = i31) →
 Fin B h22 (Q (false)))) ∧ (¬ ((i23 : Int) = i26) →
 Fin B h22 (Q (false)))) ∧ (¬ ((i9 : Int) < ((n2 : Nat))) →
 Fin B h10 (Q (true)))) ∧ (¬ (((n2 : Nat) : Int) = (n5 : Nat)) →
 Fin B h (Q (false)))
def S_acts_Acts_Back (B : RO) (p1 : Option Addr) (i2 : Int) (i3 : Int) (i4 : Int) (i5 : Int) (h : Heap) (Q : Option Addr → Nat → Nat → Heap → Prop) : Prop :=
 ∀ k9 : Nat, h k9 = none → B k9 = none → ∀ h10 : Heap, h10 = Heap.set h k9 (.vec 42 (plains [(Value.int .i64 (i2)), (Value.int .i64 (i3)), (Value.int .i64 (i4)), (Value.int .i64 (i5))]) 4) →
 (p1 = none →
 Fin B h10 (Q none 0 0)) ∧ (¬ (p1 = none) →
 ∃ A14 : Addr, p1 = some A14 ∧
 ∃ a18 : Option Addr, ∃ n19 : Nat, ∃ c20 : Nat, cellH B h10 A14 = some (Value.slice a18 n19 c20) ∧
 0 ≤ (0 : Int) ∧ (0 : Int) < (4 : Nat) ∧
 ∃ i25 : Int, cellH B h10 ⟨k9, 0, none⟩ = some (Value.int .i64 (i25)) ∧
 C_acts_first_acts_Out B a18 n19 c20 (i25) h10 (fun a28 n29 c30 h27 =>
 cellH B h27 A14 = some (Value.slice a18 n19 c20) ∧ cellH B h27 ⟨k9, 0, none⟩ = some (Value.int .i64 (i25)) ∧
 ∃ A33 : Addr, p1 = some A33 ∧
 ∃ h35 : Heap, storeH h27 A33 (Value.slice a28 n29 c30) = some h35 ∧
 ∃ A38 : Addr, p1 = some A38 ∧
 ∃ a42 : Option Addr, ∃ n43 : Nat, ∃ c44 : Nat, cellH B h35 (Addr.add A38 1) = some (Value.slice a42 n43 c44) ∧
 0 ≤ (1 : Int) ∧ (1 : Int) < (4 : Nat) ∧
 ∃ i49 : Int, cellH B h35 ⟨k9, 1, none⟩ = some (Value.int .i64 (i49)) ∧
 C_acts_first_acts_Out B a42 n43 c44 (i49) h35 (fun a52 n53 c54 h51 =>
 cellH B h51 (Addr.add A38 1) = some (Value.slice a42 n43 c44) ∧ cellH B h51 ⟨k9, 1, none⟩ = some (Value.int .i64 (i49)) ∧
 ∃ A57 : Addr, p1 = some A57 ∧
 ∃ h59 : Heap, storeH h51 (Addr.add A57 1) (Value.slice a52 n53 c54) = some h59 ∧
 ∃ A62 : Addr, p1 = some A62 ∧
 ∃ a66 : Option Addr, ∃ n67 : Nat, ∃ c68 : Nat, cellH B h59 (Addr.add A62 2) = some (Value.slice a66 n67 c68) ∧
 0 ≤ (2 : Int) ∧ (2 : Int) < (4 : Nat) ∧
 ∃ i73 : Int, cellH B h59 ⟨k9, 2, none⟩ = some (Value.int .i64 (i73)) ∧
 C_acts_first_int B a66 n67 c68 (i73) h59 (fun a76 n77 c78 h75 =>
 cellH B h75 (Addr.add A62 2) = some (Value.slice a66 n67 c68) ∧ cellH B h75 ⟨k9, 2, none⟩ = some (Value.int .i64 (i73)) ∧
 ∃ A81 : Addr, p1 = some A81 ∧
 ∃ h83 : Heap, storeH h75 (Addr.add A81 2) (Value.slice a76 n77 c78) = some h83 ∧
 ∃ A85 : Addr, p1 = some A85 ∧
 ∃ a89 : Option Addr, ∃ n90 : Nat, ∃ c91 : Nat, cellH B h83 (Addr.add A85 3) = some (Value.slice a89 n90 c91) ∧
 0 ≤ (3 : Int) ∧ (3 : Int) < (4 : Nat) ∧
 ∃ i96 : Int, cellH B h83 ⟨k9, 3, none⟩ = some (Value.int .i64 (i96)) ∧
 C_acts_first_acts_Open B a89 n90 c91 (i96) h83 (fun a99 n100 c101 h98 =>
 cellH B h98 (Addr.add A85 3) = some (Value.slice a89 n90 c91) ∧ cellH B h98 ⟨k9, 3, none⟩ = some (Value.int .i64 (i96)) ∧
 ∃ A104 : Addr, p1 = some A104 ∧
 LdSl B h98 (Addr.add A104 3) fun a106 n107 c108 h109 =>
 0 ≤ ((n100 : Nat) : Int) ∧ ((n100 : Nat) : Int) ≤ ((n107 : Nat) : Int) ∧ ((n107 : Nat) : Int) ≤ (c108 : Nat) ∧
 C_acts_undo B (if c108 = Int.toNat ((n100 : Nat)) then a106 else Option.map (·.add (Int.toNat ((n100 : Nat)) * 2)) a106) (Int.toNat ((n107 : Nat)) - Int.toNat ((n100 : Nat))) (c108 - Int.toNat ((n100 : Nat))) h109 (fun a111 n112 c113 h110 =>
 ∃ A114 : Addr, p1 = some A114 ∧
 ∃ h116 : Heap, storeH h110 (Addr.add A114 3) (Value.slice a99 n100 c101) = some h116 ∧
 Fin B h116 (Q a111 n112 c113)))))))
def S_countermandref16_Undo (B : RO) (a1 : Option Addr) (n2 : Nat) (c3 : Nat) (h : Heap) (Q : Option Addr → Nat → Nat → Heap → Prop) : Prop :=
 C_countermandref16_Of B a1 n2 c3 (3) h (fun a8 n9 c10 h7 =>
 ∃ (J19 : Option Addr → Nat → Nat → Int → Nat → Heap → Prop) (m17 : Nat), Fin B h7 (J19 none 0 0 (0) m17) ∧
 ∀ (a11 : Option Addr) (n12 : Nat) (c13 : Nat) (i14 : Int) (m16 : Nat) (h15 : Heap), J19 a11 n12 c13 i14 m16 h15 →
 ((i14 : Int) < ((n9 : Nat)) →
 ∃ A21 : Addr, a8 = some A21 ∧ 0 ≤ (i14 : Int) ∧ (i14 : Int) < (n9 : Nat) ∧
 ∃ i23 : Int, ∃ i24 : Int, ∃ i25 : Int, CellsAt B h15 (Addr.add A21 (Int.toNat (i14) * 3)) 0 [(Value.int .i64 (i23)), (Value.int .i64 (i24)), (Value.int .i64 (i25))] ∧
 ∀ k26 : Nat, h15 k26 = none → B k26 = none → ∀ h27 : Heap, h27 = Heap.set h15 k26 (.vec 32 (plains [(Value.int .i64 (0)), (Value.int .i64 (0)), (Value.int .i64 (0))]) 3) →
 ∃ h28 : Heap, StoresAt ⟨k26, 0, none⟩ h27 0 [(Value.int .i64 (i23)), (Value.int .i64 (i24)), (Value.int .i64 (i25))] h28 ∧
 ∃ i29 : Int, cellH B h28 ⟨k26, 1, none⟩ = some (Value.int .i64 (i29)) ∧
 ∃ i30 : Int, cellH B h28 ⟨k26, 2, none⟩ = some (Value.int .i64 (i30)) ∧
 ∀ k31 : Nat, h28 k31 = none → B k31 = none → ∀ h32 : Heap, h32 = Heap.set h28 k31 (.vec 32 (plains [(Value.int .i64 (3)), (Value.int .i64 (i29)), (Value.int .i64 (IntKind.wrap .i64 (0 - (i30))))]) 3) →
 semH PG B (Builtin.append_ #[30, 30] 30 #[(Value.slice (some ⟨k31, 0, none⟩) 1 1), (Value.slice a11 n12 c13)]) h32 (fun v h33 => ∃ a34 : Option Addr, ∃ n35 : Nat, ∃ c36 : Nat, v = (Value.slice a34 n35 c36) ∧
 Fin B h33 (fun h' => ∃ m', m' < m16 ∧ J19 a34 n35 c36 (IntKind.wrap .i64 ((i14) + (1))) m' h'))) ∧ (¬ ((i14 : Int) < ((n9 : Nat))) →
 Fin B h15 (Q a11 n12 c13)))
def S_countermandlaw16_outs (B : RO) (a1 : Option Addr) (n2 : Nat) (c3 : Nat) (a4 : Option Addr) (n5 : Nat) (c6 : Nat) (h : Heap) (Q : Bool → Heap → Prop) : Prop :=
 (((n2 : Nat) : Int) = (n5 : Nat) →
 ∃ (J14 : Int → Nat → Heap → Prop) (m12 : Nat), Fin B h (J14 (0) m12) ∧
 ∀ (i9 : Int) (m11 : Nat) (h10 : Heap), J14 i9 m11 h10 →
 ((i9 : Int) < ((n2 : Nat)) →
 ∃ A16 : Addr, a1 = some A16 ∧ 0 ≤ (i9 : Int) ∧ (i9 : Int) < (n2 : Nat) ∧
 ∃ i18 : Int, ∃ i19 : Int, CellsAt B h10 (Addr.add A16 (Int.toNat (i9) * 2)) 0 [(Value.int .i64 (i18)), (Value.int .u8 (i19))] ∧
 ∀ k20 : Nat, h10 k20 = none → B k20 = none → ∀ h21 : Heap, h21 = Heap.set h10 k20 (.vec 163 (plains [(Value.int .i64 (0)), (Value.int .u8 (0))]) 2) →
 ∃ h22 : Heap, StoresAt ⟨k20, 0, none⟩ h21 0 [(Value.int .i64 (i18)), (Value.int .u8 (i19))] h22 ∧
 ∃ i23 : Int, cellH B h22 ⟨k20, 0, none⟩ = some (Value.int .i64 (i23)) ∧
 ∃ A24 : Addr, a4 = some A24 ∧ 0 ≤ (i9 : Int) ∧ (i9 : Int) < (n5 : Nat) ∧
 ∃ i26 : Int, cellH B h22 (Addr.add (Addr.add A24 (Int.toNat (i9) * 3)) 1) = some (Value.int .i64 (i26)) ∧
 ((i23 : Int) = i26 →
 ∃ i28 : Int, cellH B h22 ⟨k20, 1, none⟩ = some (Value.int .u8 (i28)) ∧
 ∃ A29 : Addr, a4 = some A29 ∧ 0 ≤ (i9 : Int) ∧ (i9 : Int) < (n5 : Nat) ∧
 ∃ i31 : Int, cellH B h22 (Addr.add (Addr.add A29 (Int.toNat (i9) * 3)) 2) = some (Value.int .i64 (i31)) ∧
 ((i28 : Int) = IntKind.wrap .u8 (i31) →
 Fin B h22 (fun h' => ∃ m', m' < m11 ∧ J14 (IntKind.wrap .i64 ((i9) + (1))) m' h')) ∧ (¬ ((i28 : Int) = IntKind.wrap .u8 (i31)) →
 Fin B h22 (Q (false)))) ∧ (¬ ((i23 : Int) = i26) →
 Fin B h22 (Q (false)))) ∧ (¬ ((i9 : Int) < ((n2 : Nat))) →
 Fin B h10 (Q (true)))) ∧ (¬ (((n2 : Nat) : Int) = (n5 : Nat)) →
 Fin B h (Q (false)))
def S_acts_Acts_Flush (B : RO) (p1 : Option Addr) (h : Heap) (Q : Option Addr → Nat → Nat → Heap → Prop) : Prop :=
 (p1 = none →
 Fin B h (Q none 0 0)) ∧ (¬ (p1 = none) →
 ∃ A6 : Addr, p1 = some A6 ∧
 LdSl B h A6 fun a8 n9 c10 h11 =>
 ∃ A12 : Addr, p1 = some A12 ∧
 ∃ h14 : Heap, storeH h11 A12 (Value.slice none 0 0) = some h14 ∧
 Fin B h14 (Q a8 n9 c10))
def S_countermandref16_Of (B : RO) (a1 : Option Addr) (n2 : Nat) (c3 : Nat) (i4 : Int) (h : Heap) (Q : Option Addr → Nat → Nat → Heap → Prop) : Prop :=
 ∃ (J16 : Option Addr → Nat → Nat → Int → Nat → Heap → Prop) (m14 : Nat), Fin B h (J16 none 0 0 (0) m14) ∧
 ∀ (a8 : Option Addr) (n9 : Nat) (c10 : Nat) (i11 : Int) (m13 : Nat) (h12 : Heap), J16 a8 n9 c10 i11 m13 h12 →
 ((i11 : Int) < ((n2 : Nat)) →
 ∃ A18 : Addr, a1 = some A18 ∧ 0 ≤ (i11 : Int) ∧ (i11 : Int) < (n2 : Nat) ∧
 ∃ i20 : Int, ∃ i21 : Int, ∃ i22 : Int, CellsAt B h12 (Addr.add A18 (Int.toNat (i11) * 3)) 0 [(Value.int .i64 (i20)), (Value.int .i64 (i21)), (Value.int .i64 (i22))] ∧
 ∀ k23 : Nat, h12 k23 = none → B k23 = none → ∀ h24 : Heap, h24 = Heap.set h12 k23 (.vec 32 (plains [(Value.int .i64 (0)), (Value.int .i64 (0)), (Value.int .i64 (0))]) 3) →
 ∃ h25 : Heap, StoresAt ⟨k23, 0, none⟩ h24 0 [(Value.int .i64 (i20)), (Value.int .i64 (i21)), (Value.int .i64 (i22))] h25 ∧
 ∃ i26 : Int, cellH B h25 ⟨k23, 0, none⟩ = some (Value.int .i64 (i26)) ∧
 ((i26 : Int) = i4 →
 ∃ i28 : Int, ∃ i29 : Int, ∃ i30 : Int, CellsAt B h25 ⟨k23, 0, none⟩ 0 [(Value.int .i64 (i28)), (Value.int .i64 (i29)), (Value.int .i64 (i30))] ∧
 ∀ k31 : Nat, h25 k31 = none → B k31 = none → ∀ h32 : Heap, h32 = Heap.set h25 k31 (.vec 32 (plains [(Value.int .i64 (i28)), (Value.int .i64 (i29)), (Value.int .i64 (i30))]) 3) →
 semH PG B (Builtin.append_ #[30, 30] 30 #[(Value.slice a8 n9 c10), (Value.slice (some ⟨k31, 0, none⟩) 1 1)]) h32 (fun v h33 => ∃ a34 : Option Addr, ∃ n35 : Nat, ∃ c36 : Nat, v = (Value.slice a34 n35 c36) ∧
 Fin B h33 (fun h' => ∃ m', m' < m13 ∧ J16 a34 n35 c36 (IntKind.wrap .i64 ((i11) + (1))) m' h'))) ∧ (¬ ((i26 : Int) = i4) →
 Fin B h25 (fun h' => ∃ m', m' < m13 ∧ J16 a8 n9 c10 (IntKind.wrap .i64 ((i11) + (1))) m' h'))) ∧ (¬ ((i11 : Int) < ((n2 : Nat))) →
 Fin B h12 (Q a8 n9 c10))
def S_acts_Acts_Notes (B : RO) (p1 : Option Addr) (h : Heap) (Q : Option Addr → Nat → Nat → Heap → Prop) : Prop :=
 (p1 = none →
 Fin B h (Q none 0 0)) ∧ (¬ (p1 = none) →
 ∃ A6 : Addr, p1 = some A6 ∧
 LdSl B h (Addr.add A6 2) fun a8 n9 c10 h11 =>
 C_slices_Clone_s_int_int B a8 n9 c10 h11 (fun a13 n14 c15 h12 =>
 Fin B h12 (Q a13 n14 c15)))
def S_acts_Acts_Mark (B : RO) (p1 : Option Addr) (h : Heap) (Q : Int → Int → Int → Int → Heap → Prop) : Prop :=
 ∀ k6 : Nat, h k6 = none → B k6 = none → ∀ h7 : Heap, h7 = Heap.set h k6 (.vec 42 (plains [(Value.int .i64 (0)), (Value.int .i64 (0)), (Value.int .i64 (0)), (Value.int .i64 (0))]) 4) →
 (p1 = none →
 ∃ h9 : Heap, StoresAt ⟨k6, 0, none⟩ h7 0 [(Value.int .i64 (0)), (Value.int .i64 (0)), (Value.int .i64 (0)), (Value.int .i64 (0))] h9 ∧
 ∃ i10 : Int, ∃ i11 : Int, ∃ i12 : Int, ∃ i13 : Int, CellsAt B h9 ⟨k6, 0, none⟩ 0 [(Value.int .i64 (i10)), (Value.int .i64 (i11)), (Value.int .i64 (i12)), (Value.int .i64 (i13))] ∧ Fin B h9 (Q (i10) (i11) (i12) (i13))) ∧ (¬ (p1 = none) →
 ∃ A14 : Addr, p1 = some A14 ∧
 ∃ a16 : Option Addr, ∃ n17 : Nat, ∃ c18 : Nat, cellH B h7 A14 = some (Value.slice a16 n17 c18) ∧
 ∃ A19 : Addr, p1 = some A19 ∧
 ∃ a21 : Option Addr, ∃ n22 : Nat, ∃ c23 : Nat, cellH B h7 (Addr.add A19 1) = some (Value.slice a21 n22 c23) ∧
 ∃ A24 : Addr, p1 = some A24 ∧
 ∃ a26 : Option Addr, ∃ n27 : Nat, ∃ c28 : Nat, cellH B h7 (Addr.add A24 2) = some (Value.slice a26 n27 c28) ∧
 ∃ A29 : Addr, p1 = some A29 ∧
 ∃ a31 : Option Addr, ∃ n32 : Nat, ∃ c33 : Nat, cellH B h7 (Addr.add A29 3) = some (Value.slice a31 n32 c33) ∧
 ∃ h34 : Heap, StoresAt ⟨k6, 0, none⟩ h7 0 [(Value.int .i64 ((n17 : Nat))), (Value.int .i64 ((n22 : Nat))), (Value.int .i64 ((n27 : Nat))), (Value.int .i64 ((n32 : Nat)))] h34 ∧
 ∃ i35 : Int, ∃ i36 : Int, ∃ i37 : Int, ∃ i38 : Int, CellsAt B h34 ⟨k6, 0, none⟩ 0 [(Value.int .i64 (i35)), (Value.int .i64 (i36)), (Value.int .i64 (i37)), (Value.int .i64 (i38))] ∧ Fin B h34 (Q (i35) (i36) (i37) (i38)))
def S_countermandref16_Count (B : RO) (a1 : Option Addr) (n2 : Nat) (c3 : Nat) (h : Heap) (Q : Int → Int → Int → Int → Heap → Prop) : Prop :=
 ∀ k8 : Nat, h k8 = none → B k8 = none → ∀ h9 : Heap, h9 = Heap.set h k8 (.vec 33 (plains [(Value.int .i64 (0)), (Value.int .i64 (0)), (Value.int .i64 (0)), (Value.int .i64 (0))]) 4) →
 ∀ k10 : Nat, h9 k10 = none → B k10 = none → ∀ h11 : Heap, h11 = Heap.set h9 k10 (.vec 33 (plains [(Value.int .i64 (0)), (Value.int .i64 (0)), (Value.int .i64 (0)), (Value.int .i64 (0))]) 4) →
 ∃ (J17 : Int → Nat → Heap → Prop) (m15 : Nat), Fin B h11 (J17 (0) m15) ∧
 ∀ (i12 : Int) (m14 : Nat) (h13 : Heap), J17 i12 m14 h13 →
 ((i12 : Int) < ((n2 : Nat)) →
 ∃ A19 : Addr, a1 = some A19 ∧ 0 ≤ (i12 : Int) ∧ (i12 : Int) < (n2 : Nat) ∧
 ∃ i21 : Int, ∃ i22 : Int, ∃ i23 : Int, CellsAt B h13 (Addr.add A19 (Int.toNat (i12) * 3)) 0 [(Value.int .i64 (i21)), (Value.int .i64 (i22)), (Value.int .i64 (i23))] ∧
 ∀ k24 : Nat, h13 k24 = none → B k24 = none → ∀ h25 : Heap, h25 = Heap.set h13 k24 (.vec 32 (plains [(Value.int .i64 (0)), (Value.int .i64 (0)), (Value.int .i64 (0))]) 3) →
 ∃ h26 : Heap, StoresAt ⟨k24, 0, none⟩ h25 0 [(Value.int .i64 (i21)), (Value.int .i64 (i22)), (Value.int .i64 (i23))] h26 ∧
 ∃ i27 : Int, cellH B h26 ⟨k24, 0, none⟩ = some (Value.int .i64 (i27)) ∧
 0 ≤ (i27 : Int) ∧ (i27 : Int) < (4 : Nat) ∧
 ∃ i28 : Int, cellH B h26 (Addr.add ⟨k10, 0, none⟩ (Int.toNat (i27) * 1)) = some (Value.int .i64 (i28)) ∧
 0 ≤ (i27 : Int) ∧ (i27 : Int) < (4 : Nat) ∧
 ∃ h29 : Heap, storeH h26 (Addr.add ⟨k10, 0, none⟩ (Int.toNat (i27) * 1)) (Value.int .i64 (IntKind.wrap .i64 ((i28) + (1)))) = some h29 ∧
 Fin B h29 (fun h' => ∃ m', m' < m14 ∧ J17 (IntKind.wrap .i64 ((i12) + (1))) m' h')) ∧ (¬ ((i12 : Int) < ((n2 : Nat))) →
 ∃ i30 : Int, ∃ i31 : Int, ∃ i32 : Int, ∃ i33 : Int, CellsAt B h13 ⟨k10, 0, none⟩ 0 [(Value.int .i64 (i30)), (Value.int .i64 (i31)), (Value.int .i64 (i32)), (Value.int .i64 (i33))] ∧
 ∃ h34 : Heap, StoresAt ⟨k8, 0, none⟩ h13 0 [(Value.int .i64 (i30)), (Value.int .i64 (i31)), (Value.int .i64 (i32)), (Value.int .i64 (i33))] h34 ∧
 ∃ i35 : Int, ∃ i36 : Int, ∃ i37 : Int, ∃ i38 : Int, CellsAt B h34 ⟨k8, 0, none⟩ 0 [(Value.int .i64 (i35)), (Value.int .i64 (i36)), (Value.int .i64 (i37)), (Value.int .i64 (i38))] ∧ Fin B h34 (Q (i35) (i36) (i37) (i38)))
def S_acts_Acts_Output (B : RO) (p1 : Option Addr) (h : Heap) (Q : Option Addr → Nat → Nat → Heap → Prop) : Prop :=
 (p1 = none →
 Fin B h (Q none 0 0)) ∧ (¬ (p1 = none) →
 ∃ A7 : Addr, p1 = some A7 ∧
 ∃ a11 : Option Addr, ∃ n12 : Nat, ∃ c13 : Nat, cellH B h A7 = some (Value.slice a11 n12 c13) ∧
 ∃ A16 : Addr, p1 = some A16 ∧
 ∃ a20 : Option Addr, ∃ n21 : Nat, ∃ c22 : Nat, cellH B h (Addr.add A16 1) = some (Value.slice a20 n21 c22) ∧
 ∀ k24 : Nat, h k24 = none → B k24 = none → ∀ h25 : Heap, h25 = Heap.set h k24 (.vec 25 (plains [(Value.slice a11 n12 c13), (Value.slice a20 n21 c22)]) 2) →
 cellH B h25 A7 = some (Value.slice a11 n12 c13) ∧ cellH B h25 (Addr.add A16 1) = some (Value.slice a20 n21 c22) ∧
 C_slices_Concat_s_acts_Out_acts_Out B (some ⟨k24, 0, none⟩) 2 2 h25 (fun a29 n30 c31 h28 =>
 cellH B h28 A7 = some (Value.slice a11 n12 c13) ∧ cellH B h28 (Addr.add A16 1) = some (Value.slice a20 n21 c22) ∧
 Fin B h28 (Q a29 n30 c31)))
def S_acts_Acts_Undo (B : RO) (p1 : Option Addr) (h : Heap) (Q : Option Addr → Nat → Nat → Heap → Prop) : Prop :=
 (p1 = none →
 Fin B h (Q none 0 0)) ∧ (¬ (p1 = none) →
 ∃ A6 : Addr, p1 = some A6 ∧
 LdSl B h (Addr.add A6 3) fun a8 n9 c10 h11 =>
 C_acts_undo B a8 n9 c10 h11 (fun a13 n14 c15 h12 =>
 Fin B h12 (Q a13 n14 c15)))
def S_acts_Acts_Send_J1 (B : RO) (p1 : Option Addr) (i2 : Int) (i3 : Int) (h6 : Heap) (Q : Bool → Heap → Prop) : Prop :=
 ∃ A7 : Addr, p1 = some A7 ∧
 LdSl B h6 A7 fun a9 n10 c11 h12 =>
 ∀ k13 : Nat, h12 k13 = none → B k13 = none → ∀ h14 : Heap, h14 = Heap.set h12 k13 (.vec 163 (plains [(Value.int .i64 (i2)), (Value.int .u8 (i3))]) 2) →
 semH PG B (Builtin.append_ #[25, 25] 25 #[(Value.slice a9 n10 c11), (Value.slice (some ⟨k13, 0, none⟩) 1 1)]) h14 (fun v h15 => ∃ a16 : Option Addr, ∃ n17 : Nat, ∃ c18 : Nat, v = (Value.slice a16 n17 c18) ∧
 ∃ A19 : Addr, p1 = some A19 ∧
 ∃ h21 : Heap, storeH h15 A19 (Value.slice a16 n17 c18) = some h21 ∧
 Fin B h21 (Q (true)))
def S_acts_Acts_Send (B : RO) (p1 : Option Addr) (i2 : Int) (i3 : Int) (h : Heap) (Q : Bool → Heap → Prop) : Prop :=
 (p1 = none →
 Fin B h (Q (false))) ∧ (¬ (p1 = none) →
 ((i2 : Int) < (0) →
 Fin B h (Q (false))) ∧ (¬ ((i2 : Int) < (0)) →
 ((i2 : Int) ≥ (3) →
 Fin B h (Q (false))) ∧ (¬ ((i2 : Int) ≥ (3)) →
 Fin B h (fun h' => S_acts_Acts_Send_J1 B p1 i2 i3 h' Q))))
def S_acts_Acts_Later_J1 (B : RO) (p1 : Option Addr) (i2 : Int) (i3 : Int) (h6 : Heap) (Q : Bool → Heap → Prop) : Prop :=
 ∃ A7 : Addr, p1 = some A7 ∧
 LdSl B h6 (Addr.add A7 1) fun a9 n10 c11 h12 =>
 ∀ k13 : Nat, h12 k13 = none → B k13 = none → ∀ h14 : Heap, h14 = Heap.set h12 k13 (.vec 163 (plains [(Value.int .i64 (i2)), (Value.int .u8 (i3))]) 2) →
 semH PG B (Builtin.append_ #[25, 25] 25 #[(Value.slice a9 n10 c11), (Value.slice (some ⟨k13, 0, none⟩) 1 1)]) h14 (fun v h15 => ∃ a16 : Option Addr, ∃ n17 : Nat, ∃ c18 : Nat, v = (Value.slice a16 n17 c18) ∧
 ∃ A19 : Addr, p1 = some A19 ∧
 ∃ h21 : Heap, storeH h15 (Addr.add A19 1) (Value.slice a16 n17 c18) = some h21 ∧
 Fin B h21 (Q (true)))
def S_acts_Acts_Later (B : RO) (p1 : Option Addr) (i2 : Int) (i3 : Int) (h : Heap) (Q : Bool → Heap → Prop) : Prop :=
 (p1 = none →
 Fin B h (Q (false))) ∧ (¬ (p1 = none) →
 ((i2 : Int) < (0) →
 Fin B h (Q (false))) ∧ (¬ ((i2 : Int) < (0)) →
 ((i2 : Int) ≥ (3) →
 Fin B h (Q (false))) ∧ (¬ ((i2 : Int) ≥ (3)) →
 Fin B h (fun h' => S_acts_Acts_Later_J1 B p1 i2 i3 h' Q))))
def S_acts_Acts_Note (B : RO) (p1 : Option Addr) (i2 : Int) (h : Heap) (Q : Bool → Heap → Prop) : Prop :=
 (p1 = none →
 Fin B h (Q (false))) ∧ (¬ (p1 = none) →
 ∃ A5 : Addr, p1 = some A5 ∧
 LdSl B h (Addr.add A5 2) fun a7 n8 c9 h10 =>
 ∀ k11 : Nat, h10 k11 = none → B k11 = none → ∀ h12 : Heap, h12 = Heap.set h10 k11 (.vec 3 (plains [(Value.int .i64 (i2))]) 1) →
 semH PG B (Builtin.append_ #[26, 26] 26 #[(Value.slice a7 n8 c9), (Value.slice (some ⟨k11, 0, none⟩) 1 1)]) h12 (fun v h13 => ∃ a14 : Option Addr, ∃ n15 : Nat, ∃ c16 : Nat, v = (Value.slice a14 n15 c16) ∧
 ∃ A17 : Addr, p1 = some A17 ∧
 ∃ h19 : Heap, storeH h13 (Addr.add A17 2) (Value.slice a14 n15 c16) = some h19 ∧
 Fin B h19 (Q (true))))
def S_acts_Acts_Opened_J1 (B : RO) (p1 : Option Addr) (i2 : Int) (i3 : Int) (h6 : Heap) (Q : Bool → Heap → Prop) : Prop :=
 ∃ A7 : Addr, p1 = some A7 ∧
 LdSl B h6 (Addr.add A7 3) fun a9 n10 c11 h12 =>
 ∀ k13 : Nat, h12 k13 = none → B k13 = none → ∀ h14 : Heap, h14 = Heap.set h12 k13 (.vec 160 (plains [(Value.int .i64 (i2)), (Value.int .i64 (i3))]) 2) →
 semH PG B (Builtin.append_ #[27, 27] 27 #[(Value.slice a9 n10 c11), (Value.slice (some ⟨k13, 0, none⟩) 1 1)]) h14 (fun v h15 => ∃ a16 : Option Addr, ∃ n17 : Nat, ∃ c18 : Nat, v = (Value.slice a16 n17 c18) ∧
 ∃ A19 : Addr, p1 = some A19 ∧
 ∃ h21 : Heap, storeH h15 (Addr.add A19 3) (Value.slice a16 n17 c18) = some h21 ∧
 Fin B h21 (Q (true)))
def S_acts_Acts_Opened (B : RO) (p1 : Option Addr) (i2 : Int) (i3 : Int) (h : Heap) (Q : Bool → Heap → Prop) : Prop :=
 (p1 = none →
 Fin B h (Q (false))) ∧ (¬ (p1 = none) →
 ((i2 : Int) < (0) →
 Fin B h (Q (false))) ∧ (¬ ((i2 : Int) < (0)) →
 ((i2 : Int) ≥ (4) →
 Fin B h (Q (false))) ∧ (¬ ((i2 : Int) ≥ (4)) →
 Fin B h (fun h' => S_acts_Acts_Opened_J1 B p1 i2 i3 h' Q))))
def S_acts_first_acts_Out (B : RO) (a1 : Option Addr) (n2 : Nat) (c3 : Nat) (i4 : Int) (h : Heap) (Q : Option Addr → Nat → Nat → Heap → Prop) : Prop :=
 0 ≤ (if ((n2 : Nat) : Int) < (if (0 : Int) > (i4) then (0 : Int) else (i4)) then ((n2 : Nat) : Int) else (if (0 : Int) > (i4) then (0 : Int) else (i4)) : Int) ∧ (if ((n2 : Nat) : Int) < (if (0 : Int) > (i4) then (0 : Int) else (i4)) then ((n2 : Nat) : Int) else (if (0 : Int) > (i4) then (0 : Int) else (i4)) : Int) ≤ (if ((n2 : Nat) : Int) < (if (0 : Int) > (i4) then (0 : Int) else (i4)) then ((n2 : Nat) : Int) else (if (0 : Int) > (i4) then (0 : Int) else (i4)) : Int) ∧ (if ((n2 : Nat) : Int) < (if (0 : Int) > (i4) then (0 : Int) else (i4)) then ((n2 : Nat) : Int) else (if (0 : Int) > (i4) then (0 : Int) else (i4)) : Int) ≤ (c3 : Nat) ∧
 Fin B h (Q (if Int.toNat (if ((n2 : Nat) : Int) < (if (0 : Int) > (i4) then (0 : Int) else (i4)) then ((n2 : Nat) : Int) else (if (0 : Int) > (i4) then (0 : Int) else (i4))) = 0 then a1 else Option.map (·.add (0 * 2)) a1) (Int.toNat (if ((n2 : Nat) : Int) < (if (0 : Int) > (i4) then (0 : Int) else (i4)) then ((n2 : Nat) : Int) else (if (0 : Int) > (i4) then (0 : Int) else (i4)))) (Int.toNat (if ((n2 : Nat) : Int) < (if (0 : Int) > (i4) then (0 : Int) else (i4)) then ((n2 : Nat) : Int) else (if (0 : Int) > (i4) then (0 : Int) else (i4)))))
def S_acts_first_int (B : RO) (a1 : Option Addr) (n2 : Nat) (c3 : Nat) (i4 : Int) (h : Heap) (Q : Option Addr → Nat → Nat → Heap → Prop) : Prop :=
 0 ≤ (if ((n2 : Nat) : Int) < (if (0 : Int) > (i4) then (0 : Int) else (i4)) then ((n2 : Nat) : Int) else (if (0 : Int) > (i4) then (0 : Int) else (i4)) : Int) ∧ (if ((n2 : Nat) : Int) < (if (0 : Int) > (i4) then (0 : Int) else (i4)) then ((n2 : Nat) : Int) else (if (0 : Int) > (i4) then (0 : Int) else (i4)) : Int) ≤ (if ((n2 : Nat) : Int) < (if (0 : Int) > (i4) then (0 : Int) else (i4)) then ((n2 : Nat) : Int) else (if (0 : Int) > (i4) then (0 : Int) else (i4)) : Int) ∧ (if ((n2 : Nat) : Int) < (if (0 : Int) > (i4) then (0 : Int) else (i4)) then ((n2 : Nat) : Int) else (if (0 : Int) > (i4) then (0 : Int) else (i4)) : Int) ≤ (c3 : Nat) ∧
 Fin B h (Q (if Int.toNat (if ((n2 : Nat) : Int) < (if (0 : Int) > (i4) then (0 : Int) else (i4)) then ((n2 : Nat) : Int) else (if (0 : Int) > (i4) then (0 : Int) else (i4))) = 0 then a1 else Option.map (·.add (0 * 1)) a1) (Int.toNat (if ((n2 : Nat) : Int) < (if (0 : Int) > (i4) then (0 : Int) else (i4)) then ((n2 : Nat) : Int) else (if (0 : Int) > (i4) then (0 : Int) else (i4)))) (Int.toNat (if ((n2 : Nat) : Int) < (if (0 : Int) > (i4) then (0 : Int) else (i4)) then ((n2 : Nat) : Int) else (if (0 : Int) > (i4) then (0 : Int) else (i4)))))
def S_acts_first_acts_Open (B : RO) (a1 : Option Addr) (n2 : Nat) (c3 : Nat) (i4 : Int) (h : Heap) (Q : Option Addr → Nat → Nat → Heap → Prop) : Prop :=
 0 ≤ (if ((n2 : Nat) : Int) < (if (0 : Int) > (i4) then (0 : Int) else (i4)) then ((n2 : Nat) : Int) else (if (0 : Int) > (i4) then (0 : Int) else (i4)) : Int) ∧ (if ((n2 : Nat) : Int) < (if (0 : Int) > (i4) then (0 : Int) else (i4)) then ((n2 : Nat) : Int) else (if (0 : Int) > (i4) then (0 : Int) else (i4)) : Int) ≤ (if ((n2 : Nat) : Int) < (if (0 : Int) > (i4) then (0 : Int) else (i4)) then ((n2 : Nat) : Int) else (if (0 : Int) > (i4) then (0 : Int) else (i4)) : Int) ∧ (if ((n2 : Nat) : Int) < (if (0 : Int) > (i4) then (0 : Int) else (i4)) then ((n2 : Nat) : Int) else (if (0 : Int) > (i4) then (0 : Int) else (i4)) : Int) ≤ (c3 : Nat) ∧
 Fin B h (Q (if Int.toNat (if ((n2 : Nat) : Int) < (if (0 : Int) > (i4) then (0 : Int) else (i4)) then ((n2 : Nat) : Int) else (if (0 : Int) > (i4) then (0 : Int) else (i4))) = 0 then a1 else Option.map (·.add (0 * 2)) a1) (Int.toNat (if ((n2 : Nat) : Int) < (if (0 : Int) > (i4) then (0 : Int) else (i4)) then ((n2 : Nat) : Int) else (if (0 : Int) > (i4) then (0 : Int) else (i4)))) (Int.toNat (if ((n2 : Nat) : Int) < (if (0 : Int) > (i4) then (0 : Int) else (i4)) then ((n2 : Nat) : Int) else (if (0 : Int) > (i4) then (0 : Int) else (i4)))))
def S_acts_undo (B : RO) (a1 : Option Addr) (n2 : Nat) (c3 : Nat) (h : Heap) (Q : Option Addr → Nat → Nat → Heap → Prop) : Prop :=
 ∀ k7 : Nat, h k7 = none → B k7 = none → ∀ h8 : Heap, h8 = Heap.set h k7 (.vec 27 (plains [(Value.slice none 0 0)]) 1) →
 C_slices_Backward_s_acts_Open_acts_Open B a1 n2 c3 h8 (fun v10 h9 =>
 ∃ (xs18 : List (Int × Int × Int)) (G14 : Heap → Prop) (J17 : Nat → Heap → Prop), Iter PG B v10 (xs18.map (fun x : Int × Int × Int => [(Value.int .i64 (x.1)), (Value.agg #[(Value.int .i64 (x.2.1)), (Value.int .i64 (x.2.2))])])) G14 ∧ Ins G14 ∧ (∀ i h, J17 i h → G14 h) ∧ Fin B h9 (J17 0) ∧
 (∀ (q16 : Nat) (h15 : Heap) (i11 : Int) (i12 : Int) (i13 : Int), xs18[q16]? = some (i11, i12, i13) → J17 q16 h15 →
 ∀ k19 : Nat, h15 k19 = none → B k19 = none → ∀ h20 : Heap, h20 = Heap.set h15 k19 (.vec 160 (plains [(Value.int .i64 (0)), (Value.int .i64 (0))]) 2) →
 ∃ h21 : Heap, StoresAt ⟨k19, 0, none⟩ h20 0 [(Value.int .i64 (i12)), (Value.int .i64 (i13))] h21 ∧
 LdSl B h21 ⟨k7, 0, none⟩ fun a22 n23 c24 h25 =>
 ∃ i26 : Int, cellH B h25 ⟨k19, 0, none⟩ = some (Value.int .i64 (i26)) ∧
 ∃ i27 : Int, cellH B h25 ⟨k19, 1, none⟩ = some (Value.int .i64 (i27)) ∧
 ∀ k28 : Nat, h25 k28 = none → B k28 = none → ∀ h29 : Heap, h29 = Heap.set h25 k28 (.vec 160 (plains [(Value.int .i64 (i26)), (Value.int .i64 (IntKind.wrap .i64 (0 - (i27))))]) 2) →
 semH PG B (Builtin.append_ #[27, 27] 27 #[(Value.slice a22 n23 c24), (Value.slice (some ⟨k28, 0, none⟩) 1 1)]) h29 (fun v h30 => ∃ a31 : Option Addr, ∃ n32 : Nat, ∃ c33 : Nat, v = (Value.slice a31 n32 c33) ∧
 ∃ h34 : Heap, storeH h30 ⟨k7, 0, none⟩ (Value.slice a31 n32 c33) = some h34 ∧
 Fin B h34 (J17 (q16 + 1)))) ∧
 (∀ (h15 : Heap), J17 xs18.length h15 →
 LdSl B h15 ⟨k7, 0, none⟩ fun a35 n36 c37 h38 =>
 Fin B h38 (Q a35 n36 c37)))
def S_slices_Clone_s_int_int (B : RO) (a1 : Option Addr) (n2 : Nat) (c3 : Nat) (h : Heap) (Q : Option Addr → Nat → Nat → Heap → Prop) : Prop :=
 (a1 = none →
 Fin B h (Q none 0 0)) ∧ (¬ (a1 = none) →
 ∀ k8 : Nat, h k8 = none → B k8 = none → ∀ h9 : Heap, h9 = Heap.set h k8 (.vec 3 [] 0) →
 semH PG B (Builtin.append_ #[26, 26] 26 #[(Value.slice (some ⟨k8, 0, none⟩) 0 0), (Value.slice a1 n2 c3)]) h9 (fun v h10 => ∃ a11 : Option Addr, ∃ n12 : Nat, ∃ c13 : Nat, v = (Value.slice a11 n12 c13) ∧
 Fin B h10 (Q a11 n12 c13)))
def S_slices_Concat_s_acts_Out_acts_Out_J1 (B : RO) (a1 : Option Addr) (n2 : Nat) (c3 : Nat) (i8 : Int) (h9 : Heap) (Q : Option Addr → Nat → Nat → Heap → Prop) : Prop :=
 C_slices_Grow_s_acts_Out_acts_Out B none 0 0 (i8) h9 (fun a11 n12 c13 h10 =>
 ∃ (J22 : Option Addr → Nat → Nat → Int → Nat → Heap → Prop) (m20 : Nat), Fin B h10 (J22 a11 n12 c13 (0) m20) ∧
 ∀ (a14 : Option Addr) (n15 : Nat) (c16 : Nat) (i17 : Int) (m19 : Nat) (h18 : Heap), J22 a14 n15 c16 i17 m19 h18 →
 ((i17 : Int) < ((n2 : Nat)) →
 ∃ A24 : Addr, a1 = some A24 ∧ 0 ≤ (i17 : Int) ∧ (i17 : Int) < (n2 : Nat) ∧
 LdSl B h18 (Addr.add A24 (Int.toNat (i17) * 1)) fun a26 n27 c28 h29 =>
 semH PG B (Builtin.append_ #[25, 25] 25 #[(Value.slice a14 n15 c16), (Value.slice a26 n27 c28)]) h29 (fun v h30 => ∃ a31 : Option Addr, ∃ n32 : Nat, ∃ c33 : Nat, v = (Value.slice a31 n32 c33) ∧
 Fin B h30 (fun h' => ∃ m', m' < m19 ∧ J22 a31 n32 c33 (IntKind.wrap .i64 ((i17) + (1))) m' h'))) ∧ (¬ ((i17 : Int) < ((n2 : Nat))) →
 Fin B h18 (Q a14 n15 c16)))
def S_slices_Concat_s_acts_Out_acts_Out (B : RO) (a1 : Option Addr) (n2 : Nat) (c3 : Nat) (h : Heap) (Q : Option Addr → Nat → Nat → Heap → Prop) : Prop :=
 ∃ (J40 : Int → Int → Nat → Heap → Prop) (m38 : Nat), Fin B h (J40 (0) (0) m38) ∧
 ∀ (i34 : Int) (i35 : Int) (m37 : Nat) (h36 : Heap), J40 i34 i35 m37 h36 →
 ((i35 : Int) < ((n2 : Nat)) →
 ∃ A42 : Addr, a1 = some A42 ∧ 0 ≤ (i35 : Int) ∧ (i35 : Int) < (n2 : Nat) ∧
 LdSl B h36 (Addr.add A42 (Int.toNat (i35) * 1)) fun a44 n45 c46 h47 =>
 ((IntKind.wrap .i64 ((i34) + ((n45 : Nat))) : Int) < (0) →
 False) ∧ (¬ ((IntKind.wrap .i64 ((i34) + ((n45 : Nat))) : Int) < (0)) →
 Fin B h47 (fun h' => ∃ m', m' < m37 ∧ J40 (IntKind.wrap .i64 ((i34) + ((n45 : Nat)))) (IntKind.wrap .i64 ((i35) + (1))) m' h'))) ∧ (¬ ((i35 : Int) < ((n2 : Nat))) →
 Fin B h36 (fun h' => S_slices_Concat_s_acts_Out_acts_Out_J1 B a1 n2 c3 (i34) h' Q))
def S_slices_Backward_s_acts_Open_acts_Open (B : RO) (a1 : Option Addr) (n2 : Nat) (c3 : Nat) (h : Heap) (Q : Value → Heap → Prop) : Prop :=
 ∀ k5 : Nat, h k5 = none → B k5 = none → ∀ h6 : Heap, h6 = Heap.set h k5 (.vec 27 [.plain (Value.slice a1 n2 c3)] 1) →
 Fin B h6 (Q (Value.func (.func 158) #[] #[(Value.pointer (some ⟨k5, 0, none⟩))]))
def S_slices_Grow_s_acts_Out_acts_Out_J1 (B : RO) (a1 : Option Addr) (n2 : Nat) (c3 : Nat) (i4 : Int) (h9 : Heap) (Q : Option Addr → Nat → Nat → Heap → Prop) : Prop :=
 ((IntKind.wrap .i64 ((i4) - (IntKind.wrap .i64 (((c3 : Nat)) - ((n2 : Nat))))) : Int) > (0) →
 0 ≤ (0 : Int) ∧ (0 : Int) ≤ ((c3 : Nat) : Int) ∧ ((c3 : Nat) : Int) ≤ (c3 : Nat) ∧
 semH PG B (Builtin.append_ #[25, 3] 25 #[(Value.slice (if c3 = Int.toNat (0) then a1 else Option.map (·.add (Int.toNat (0) * 2)) a1) (Int.toNat ((c3 : Nat)) - Int.toNat (0)) (c3 - Int.toNat (0))), (Value.int .i64 (IntKind.wrap .i64 ((i4) - (IntKind.wrap .i64 (((c3 : Nat)) - ((n2 : Nat)))))))]) h9 (fun v h11 => ∃ a12 : Option Addr, ∃ n13 : Nat, ∃ c14 : Nat, v = (Value.slice a12 n13 c14) ∧
 0 ≤ (0 : Int) ∧ (0 : Int) ≤ ((n2 : Nat) : Int) ∧ ((n2 : Nat) : Int) ≤ (c14 : Nat) ∧
 Fin B h11 (Q (if c14 = Int.toNat (0) then a12 else Option.map (·.add (Int.toNat (0) * 2)) a12) (Int.toNat ((n2 : Nat)) - Int.toNat (0)) (c14 - Int.toNat (0))))) ∧ (¬ ((IntKind.wrap .i64 ((i4) - (IntKind.wrap .i64 (((c3 : Nat)) - ((n2 : Nat))))) : Int) > (0)) →
 Fin B h9 (Q a1 n2 c3))
def S_slices_Grow_s_acts_Out_acts_Out (B : RO) (a1 : Option Addr) (n2 : Nat) (c3 : Nat) (i4 : Int) (h : Heap) (Q : Option Addr → Nat → Nat → Heap → Prop) : Prop :=
 ((i4 : Int) < (0) →
 False) ∧ (¬ ((i4 : Int) < (0)) →
 Fin B h (fun h' => S_slices_Grow_s_acts_Out_acts_Out_J1 B a1 n2 c3 i4 h' Q))
def S_slices_Backward_s_acts_Open_acts_Open_1 (B : RO) (v1 : Value) (A2 : Addr) (h : Heap) (Q : Heap → Prop) : Prop :=
 LdSl B h A2 fun a3 n4 c5 h6 =>
 ∃ (J12 : Int → Nat → Heap → Prop) (m10 : Nat), Fin B h6 (J12 (IntKind.wrap .i64 (((n4 : Nat)) - (1))) m10) ∧
 ∀ (i7 : Int) (m9 : Nat) (h8 : Heap), J12 i7 m9 h8 →
 ((i7 : Int) ≥ (0) →
 LdSl B h8 A2 fun a14 n15 c16 h17 =>
 ∃ A18 : Addr, a14 = some A18 ∧ 0 ≤ (i7 : Int) ∧ (i7 : Int) < (n15 : Nat) ∧
 ∃ i20 : Int, ∃ i21 : Int, CellsAt B h17 (Addr.add A18 (Int.toNat (i7) * 2)) 0 [(Value.int .i64 (i20)), (Value.int .i64 (i21))] ∧
 CallV PG B v1 [(Value.int .i64 (i7)), (Value.agg #[(Value.int .i64 (i20)), (Value.int .i64 (i21))])] h17 (fun v h22 => ∃ b23 : Bool, v = (Value.bool b23) ∧
 (b23 = true →
 Fin B h22 (fun h' => ∃ m', m' < m9 ∧ J12 (IntKind.wrap .i64 ((i7) - (1))) m' h')) ∧ (b23 = false →
 Fin B h22 (Q)))) ∧ (¬ ((i7 : Int) ≥ (0)) →
 Fin B h8 (Q))
end Go.Proofs.Ythloobpjkeodgaa.H
