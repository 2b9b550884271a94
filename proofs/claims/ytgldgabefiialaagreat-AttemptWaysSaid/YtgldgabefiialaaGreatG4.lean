/- What the law's proof stands on, part 4. No condition. -/
import Derived.Test.YtgldgabefiialaaGreatG3
namespace Go.Proofs.YtgldgabefiialaaGreat.H
open Go
set_option linter.unusedVariables false
set_option maxRecDepth 100000
set_option maxHeartbeats 4000000
def S_countermandlaw20_AttemptWays_J3 (B : RO) (p15 : Option Addr) (p19 : Option Addr) (k25 : Nat) (k27 : Nat) (a32 : Option Addr) (n33 : Nat) (c34 : Nat) (h35 : Heap) (Q : Bool → Heap → Prop) : Prop :=
 ∃ l36 : List Value, List.length l36 = 23 ∧ CellsAt B h35 ⟨k25, 0, none⟩ 0 l36 ∧
 ∃ s37 : ByteArray, ∃ s38 : ByteArray, ∃ s39 : ByteArray, CellsAt B h35 ⟨k27, 0, none⟩ 0 [(.string s37), (.string s38), (.string s39)] ∧
 C_countermandref20_Do B l36 s37 s38 s39 a32 n33 c34 h35 (fun i41 l42 h40 =>
 ∀ k43 : Nat, h40 k43 = none → B k43 = none → ∀ h44 : Heap, h44 = Heap.set h40 k43 (.vec 55 (plains [(.int .i64 (0)), (.int .i64 (0)), (.int .i64 (0)), (.int .i64 (0)), (.int .i64 (0)), (.int .i64 (0)), (.int .i64 (0)), (.int .i64 (0)), (.bool false), (.string ByteArray.empty), (.bool false), (.string ByteArray.empty), (.bool false), (.string ByteArray.empty), (.bool false), (.string ByteArray.empty), (.bool false), (.string ByteArray.empty), (.bool false), (.string ByteArray.empty), (.int .i64 (0)), (.int .i64 (0)), (.int .i64 (0))]) 23) →
 List.length l42 = 23 ∧ ∃ h45 : Heap, StoresAt ⟨k43, 0, none⟩ h44 0 l42 h45 ∧
 C_attempt_Attempt_Land B p19 h45 (fun b47 h46 =>
 (b47 = true →
 C_countermandlaw20_things B p15 h46 (fun l49 s50 s51 s52 h48 =>
 ∀ k53 : Nat, h48 k53 = none → B k53 = none → ∀ h54 : Heap, h54 = Heap.set h48 k53 (.vec 55 (plains [(.int .i64 (0)), (.int .i64 (0)), (.int .i64 (0)), (.int .i64 (0)), (.int .i64 (0)), (.int .i64 (0)), (.int .i64 (0)), (.int .i64 (0)), (.bool false), (.string ByteArray.empty), (.bool false), (.string ByteArray.empty), (.bool false), (.string ByteArray.empty), (.bool false), (.string ByteArray.empty), (.bool false), (.string ByteArray.empty), (.bool false), (.string ByteArray.empty), (.int .i64 (0)), (.int .i64 (0)), (.int .i64 (0))]) 23) →
 ∀ k55 : Nat, h54 k55 = none → B k55 = none → ∀ h56 : Heap, h56 = Heap.set h54 k55 (.vec 56 (plains [(.string ByteArray.empty), (.string ByteArray.empty), (.string ByteArray.empty)]) 3) →
 List.length l49 = 23 ∧ ∃ h57 : Heap, StoresAt ⟨k53, 0, none⟩ h56 0 l49 h57 ∧
 ∃ h58 : Heap, StoresAt ⟨k55, 0, none⟩ h57 0 [(.string s50), (.string s51), (.string s52)] h58 ∧
 ∃ l59 : List Value, List.length l59 = 23 ∧ CellsAt B h58 ⟨k53, 0, none⟩ 0 l59 ∧
 ∃ l60 : List Value, List.length l60 = 23 ∧ CellsAt B h58 ⟨k43, 0, none⟩ 0 l60 ∧
 fitL [Kd.int .i64, Kd.int .i64, Kd.int .i64, Kd.int .i64, Kd.int .i64, Kd.int .i64, Kd.int .i64, Kd.int .i64, Kd.bool, Kd.str, Kd.bool, Kd.str, Kd.bool, Kd.str, Kd.bool, Kd.str, Kd.bool, Kd.str, Kd.bool, Kd.str, Kd.int .i64, Kd.int .i64, Kd.int .i64] l59 ∧ fitL [Kd.int .i64, Kd.int .i64, Kd.int .i64, Kd.int .i64, Kd.int .i64, Kd.int .i64, Kd.int .i64, Kd.int .i64, Kd.bool, Kd.str, Kd.bool, Kd.str, Kd.bool, Kd.str, Kd.bool, Kd.str, Kd.bool, Kd.str, Kd.bool, Kd.str, Kd.int .i64, Kd.int .i64, Kd.int .i64] l60 ∧
 Fin B h58 (Q ((decide (eqL l59 l60 = true)))))) ∧ (b47 = false →
 Fin B h46 (Q (false)))))
def S_countermandlaw20_AttemptWays_J4 (B : RO) (a1 : Option Addr) (n2 : Nat) (c3 : Nat) (p15 : Option Addr) (p19 : Option Addr) (k25 : Nat) (k27 : Nat) (a61 : Option Addr) (n62 : Nat) (c63 : Nat) (a64 : Option Addr) (n65 : Nat) (c66 : Nat) (a67 : Option Addr) (n68 : Nat) (c69 : Nat) (i70 : Int) (m72 : Nat) (J75 : Option Addr → Nat → Nat → Option Addr → Nat → Nat → Option Addr → Nat → Nat → Int → Nat → Heap → Prop) (k84 : Nat) (i97 : Int) (i98 : Int) (i99 : Int) (i100 : Int) (a133 : Option Addr) (n134 : Nat) (c135 : Nat) (a136 : Option Addr) (n137 : Nat) (c138 : Nat) (h139 : Heap) (Q : Bool → Heap → Prop) : Prop :=
 semH PG B (Builtin.append_ #[31, 31] 31 #[(.slice a133 n134 c135), (.slice a136 n137 c138)]) h139 (fun v h141 => ∃ a142 : Option Addr, ∃ n143 : Nat, ∃ c144 : Nat, v = (.slice a142 n143 c144) ∧
 CellsAt B h141 ⟨k84, 1, none⟩ 0 [(.int .i64 (i97)), (.int .i64 (i98)), (.int .i64 (i99)), (.int .u8 (i100))] ∧
 Fin B h141 (fun h' => ∃ m', m' < m72 ∧ J75 a142 n143 c144 a64 n65 c66 a67 n68 c69 (IntKind.wrap .i64 ((i70) + (1))) m' h'))
def S_countermandlaw20_AttemptWays_J5 (B : RO) (a1 : Option Addr) (n2 : Nat) (c3 : Nat) (p15 : Option Addr) (p19 : Option Addr) (k25 : Nat) (k27 : Nat) (a61 : Option Addr) (n62 : Nat) (c63 : Nat) (a64 : Option Addr) (n65 : Nat) (c66 : Nat) (a67 : Option Addr) (n68 : Nat) (c69 : Nat) (i70 : Int) (m72 : Nat) (J75 : Option Addr → Nat → Nat → Option Addr → Nat → Nat → Option Addr → Nat → Nat → Int → Nat → Heap → Prop) (i192 : Int) (h198 : Heap) (Q : Bool → Heap → Prop) : Prop :=
 ((IntKind.wrap .i64 (((n65 : Nat)) - (1)) : Int) ≥ (0) →
 ∃ A199 : Addr, a67 = some A199 ∧ 0 ≤ (IntKind.wrap .i64 (((n65 : Nat)) - (1)) : Int) ∧ (IntKind.wrap .i64 (((n65 : Nat)) - (1)) : Int) < (n68 : Nat) ∧
 ∃ i201 : Int, cellH B h198 (Addr.add A199 (Int.toNat (IntKind.wrap .i64 (((n65 : Nat)) - (1))) * 1)) = some (.int .i64 (i201)) ∧
 ((i192 : Int) = i201 →
 ∃ A202 : Addr, a64 = some A202 ∧ 0 ≤ (IntKind.wrap .i64 (((n65 : Nat)) - (1)) : Int) ∧ (IntKind.wrap .i64 (((n65 : Nat)) - (1)) : Int) < (n65 : Nat) ∧
 ∃ i204 : Int, cellH B h198 (Addr.add A202 (Int.toNat (IntKind.wrap .i64 (((n65 : Nat)) - (1))) * 1)) = some (.int .i64 (i204)) ∧
 0 ≤ (0 : Int) ∧ (0 : Int) ≤ (i204 : Int) ∧ (i204 : Int) ≤ (c63 : Nat) ∧
 0 ≤ (0 : Int) ∧ (0 : Int) ≤ (IntKind.wrap .i64 (((n65 : Nat)) - (1)) : Int) ∧ (IntKind.wrap .i64 (((n65 : Nat)) - (1)) : Int) ≤ (c66 : Nat) ∧
 0 ≤ (0 : Int) ∧ (0 : Int) ≤ (IntKind.wrap .i64 (((n65 : Nat)) - (1)) : Int) ∧ (IntKind.wrap .i64 (((n65 : Nat)) - (1)) : Int) ≤ (c69 : Nat) ∧
 Fin B h198 (fun h' => ∃ m', m' < m72 ∧ J75 (if c63 = Int.toNat (0) then a61 else Option.map (·.add (Int.toNat (0) * 4)) a61) (Int.toNat (i204) - Int.toNat (0)) (c63 - Int.toNat (0)) (if c66 = Int.toNat (0) then a64 else Option.map (·.add (Int.toNat (0) * 1)) a64) (Int.toNat (IntKind.wrap .i64 (((n65 : Nat)) - (1))) - Int.toNat (0)) (c66 - Int.toNat (0)) (if c69 = Int.toNat (0) then a67 else Option.map (·.add (Int.toNat (0) * 1)) a67) (Int.toNat (IntKind.wrap .i64 (((n65 : Nat)) - (1))) - Int.toNat (0)) (c69 - Int.toNat (0)) (IntKind.wrap .i64 ((i70) + (1))) m' h')) ∧ (¬ ((i192 : Int) = i201) →
 Fin B h198 (Q (false)))) ∧ (¬ ((IntKind.wrap .i64 (((n65 : Nat)) - (1)) : Int) ≥ (0)) →
 Fin B h198 (fun h' => ∃ m', m' < m72 ∧ J75 a61 n62 c63 a64 n65 c66 a67 n68 c69 (IntKind.wrap .i64 ((i70) + (1))) m' h'))
def S_countermandlaw20_AttemptWays_J2 (B : RO) (a1 : Option Addr) (n2 : Nat) (c3 : Nat) (p15 : Option Addr) (h17 : Heap) (Q : Bool → Heap → Prop) : Prop :=
 C_attempt_New B p15 (0) (0) (0) (0) h17 (fun p19 h18 =>
 C_countermandlaw20_things B p15 h18 (fun l21 s22 s23 s24 h20 =>
 ∀ k25 : Nat, h20 k25 = none → B k25 = none → ∀ h26 : Heap, h26 = Heap.set h20 k25 (.vec 55 (plains [(.int .i64 (0)), (.int .i64 (0)), (.int .i64 (0)), (.int .i64 (0)), (.int .i64 (0)), (.int .i64 (0)), (.int .i64 (0)), (.int .i64 (0)), (.bool false), (.string ByteArray.empty), (.bool false), (.string ByteArray.empty), (.bool false), (.string ByteArray.empty), (.bool false), (.string ByteArray.empty), (.bool false), (.string ByteArray.empty), (.bool false), (.string ByteArray.empty), (.int .i64 (0)), (.int .i64 (0)), (.int .i64 (0))]) 23) →
 ∀ k27 : Nat, h26 k27 = none → B k27 = none → ∀ h28 : Heap, h28 = Heap.set h26 k27 (.vec 56 (plains [(.string ByteArray.empty), (.string ByteArray.empty), (.string ByteArray.empty)]) 3) →
 List.length l21 = 23 ∧ ∃ h29 : Heap, StoresAt ⟨k25, 0, none⟩ h28 0 l21 h29 ∧
 ∃ h30 : Heap, StoresAt ⟨k27, 0, none⟩ h29 0 [(.string s22), (.string s23), (.string s24)] h30 ∧
 ∃ (J75 : Option Addr → Nat → Nat → Option Addr → Nat → Nat → Option Addr → Nat → Nat → Int → Nat → Heap → Prop) (m73 : Nat), Fin B h30 (J75 none 0 0 none 0 0 none 0 0 (0) m73) ∧
 ∀ (a61 : Option Addr) (n62 : Nat) (c63 : Nat) (a64 : Option Addr) (n65 : Nat) (c66 : Nat) (a67 : Option Addr) (n68 : Nat) (c69 : Nat) (i70 : Int) (m72 : Nat) (h71 : Heap), J75 a61 n62 c63 a64 n65 c66 a67 n68 c69 i70 m72 h71 →
 ((i70 : Int) < ((n2 : Nat)) →
 ∃ A76 : Addr, a1 = some A76 ∧ 0 ≤ (i70 : Int) ∧ (i70 : Int) < (n2 : Nat) ∧
 ∃ i78 : Int, ∃ i79 : Int, ∃ i80 : Int, ∃ i81 : Int, ∃ i82 : Int, ∃ i83 : Int, CellsAt B h71 (Addr.add A76 (Int.toNat (i70) * 6)) 0 [(.int .i64 (i78)), (.int .i64 (i79)), (.int .i64 (i80)), (.int .i64 (i81)), (.int .u8 (i82)), (.int .i64 (i83))] ∧
 ∀ k84 : Nat, h71 k84 = none → B k84 = none → ∀ h85 : Heap, h85 = Heap.set h71 k84 (.vec 78 (plains [(.int .i64 (0)), (.int .i64 (0)), (.int .i64 (0)), (.int .i64 (0)), (.int .u8 (0)), (.int .i64 (0))]) 6) →
 ∃ h86 : Heap, StoresAt ⟨k84, 0, none⟩ h85 0 [(.int .i64 (i78)), (.int .i64 (i79)), (.int .i64 (i80)), (.int .i64 (i81)), (.int .u8 (i82)), (.int .i64 (i83))] h86 ∧
 ∃ i87 : Int, cellH B h86 ⟨k84, 0, none⟩ = some (.int .i64 (i87)) ∧
 ((i87 : Int) = 0 →
 ∃ i88 : Int, ∃ i89 : Int, ∃ i90 : Int, ∃ i91 : Int, CellsAt B h86 ⟨k84, 1, none⟩ 0 [(.int .i64 (i88)), (.int .i64 (i89)), (.int .i64 (i90)), (.int .u8 (i91))] ∧
 C_countermandlaw20_does B p19 (i88) (i89) (i90) (i91) h86 (fun i93 i94 h92 =>
 ((i94 : Int) = 0 →
 ∃ i97 : Int, ∃ i98 : Int, ∃ i99 : Int, ∃ i100 : Int, CellsAt B h92 ⟨k84, 1, none⟩ 0 [(.int .i64 (i97)), (.int .i64 (i98)), (.int .i64 (i99)), (.int .u8 (i100))] ∧
 (∀ k146 : Nat, h92 k146 = none → B k146 = none → ∀ h147 : Heap, h147 = Heap.set h92 k146 (.vec 38 [] 0) →
 CellsAt B h147 ⟨k84, 1, none⟩ 0 [(.int .i64 (i97)), (.int .i64 (i98)), (.int .i64 (i99)), (.int .u8 (i100))] ∧
 (semH PG B (Builtin.append_ #[31, 31] 31 #[(.slice (some ⟨k146, 0, none⟩) 0 0), (.slice a61 n62 c63)]) h147 (fun v h149 => ∃ a150 : Option Addr, ∃ n151 : Nat, ∃ c152 : Nat, v = (.slice a150 n151 c152) ∧
 CellsAt B h149 ⟨k84, 1, none⟩ 0 [(.int .i64 (i97)), (.int .i64 (i98)), (.int .i64 (i99)), (.int .u8 (i100))] ∧
 ∀ k154 : Nat, h149 k154 = none → B k154 = none → ∀ h155 : Heap, h155 = Heap.set h149 k154 (.vec 38 (plains [(.int .i64 (i97)), (.int .i64 (i98)), (.int .i64 (i99)), (.int .u8 (i100))]) 4) →
 CellsAt B h155 ⟨k84, 1, none⟩ 0 [(.int .i64 (i97)), (.int .i64 (i98)), (.int .i64 (i99)), (.int .u8 (i100))] ∧
 S_countermandlaw20_AttemptWays_J4 B a1 n2 c3 p15 p19 k25 k27 a61 n62 c63 a64 n65 c66 a67 n68 c69 i70 m72 J75 k84 i97 i98 i99 i100 a150 n151 c152 (some ⟨k154, 0, none⟩) 1 1 h155 Q)) ∧
 (∀ k157 : Nat, h147 k157 = none → B k157 = none → ∀ h158 : Heap, h158 = Heap.set h147 k157 (.vec 38 (plains [(.int .i64 (i97)), (.int .i64 (i98)), (.int .i64 (i99)), (.int .u8 (i100))]) 4) →
 CellsAt B h158 ⟨k84, 1, none⟩ 0 [(.int .i64 (i97)), (.int .i64 (i98)), (.int .i64 (i99)), (.int .u8 (i100))] ∧
 semH PG B (Builtin.append_ #[31, 31] 31 #[(.slice (some ⟨k146, 0, none⟩) 0 0), (.slice a61 n62 c63)]) h158 (fun v h160 => ∃ a161 : Option Addr, ∃ n162 : Nat, ∃ c163 : Nat, v = (.slice a161 n162 c163) ∧
 CellsAt B h160 ⟨k84, 1, none⟩ 0 [(.int .i64 (i97)), (.int .i64 (i98)), (.int .i64 (i99)), (.int .u8 (i100))] ∧
 S_countermandlaw20_AttemptWays_J4 B a1 n2 c3 p15 p19 k25 k27 a61 n62 c63 a64 n65 c66 a67 n68 c69 i70 m72 J75 k84 i97 i98 i99 i100 a161 n162 c163 (some ⟨k157, 0, none⟩) 1 1 h160 Q))) ∧
 (∀ k165 : Nat, h92 k165 = none → B k165 = none → ∀ h166 : Heap, h166 = Heap.set h92 k165 (.vec 38 (plains [(.int .i64 (i97)), (.int .i64 (i98)), (.int .i64 (i99)), (.int .u8 (i100))]) 4) →
 CellsAt B h166 ⟨k84, 1, none⟩ 0 [(.int .i64 (i97)), (.int .i64 (i98)), (.int .i64 (i99)), (.int .u8 (i100))] ∧
 ∀ k168 : Nat, h166 k168 = none → B k168 = none → ∀ h169 : Heap, h169 = Heap.set h166 k168 (.vec 38 [] 0) →
 CellsAt B h169 ⟨k84, 1, none⟩ 0 [(.int .i64 (i97)), (.int .i64 (i98)), (.int .i64 (i99)), (.int .u8 (i100))] ∧
 semH PG B (Builtin.append_ #[31, 31] 31 #[(.slice (some ⟨k168, 0, none⟩) 0 0), (.slice a61 n62 c63)]) h169 (fun v h171 => ∃ a172 : Option Addr, ∃ n173 : Nat, ∃ c174 : Nat, v = (.slice a172 n173 c174) ∧
 CellsAt B h171 ⟨k84, 1, none⟩ 0 [(.int .i64 (i97)), (.int .i64 (i98)), (.int .i64 (i99)), (.int .u8 (i100))] ∧
 S_countermandlaw20_AttemptWays_J4 B a1 n2 c3 p15 p19 k25 k27 a61 n62 c63 a64 n65 c66 a67 n68 c69 i70 m72 J75 k84 i97 i98 i99 i100 a172 n173 c174 (some ⟨k165, 0, none⟩) 1 1 h171 Q))) ∧ (¬ ((i94 : Int) = 0) →
 Fin B h92 (fun h' => ∃ m', m' < m72 ∧ J75 a61 n62 c63 a64 n65 c66 a67 n68 c69 (IntKind.wrap .i64 ((i70) + (1))) m' h')))) ∧ (¬ ((i87 : Int) = 0) →
 ((i87 : Int) = 1 →
 ∃ i176 : Int, cellH B h86 ⟨k84, 5, none⟩ = some (.int .i64 (i176)) ∧
 C_attempt_Attempt_Else B p19 (i176) h86 (fun h177 =>
 ∀ k178 : Nat, h177 k178 = none → B k178 = none → ∀ h179 : Heap, h179 = Heap.set h177 k178 (.vec 3 (plains [(.int .i64 ((n62 : Nat)))]) 1) →
 semH PG B (Builtin.append_ #[76, 76] 76 #[(.slice a64 n65 c66), (.slice (some ⟨k178, 0, none⟩) 1 1)]) h179 (fun v h180 => ∃ a181 : Option Addr, ∃ n182 : Nat, ∃ c183 : Nat, v = (.slice a181 n182 c183) ∧
 ∃ i184 : Int, cellH B h180 ⟨k84, 5, none⟩ = some (.int .i64 (i184)) ∧
 ∀ k185 : Nat, h180 k185 = none → B k185 = none → ∀ h186 : Heap, h186 = Heap.set h180 k185 (.vec 3 (plains [(.int .i64 (i184))]) 1) →
 semH PG B (Builtin.append_ #[76, 76] 76 #[(.slice a67 n68 c69), (.slice (some ⟨k185, 0, none⟩) 1 1)]) h186 (fun v h187 => ∃ a188 : Option Addr, ∃ n189 : Nat, ∃ c190 : Nat, v = (.slice a188 n189 c190) ∧
 Fin B h187 (fun h' => ∃ m', m' < m72 ∧ J75 a61 n62 c63 a181 n182 c183 a188 n189 c190 (IntKind.wrap .i64 ((i70) + (1))) m' h'))))) ∧ (¬ ((i87 : Int) = 1) →
 ((i87 : Int) = 2 →
 C_attempt_Attempt_Back B p19 h86 (fun i192 a193 n194 c195 b196 h191 =>
 (b196 = (decide ((IntKind.wrap .i64 (((n65 : Nat)) - (1)) : Int) ≥ (0))) →
 (((n194 : Nat) : Int) = 0 →
 ((IntKind.wrap .i64 (((n65 : Nat)) - (1)) : Int) < (0) →
 ((i192 : Int) = 0 →
 Fin B h191 (fun h' => S_countermandlaw20_AttemptWays_J5 B a1 n2 c3 p15 p19 k25 k27 a61 n62 c63 a64 n65 c66 a67 n68 c69 i70 m72 J75 i192 h' Q)) ∧ (¬ ((i192 : Int) = 0) →
 Fin B h191 (Q (false)))) ∧ (¬ ((IntKind.wrap .i64 (((n65 : Nat)) - (1)) : Int) < (0)) →
 Fin B h191 (fun h' => S_countermandlaw20_AttemptWays_J5 B a1 n2 c3 p15 p19 k25 k27 a61 n62 c63 a64 n65 c66 a67 n68 c69 i70 m72 J75 i192 h' Q))) ∧ (¬ (((n194 : Nat) : Int) = 0) →
 Fin B h191 (Q (false)))) ∧ (¬ (b196 = (decide ((IntKind.wrap .i64 (((n65 : Nat)) - (1)) : Int) ≥ (0)))) →
 Fin B h191 (Q (false))))) ∧ (¬ ((i87 : Int) = 2) →
 Fin B h86 (fun h' => ∃ m', m' < m72 ∧ J75 a61 n62 c63 a64 n65 c66 a67 n68 c69 (IntKind.wrap .i64 ((i70) + (1))) m' h'))))) ∧ (¬ ((i70 : Int) < ((n2 : Nat))) →
 Fin B h71 (fun h' => S_countermandlaw20_AttemptWays_J3 B p15 p19 k25 k27 a61 n62 c63 h' Q))))
def S_countermandlaw20_AttemptWays_J1 (B : RO) (a1 : Option Addr) (n2 : Nat) (c3 : Nat) (k8 : Nat) (h13 : Heap) (Q : Bool → Heap → Prop) : Prop :=
 C_attempt_NewView B h13 (fun p15 h14 =>
 ∃ s206 : ByteArray, ∃ s207 : ByteArray, ∃ s208 : ByteArray, CellsAt B h14 ⟨k8, 0, none⟩ 0 [(.string s206), (.string s207), (.string s208)] ∧
 ∃ (J214 : Int → Nat → Heap → Prop) (m212 : Nat), Fin B h14 (J214 (0) m212) ∧
 ∀ (i209 : Int) (m211 : Nat) (h210 : Heap), J214 i209 m211 h210 →
 ((i209 : Int) < (3) →
 0 ≤ (i209 : Int) ∧ (i209 : Int) < (3 : Nat) ∧ ∃ s215 : ByteArray, (#[(.string s206), (.string s207), (.string s208)] : Array Value)[Int.toNat (i209) * 1]? = some (.string s215) ∧
 ∃ A216 : Addr, p15 = some A216 ∧
 ∃ p218 : Option Addr, cellH B h210 (Addr.add A216 2) = some (.pointer p218) ∧
 C_feed_Feed_Arrive B p218 (i209) s215 h210 (fun i220 h219 =>
 Fin B h219 (fun h' => ∃ m', m' < m211 ∧ J214 (IntKind.wrap .i64 ((i209) + (1))) m' h'))) ∧ (¬ ((i209 : Int) < (3)) →
 Fin B h210 (fun h' => S_countermandlaw20_AttemptWays_J2 B a1 n2 c3 p15 h' Q)))
def S_countermandlaw20_AttemptWays (B : RO) (a1 : Option Addr) (n2 : Nat) (c3 : Nat) (s4 : ByteArray) (s5 : ByteArray) (s6 : ByteArray) (h : Heap) (Q : Bool → Heap → Prop) : Prop :=
 ∀ k8 : Nat, h k8 = none → B k8 = none → ∀ h9 : Heap, h9 = Heap.set h k8 (.vec 56 (plains [(.string s4), (.string s5), (.string s6)]) 3) →
 C_countermandlaw20_alive B h9 (fun b11 h10 =>
 (b11 = true →
 (((n2 : Nat) : Int) > (60) →
 Fin B h10 (Q (true))) ∧ (¬ (((n2 : Nat) : Int) > (60)) →
 0 ≤ (0 : Int) ∧ (0 : Int) < (3 : Nat) ∧
 ∃ s221 : ByteArray, cellH B h10 ⟨k8, 0, none⟩ = some (.string s221) ∧
 (((ByteArray.size s221 : Nat) : Int) > (64) →
 Fin B h10 (Q (true))) ∧ (¬ (((ByteArray.size s221 : Nat) : Int) > (64)) →
 0 ≤ (1 : Int) ∧ (1 : Int) < (3 : Nat) ∧
 ∃ s222 : ByteArray, cellH B h10 ⟨k8, 1, none⟩ = some (.string s222) ∧
 (((ByteArray.size s222 : Nat) : Int) > (64) →
 Fin B h10 (Q (true))) ∧ (¬ (((ByteArray.size s222 : Nat) : Int) > (64)) →
 0 ≤ (2 : Int) ∧ (2 : Int) < (3 : Nat) ∧
 ∃ s223 : ByteArray, cellH B h10 ⟨k8, 2, none⟩ = some (.string s223) ∧
 (((ByteArray.size s223 : Nat) : Int) > (64) →
 Fin B h10 (Q (true))) ∧ (¬ (((ByteArray.size s223 : Nat) : Int) > (64)) →
 Fin B h10 (fun h' => S_countermandlaw20_AttemptWays_J1 B a1 n2 c3 k8 h' Q)))))) ∧ (b11 = false →
 Fin B h10 (Q (false))))
def S_countermandlaw20_alive (B : RO) (h : Heap) (Q : Bool → Heap → Prop) : Prop :=
 C_attempt_NewView B h (fun p3 h2 =>
 C_attempt_New B p3 (0) (0) (0) (0) h2 (fun p5 h4 =>
 C_attempt_New B p3 (0) (0) (0) (0) h4 (fun p7 h6 =>
 C_attempt_Attempt_Store B p5 (0) (5) h6 (fun i9 h8 =>
 ((i9 : Int) = 0 →
 C_attempt_Attempt_Load B p5 (0) h8 (fun i11 i12 h10 =>
 C_attempt_Attempt_Load B p7 (0) h10 (fun i14 i15 h13 =>
 ((i11 : Int) = 5 →
 ((i14 : Int) = 0 →
 C_attempt_Attempt_Land B p5 h13 (fun b17 h16 =>
 (b17 = true →
 ∃ A18 : Addr, p3 = some A18 ∧
 ∃ i20 : Int, cellH B h16 (Addr.add A18 3) = some (.int .i64 (i20)) ∧
 Fin B h16 (Q (((i20 : Int) == (1))))) ∧ (b17 = false →
 Fin B h16 (Q (false))))) ∧ (¬ ((i14 : Int) = 0) →
 Fin B h13 (Q (false)))) ∧ (¬ ((i11 : Int) = 5) →
 Fin B h13 (Q (false)))))) ∧ (¬ ((i9 : Int) = 0) →
 Fin B h8 (Q (false)))))))
def S_attempt_Attempt_Load_J1 (B : RO) (p1 : Option Addr) (i2 : Int) (h6 : Heap) (Q : Int → Int → Heap → Prop) : Prop :=
 ∃ A7 : Addr, p1 = some A7 ∧
 ∃ p9 : Option Addr, cellH B h6 (Addr.add A7 2) = some (.pointer p9) ∧
 C_draft_Draft_int_Get B p9 (i2) h6 (fun i11 b12 h10 =>
 (b12 = true →
 Fin B h10 (Q (i11) (0))) ∧ (b12 = false →
 C_attempt_Attempt_note B p1 (0) (i2) h10 (fun i14 h13 =>
 ((i14 : Int) = 0 →
 ∃ A15 : Addr, p1 = some A15 ∧
 ∃ p17 : Option Addr, cellH B h13 A15 = some (.pointer p17) ∧
 ∃ A18 : Addr, p17 = some A18 ∧
 ∃ p20 : Option Addr, cellH B h13 A18 = some (.pointer p20) ∧
 C_cell_Row_int_Get B p20 (i2) h13 (fun i22 i23 h21 =>
 Fin B h21 (Q (i22) (0)))) ∧ (¬ ((i14 : Int) = 0) →
 Fin B h13 (Q (0) (i14))))))
def S_attempt_Attempt_Load (B : RO) (p1 : Option Addr) (i2 : Int) (h : Heap) (Q : Int → Int → Heap → Prop) : Prop :=
 (p1 = none →
 Fin B h (Q (0) (2))) ∧ (¬ (p1 = none) →
 ((i2 : Int) < (0) →
 Fin B h (Q (0) (1))) ∧ (¬ ((i2 : Int) < (0)) →
 ((i2 : Int) ≥ (8) →
 Fin B h (Q (0) (1))) ∧ (¬ ((i2 : Int) ≥ (8)) →
 Fin B h (fun h' => S_attempt_Attempt_Load_J1 B p1 i2 h' Q))))
def S_attempt_Attempt_Valid (B : RO) (p1 : Option Addr) (h : Heap) (Q : Bool → Heap → Prop) : Prop :=
 (p1 = none →
 Fin B h (Q (false))) ∧ (¬ (p1 = none) →
 ∃ A10 : Addr, p1 = some A10 ∧
 ∃ p14 : Option Addr, cellH B h (Addr.add A10 1) = some (.pointer p14) ∧
 ∃ A17 : Addr, p1 = some A17 ∧
 ∃ p21 : Option Addr, cellH B h A17 = some (.pointer p21) ∧
 C_attempt_View_Now B p21 h (fun l24 h23 =>
 cellH B h23 (Addr.add A10 1) = some (.pointer p14) ∧ cellH B h23 A17 = some (.pointer p21) ∧
 C_reads_Set_Valid B p14 l24 h23 (fun b28 h27 =>
 cellH B h27 (Addr.add A10 1) = some (.pointer p14) ∧ cellH B h27 A17 = some (.pointer p21) ∧
 Fin B h27 (Q (b28)))))
def S_attempt_Attempt_Land_J1 (B : RO) (p1 : Option Addr) (k8 : Nat) (h19 : Heap) (Q : Bool → Heap → Prop) : Prop :=
 ∃ A20 : Addr, p1 = some A20 ∧
 ∃ p22 : Option Addr, cellH B h19 (Addr.add (Addr.add A20 2) 1) = some (.pointer p22) ∧
 ∃ p23 : Option Addr, cellH B h19 ⟨k8, 0, none⟩ = some (.pointer p23) ∧
 ∃ A24 : Addr, p23 = some A24 ∧
 ∃ p26 : Option Addr, cellH B h19 (Addr.add A24 1) = some (.pointer p26) ∧
 ∃ p27 : Option Addr, cellH B h19 ⟨k8, 0, none⟩ = some (.pointer p27) ∧
 ∃ A28 : Addr, p27 = some A28 ∧
 ∃ i30 : Int, cellH B h19 (Addr.add A28 3) = some (.int .i64 (i30)) ∧
 C_sheet_Sheet_Over B p22 p26 (i30) h19 (fun i32 h31 =>
 ∃ (J38 : Int → Nat → Heap → Prop) (m36 : Nat), Fin B h31 (J38 (0) m36) ∧
 ∀ (i33 : Int) (m35 : Nat) (h34 : Heap), J38 i33 m35 h34 →
 ((i33 : Int) < (3) →
 ∃ A39 : Addr, p1 = some A39 ∧
 ∃ p41 : Option Addr, cellH B h34 (Addr.add (Addr.add A39 2) 2) = some (.pointer p41) ∧
 C_cursor_Cursor_Read B p41 (i33) h34 (fun i43 h42 =>
 ((i43 : Int) > (0) →
 ∃ p44 : Option Addr, cellH B h42 ⟨k8, 0, none⟩ = some (.pointer p44) ∧
 ∃ A45 : Addr, p44 = some A45 ∧
 ∃ p47 : Option Addr, cellH B h42 (Addr.add A45 2) = some (.pointer p47) ∧
 C_feed_Feed_Place B p47 (i33) h42 (fun i49 i50 h48 =>
 ∃ p51 : Option Addr, cellH B h48 ⟨k8, 0, none⟩ = some (.pointer p51) ∧
 ∃ A52 : Addr, p51 = some A52 ∧
 ∃ p54 : Option Addr, cellH B h48 (Addr.add A52 2) = some (.pointer p54) ∧
 ∃ p55 : Option Addr, cellH B h48 ⟨k8, 0, none⟩ = some (.pointer p55) ∧
 ∃ A56 : Addr, p55 = some A56 ∧
 ∃ i58 : Int, cellH B h48 (Addr.add A56 3) = some (.int .i64 (i58)) ∧
 C_feed_Feed_Take B p54 (i33) (IntKind.wrap .i64 ((i49) + (i43))) (i58) h48 (fun b60 h59 =>
 Fin B h59 (fun h' => ∃ m', m' < m35 ∧ J38 (IntKind.wrap .i64 ((i33) + (1))) m' h')))) ∧ (¬ ((i43 : Int) > (0)) →
 Fin B h42 (fun h' => ∃ m', m' < m35 ∧ J38 (IntKind.wrap .i64 ((i33) + (1))) m' h')))) ∧ (¬ ((i33 : Int) < (3)) →
 Fin B h34 (Q (true))))
def S_attempt_Attempt_Land (B : RO) (p1 : Option Addr) (h : Heap) (Q : Bool → Heap → Prop) : Prop :=
 C_attempt_Attempt_Valid B p1 h (fun b4 h3 =>
 (b4 = true →
 ∃ A5 : Addr, p1 = some A5 ∧
 ∃ p7 : Option Addr, cellH B h3 A5 = some (.pointer p7) ∧
 ∀ k8 : Nat, h3 k8 = none → B k8 = none → ∀ h9 : Heap, h9 = Heap.set h3 k8 (.vec 29 (plains [(.pointer none)]) 1) →
 ∃ h10 : Heap, storeH h9 ⟨k8, 0, none⟩ (.pointer p7) = some h10 ∧
 ∃ p11 : Option Addr, cellH B h10 ⟨k8, 0, none⟩ = some (.pointer p11) ∧
 ∃ A12 : Addr, p11 = some A12 ∧
 ∃ i14 : Int, cellH B h10 (Addr.add A12 3) = some (.int .i64 (i14)) ∧
 ∃ A15 : Addr, p11 = some A15 ∧
 ∃ h17 : Heap, storeH h10 (Addr.add A15 3) (.int .i64 (IntKind.wrap .i64 ((i14) + (1)))) = some h17 ∧
 ∃ A61 : Addr, p1 = some A61 ∧
 ∃ p63 : Option Addr, cellH B h17 (Addr.add A61 2) = some (.pointer p63) ∧
 C_draft_Draft_int_All B p63 h17 (fun v65 h64 =>
 ∃ (xs72 : List (Int × Int)) (G68 : Heap → Prop) (J71 : Nat → Heap → Prop), Iter PG B v65 (xs72.map (fun x : Int × Int => [(.int .i64 (x.1)), (.int .i64 (x.2))])) G68 ∧ Ins G68 ∧ (∀ i h, J71 i h → G68 h) ∧ Fin B h64 (J71 0) ∧
 (∀ (q70 : Nat) (h69 : Heap) (i66 : Int) (i67 : Int), xs72[q70]? = some (i66, i67) → J71 q70 h69 →
 ∃ p73 : Option Addr, cellH B h69 ⟨k8, 0, none⟩ = some (.pointer p73) ∧
 ∃ A74 : Addr, p73 = some A74 ∧
 ∃ p76 : Option Addr, cellH B h69 A74 = some (.pointer p76) ∧
 ∃ p77 : Option Addr, cellH B h69 ⟨k8, 0, none⟩ = some (.pointer p77) ∧
 ∃ A78 : Addr, p77 = some A78 ∧
 ∃ i80 : Int, cellH B h69 (Addr.add A78 3) = some (.int .i64 (i80)) ∧
 C_cell_Row_int_Set B p76 (i66) (i67) (i80) h69 (fun b82 h81 =>
 Fin B h81 (J71 (q70 + 1)))) ∧
 (∀ (h69 : Heap), J71 xs72.length h69 →
 Fin B h69 (fun h' => S_attempt_Attempt_Land_J1 B p1 k8 h' Q)))) ∧ (b4 = false →
 Fin B h3 (Q (false))))
def S_countermandlaw20_things_J2 (B : RO) (p1 : Option Addr) (k6 : Nat) (k8 : Nat) (k10 : Nat) (k12 : Nat) (h17 : Heap) (Q : List Value → ByteArray → ByteArray → ByteArray → Heap → Prop) : Prop :=
 ∃ (J23 : Int → Nat → Heap → Prop) (m21 : Nat), Fin B h17 (J23 (0) m21) ∧
 ∀ (i18 : Int) (m20 : Nat) (h19 : Heap), J23 i18 m20 h19 →
 ((i18 : Int) < (3) →
 ∃ A24 : Addr, p1 = some A24 ∧
 ∃ p26 : Option Addr, cellH B h19 (Addr.add A24 2) = some (.pointer p26) ∧
 C_feed_Feed_Place B p26 (i18) h19 (fun i28 i29 h27 =>
 0 ≤ (i18 : Int) ∧ (i18 : Int) < (3 : Nat) ∧
 ∃ h30 : Heap, storeH h27 (Addr.add ⟨k10, 20, none⟩ (Int.toNat (i18) * 1)) (.int .i64 (i28)) = some h30 ∧
 ∃ A31 : Addr, p1 = some A31 ∧
 ∃ p33 : Option Addr, cellH B h30 (Addr.add A31 2) = some (.pointer p33) ∧
 C_feed_Feed_Text B p33 (i18) h30 (fun s35 h34 =>
 0 ≤ (i18 : Int) ∧ (i18 : Int) < (3 : Nat) ∧
 ∃ h36 : Heap, storeH h34 (Addr.add ⟨k12, 0, none⟩ (Int.toNat (i18) * 1)) (.string s35) = some h36 ∧
 Fin B h36 (fun h' => ∃ m', m' < m20 ∧ J23 (IntKind.wrap .i64 ((i18) + (1))) m' h')))) ∧ (¬ ((i18 : Int) < (3)) →
 ∃ l37 : List Value, List.length l37 = 23 ∧ CellsAt B h19 ⟨k10, 0, none⟩ 0 l37 ∧
 ∃ s39 : ByteArray, ∃ s40 : ByteArray, ∃ s41 : ByteArray, CellsAt B h19 ⟨k12, 0, none⟩ 0 [(.string s39), (.string s40), (.string s41)] ∧
 List.length l37 = 23 ∧ ∃ h43 : Heap, StoresAt ⟨k6, 0, none⟩ h19 0 l37 h43 ∧
 CellsAt B h43 ⟨k10, 0, none⟩ 0 l37 ∧ CellsAt B h43 ⟨k12, 0, none⟩ 0 [(.string s39), (.string s40), (.string s41)] ∧
 ∃ h46 : Heap, StoresAt ⟨k8, 0, none⟩ h43 0 [(.string s39), (.string s40), (.string s41)] h46 ∧
 ∃ l47 : List Value, List.length l47 = 23 ∧ CellsAt B h46 ⟨k6, 0, none⟩ 0 l47 ∧ ∃ s48 : ByteArray, ∃ s49 : ByteArray, ∃ s50 : ByteArray, CellsAt B h46 ⟨k8, 0, none⟩ 0 [(.string s48), (.string s49), (.string s50)] ∧ Fin B h46 (Q l47 s48 s49 s50))
def S_countermandlaw20_things_J1 (B : RO) (p1 : Option Addr) (k6 : Nat) (k8 : Nat) (k10 : Nat) (k12 : Nat) (h15 : Heap) (Q : List Value → ByteArray → ByteArray → ByteArray → Heap → Prop) : Prop :=
 ∃ (J56 : Int → Nat → Heap → Prop) (m54 : Nat), Fin B h15 (J56 (0) m54) ∧
 ∀ (i51 : Int) (m53 : Nat) (h52 : Heap), J56 i51 m53 h52 →
 ((i51 : Int) < (6) →
 ∃ A57 : Addr, p1 = some A57 ∧
 ∃ p59 : Option Addr, cellH B h52 (Addr.add A57 1) = some (.pointer p59) ∧
 C_tome_Tome_Get B p59 (i51) h52 (fun b61 s62 i63 h60 =>
 ∀ k64 : Nat, h60 k64 = none → B k64 = none → ∀ h65 : Heap, h65 = Heap.set h60 k64 (.vec 119 (plains [(.bool false), (.string ByteArray.empty)]) 2) →
 ∃ h66 : Heap, StoresAt ⟨k64, 0, none⟩ h65 0 [(.bool b61), (.string s62)] h66 ∧
 ∃ b67 : Bool, ∃ s68 : ByteArray, CellsAt B h66 ⟨k64, 0, none⟩ 0 [(.bool b67), (.string s68)] ∧
 0 ≤ (i51 : Int) ∧ (i51 : Int) < (6 : Nat) ∧
 ∃ h69 : Heap, StoresAt (Addr.add ⟨k10, 8, none⟩ (Int.toNat (i51) * 2)) h66 0 [(.bool b67), (.string s68)] h69 ∧
 Fin B h69 (fun h' => ∃ m', m' < m53 ∧ J56 (IntKind.wrap .i64 ((i51) + (1))) m' h'))) ∧ (¬ ((i51 : Int) < (6)) →
 Fin B h52 (fun h' => S_countermandlaw20_things_J2 B p1 k6 k8 k10 k12 h' Q))
def S_countermandlaw20_things (B : RO) (p1 : Option Addr) (h : Heap) (Q : List Value → ByteArray → ByteArray → ByteArray → Heap → Prop) : Prop :=
 ∀ k6 : Nat, h k6 = none → B k6 = none → ∀ h7 : Heap, h7 = Heap.set h k6 (.vec 55 (plains [(.int .i64 (0)), (.int .i64 (0)), (.int .i64 (0)), (.int .i64 (0)), (.int .i64 (0)), (.int .i64 (0)), (.int .i64 (0)), (.int .i64 (0)), (.bool false), (.string ByteArray.empty), (.bool false), (.string ByteArray.empty), (.bool false), (.string ByteArray.empty), (.bool false), (.string ByteArray.empty), (.bool false), (.string ByteArray.empty), (.bool false), (.string ByteArray.empty), (.int .i64 (0)), (.int .i64 (0)), (.int .i64 (0))]) 23) →
 ∀ k8 : Nat, h7 k8 = none → B k8 = none → ∀ h9 : Heap, h9 = Heap.set h7 k8 (.vec 56 (plains [(.string ByteArray.empty), (.string ByteArray.empty), (.string ByteArray.empty)]) 3) →
 ∀ k10 : Nat, h9 k10 = none → B k10 = none → ∀ h11 : Heap, h11 = Heap.set h9 k10 (.vec 55 (plains [(.int .i64 (0)), (.int .i64 (0)), (.int .i64 (0)), (.int .i64 (0)), (.int .i64 (0)), (.int .i64 (0)), (.int .i64 (0)), (.int .i64 (0)), (.bool false), (.string ByteArray.empty), (.bool false), (.string ByteArray.empty), (.bool false), (.string ByteArray.empty), (.bool false), (.string ByteArray.empty), (.bool false), (.string ByteArray.empty), (.bool false), (.string ByteArray.empty), (.int .i64 (0)), (.int .i64 (0)), (.int .i64 (0))]) 23) →
 ∀ k12 : Nat, h11 k12 = none → B k12 = none → ∀ h13 : Heap, h13 = Heap.set h11 k12 (.vec 56 (plains [(.string ByteArray.empty), (.string ByteArray.empty), (.string ByteArray.empty)]) 3) →
 ∃ (J75 : Int → Nat → Heap → Prop) (m73 : Nat), Fin B h13 (J75 (0) m73) ∧
 ∀ (i70 : Int) (m72 : Nat) (h71 : Heap), J75 i70 m72 h71 →
 ((i70 : Int) < (8) →
 ∃ A76 : Addr, p1 = some A76 ∧
 ∃ p78 : Option Addr, cellH B h71 A76 = some (.pointer p78) ∧
 C_cell_Row_int_Get B p78 (i70) h71 (fun i80 i81 h79 =>
 0 ≤ (i70 : Int) ∧ (i70 : Int) < (8 : Nat) ∧
 ∃ h82 : Heap, storeH h79 (Addr.add ⟨k10, 0, none⟩ (Int.toNat (i70) * 1)) (.int .i64 (i80)) = some h82 ∧
 Fin B h82 (fun h' => ∃ m', m' < m72 ∧ J75 (IntKind.wrap .i64 ((i70) + (1))) m' h'))) ∧ (¬ ((i70 : Int) < (8)) →
 Fin B h71 (fun h' => S_countermandlaw20_things_J1 B p1 k6 k8 k10 k12 h' Q))
def S_countermandlaw20_does (B : RO) (p1 : Option Addr) (i2 : Int) (i3 : Int) (i4 : Int) (i5 : Int) (h : Heap) (Q : Int → Int → Heap → Prop) : Prop :=
 ∀ k8 : Nat, h k8 = none → B k8 = none → ∀ h9 : Heap, h9 = Heap.set h k8 (.vec 38 (plains [(.int .i64 (i2)), (.int .i64 (i3)), (.int .i64 (i4)), (.int .u8 (i5))]) 4) →
 ∃ i10 : Int, cellH B h9 ⟨k8, 0, none⟩ = some (.int .i64 (i10)) ∧
 ((i10 : Int) = 0 →
 ∃ i11 : Int, cellH B h9 ⟨k8, 1, none⟩ = some (.int .i64 (i11)) ∧
 C_attempt_Attempt_Load B p1 (i11) h9 (fun i13 i14 h12 =>
 Fin B h12 (Q (i13) (i14)))) ∧ (¬ ((i10 : Int) = 0) →
 ((i10 : Int) = 1 →
 ∃ i15 : Int, cellH B h9 ⟨k8, 1, none⟩ = some (.int .i64 (i15)) ∧
 ∃ i16 : Int, cellH B h9 ⟨k8, 2, none⟩ = some (.int .i64 (i16)) ∧
 C_attempt_Attempt_Store B p1 (i15) (i16) h9 (fun i18 h17 =>
 Fin B h17 (Q (0) (i18)))) ∧ (¬ ((i10 : Int) = 1) →
 ((i10 : Int) = 2 →
 ∃ i19 : Int, cellH B h9 ⟨k8, 1, none⟩ = some (.int .i64 (i19)) ∧
 ∃ i20 : Int, cellH B h9 ⟨k8, 2, none⟩ = some (.int .i64 (i20)) ∧
 C_attempt_Attempt_Read B p1 (i19) (i20) h9 (fun i22 i23 h21 =>
 Fin B h21 (Q (i22) (i23)))) ∧ (¬ ((i10 : Int) = 2) →
 ((i10 : Int) = 3 →
 ∃ i24 : Int, cellH B h9 ⟨k8, 1, none⟩ = some (.int .i64 (i24)) ∧
 ∃ i25 : Int, cellH B h9 ⟨k8, 2, none⟩ = some (.int .i64 (i25)) ∧
 ∃ i26 : Int, cellH B h9 ⟨k8, 3, none⟩ = some (.int .u8 (i26)) ∧
 C_attempt_Attempt_Write B p1 (i24) (i25) (i26) h9 (fun i28 h27 =>
 Fin B h27 (Q (0) (i28)))) ∧ (¬ ((i10 : Int) = 3) →
 ((i10 : Int) = 4 →
 ∃ i29 : Int, cellH B h9 ⟨k8, 1, none⟩ = some (.int .i64 (i29)) ∧
 C_attempt_Attempt_Create B p1 (i29) h9 (fun i31 h30 =>
 Fin B h30 (Q (0) (i31)))) ∧ (¬ ((i10 : Int) = 4) →
 ((i10 : Int) = 5 →
 ∃ i32 : Int, cellH B h9 ⟨k8, 1, none⟩ = some (.int .i64 (i32)) ∧
 C_attempt_Attempt_Remove B p1 (i32) h9 (fun i34 h33 =>
 Fin B h33 (Q (0) (i34)))) ∧ (¬ ((i10 : Int) = 5) →
 ((i10 : Int) = 6 →
 ∃ i35 : Int, cellH B h9 ⟨k8, 1, none⟩ = some (.int .i64 (i35)) ∧
 ∃ i36 : Int, cellH B h9 ⟨k8, 2, none⟩ = some (.int .i64 (i36)) ∧
 C_attempt_Attempt_Rename B p1 (i35) (i36) h9 (fun i38 h37 =>
 Fin B h37 (Q (0) (i38)))) ∧ (¬ ((i10 : Int) = 6) →
 ((i10 : Int) = 7 →
 ∃ i39 : Int, cellH B h9 ⟨k8, 1, none⟩ = some (.int .i64 (i39)) ∧
 ∃ i40 : Int, cellH B h9 ⟨k8, 2, none⟩ = some (.int .i64 (i40)) ∧
 C_attempt_Attempt_Cut B p1 (i39) (i40) h9 (fun i42 h41 =>
 Fin B h41 (Q (0) (i42)))) ∧ (¬ ((i10 : Int) = 7) →
 ((i10 : Int) = 8 →
 ∃ i43 : Int, cellH B h9 ⟨k8, 1, none⟩ = some (.int .i64 (i43)) ∧
 C_attempt_Attempt_Recv B p1 (i43) h9 (fun i45 i46 h44 =>
 Fin B h44 (Q (i45) (i46)))) ∧ (¬ ((i10 : Int) = 8) →
 Fin B h9 (Q (0) (1)))))))))))
def S_feed_Feed_Arrive_J1 (B : RO) (p1 : Option Addr) (i2 : Int) (s3 : ByteArray) (h6 : Heap) (Q : Int → Heap → Prop) : Prop :=
 ∃ A7 : Addr, p1 = some A7 ∧
 0 ≤ (i2 : Int) ∧ (i2 : Int) < (3 : Nat) ∧
 ∃ s9 : ByteArray, cellH B h6 (Addr.add A7 (Int.toNat (i2) * 1)) = some (.string s9) ∧
 ByteArray.size s9 + ByteArray.size s3 ≤ 4611686018427387904 ∧
 ∃ A10 : Addr, p1 = some A10 ∧
 0 ≤ (i2 : Int) ∧ (i2 : Int) < (3 : Nat) ∧
 ∃ h12 : Heap, storeH h6 (Addr.add A10 (Int.toNat (i2) * 1)) (.string (s9 ++ s3)) = some h12 ∧
 Fin B h12 (Q (0))
def S_feed_Feed_Arrive (B : RO) (p1 : Option Addr) (i2 : Int) (s3 : ByteArray) (h : Heap) (Q : Int → Heap → Prop) : Prop :=
 (p1 = none →
 Fin B h (Q (2))) ∧ (¬ (p1 = none) →
 C_feed_Feed_is B p1 (i2) h (fun b15 h14 =>
 (b15 = true →
 ∃ A16 : Addr, p1 = some A16 ∧
 0 ≤ (i2 : Int) ∧ (i2 : Int) < (3 : Nat) ∧
 ∃ s18 : ByteArray, cellH B h14 (Addr.add A16 (Int.toNat (i2) * 1)) = some (.string s18) ∧
 (((ByteArray.size s3 : Nat) : Int) > (IntKind.wrap .i64 ((64) - ((ByteArray.size s18 : Nat)))) →
 Fin B h14 (Q (6))) ∧ (¬ (((ByteArray.size s3 : Nat) : Int) > (IntKind.wrap .i64 ((64) - ((ByteArray.size s18 : Nat))))) →
 Fin B h14 (fun h' => S_feed_Feed_Arrive_J1 B p1 i2 s3 h' Q))) ∧ (b15 = false →
 Fin B h14 (Q (1)))))
def S_countermandref20_Do_J1 (B : RO) (k10 : Nat) (k14 : Nat) (k18 : Nat) (i21 : Int) (h22 : Heap) (Q : Int → List Value → Heap → Prop) : Prop :=
 ∃ l23 : List Value, List.length l23 = 12 ∧ CellsAt B h22 ⟨k18, 12, none⟩ 0 l23 ∧
 List.length l23 = 12 ∧ ∃ h24 : Heap, StoresAt ⟨k10, 8, none⟩ h22 0 l23 h24 ∧
 ∃ l25 : List Value, List.length l25 = 23 ∧ CellsAt B h24 ⟨k10, 0, none⟩ 0 l25 ∧
 List.length l25 = 23 ∧ ∃ h26 : Heap, StoresAt ⟨k14, 0, none⟩ h24 0 l25 h26 ∧
 ∃ l27 : List Value, List.length l27 = 23 ∧ CellsAt B h26 ⟨k14, 0, none⟩ 0 l27 ∧ Fin B h26 (Q (i21) l27)
def S_countermandref20_Do (B : RO) (l1 : List Value) (s2 : ByteArray) (s3 : ByteArray) (s4 : ByteArray) (a5 : Option Addr) (n6 : Nat) (c7 : Nat) (h : Heap) (Q : Int → List Value → Heap → Prop) : Prop :=
 ∀ k10 : Nat, h k10 = none → B k10 = none → ∀ h11 : Heap, h11 = Heap.set h k10 (.vec 55 (plains l1) (List.length l1)) →
 ∀ k12 : Nat, h11 k12 = none → B k12 = none → ∀ h13 : Heap, h13 = Heap.set h11 k12 (.vec 56 (plains [(.string s2), (.string s3), (.string s4)]) 3) →
 ∀ k14 : Nat, h13 k14 = none → B k14 = none → ∀ h15 : Heap, h15 = Heap.set h13 k14 (.vec 55 (plains [(.int .i64 (0)), (.int .i64 (0)), (.int .i64 (0)), (.int .i64 (0)), (.int .i64 (0)), (.int .i64 (0)), (.int .i64 (0)), (.int .i64 (0)), (.bool false), (.string ByteArray.empty), (.bool false), (.string ByteArray.empty), (.bool false), (.string ByteArray.empty), (.bool false), (.string ByteArray.empty), (.bool false), (.string ByteArray.empty), (.bool false), (.string ByteArray.empty), (.int .i64 (0)), (.int .i64 (0)), (.int .i64 (0))]) 23) →
 ∃ l16 : List Value, List.length l16 = 12 ∧ CellsAt B h15 ⟨k10, 8, none⟩ 0 l16 ∧
 ∃ l17 : List Value, List.length l17 = 12 ∧ CellsAt B h15 ⟨k10, 8, none⟩ 0 l17 ∧
 ∀ k18 : Nat, h15 k18 = none → B k18 = none → ∀ h19 : Heap, h19 = Heap.set h15 k18 (.vec 132 (plains (l16 ++ l17 ++ [(.bool false), (.bool false), (.bool false), (.bool false), (.bool false), (.bool false)])) (List.length (l16 ++ l17 ++ [(.bool false), (.bool false), (.bool false), (.bool false), (.bool false), (.bool false)]))) →
 ∃ (J34 : Int → Int → Nat → Heap → Prop) (m32 : Nat), Fin B h19 (J34 (0) (0) m32) ∧
 ∀ (i28 : Int) (i29 : Int) (m31 : Nat) (h30 : Heap), J34 i28 i29 m31 h30 →
 ((i29 : Int) < ((n6 : Nat)) →
 ∃ A35 : Addr, a5 = some A35 ∧ 0 ≤ (i29 : Int) ∧ (i29 : Int) < (n6 : Nat) ∧
 ∃ i37 : Int, ∃ i38 : Int, ∃ i39 : Int, ∃ i40 : Int, CellsAt B h30 (Addr.add A35 (Int.toNat (i29) * 4)) 0 [(.int .i64 (i37)), (.int .i64 (i38)), (.int .i64 (i39)), (.int .u8 (i40))] ∧
 ∀ k41 : Nat, h30 k41 = none → B k41 = none → ∀ h42 : Heap, h42 = Heap.set h30 k41 (.vec 38 (plains [(.int .i64 (0)), (.int .i64 (0)), (.int .i64 (0)), (.int .u8 (0))]) 4) →
 ∃ h43 : Heap, StoresAt ⟨k41, 0, none⟩ h42 0 [(.int .i64 (i37)), (.int .i64 (i38)), (.int .i64 (i39)), (.int .u8 (i40))] h43 ∧
 ∃ i44 : Int, cellH B h43 ⟨k41, 0, none⟩ = some (.int .i64 (i44)) ∧
 ((i44 : Int) = 0 →
 ∃ i45 : Int, cellH B h43 ⟨k41, 1, none⟩ = some (.int .i64 (i45)) ∧
 0 ≤ (i45 : Int) ∧ (i45 : Int) < (8 : Nat) ∧
 ∃ i46 : Int, cellH B h43 (Addr.add ⟨k10, 0, none⟩ (Int.toNat (i45) * 1)) = some (.int .i64 (i46)) ∧
 Fin B h43 (fun h' => ∃ m', m' < m31 ∧ J34 (i46) (IntKind.wrap .i64 ((i29) + (1))) m' h')) ∧ (¬ ((i44 : Int) = 0) →
 ((i44 : Int) = 1 →
 ∃ i47 : Int, cellH B h43 ⟨k41, 1, none⟩ = some (.int .i64 (i47)) ∧
 ∃ i48 : Int, cellH B h43 ⟨k41, 2, none⟩ = some (.int .i64 (i48)) ∧
 0 ≤ (i47 : Int) ∧ (i47 : Int) < (8 : Nat) ∧
 ∃ h49 : Heap, storeH h43 (Addr.add ⟨k10, 0, none⟩ (Int.toNat (i47) * 1)) (.int .i64 (i48)) = some h49 ∧
 Fin B h49 (fun h' => ∃ m', m' < m31 ∧ J34 (0) (IntKind.wrap .i64 ((i29) + (1))) m' h')) ∧ (¬ ((i44 : Int) = 1) →
 ((i44 : Int) = 2 →
 ∃ i52 : Int, cellH B h43 ⟨k41, 1, none⟩ = some (.int .i64 (i52)) ∧
 0 ≤ (i52 : Int) ∧ (i52 : Int) < (6 : Nat) ∧
 ∃ b59 : Bool, ∃ s60 : ByteArray, CellsAt B h43 (Addr.add ⟨k18, 12, none⟩ (Int.toNat (i52) * 2)) 0 [(.bool b59), (.string s60)] ∧
 ∃ i63 : Int, cellH B h43 ⟨k41, 2, none⟩ = some (.int .i64 (i63)) ∧
 C_countermandref09_At B (b59) s60 (i63) h43 (fun i66 h65 =>
 cellH B h65 ⟨k41, 1, none⟩ = some (.int .i64 (i52)) ∧ CellsAt B h65 (Addr.add ⟨k18, 12, none⟩ (Int.toNat (i52) * 2)) 0 [(.bool b59), (.string s60)] ∧ cellH B h65 ⟨k41, 2, none⟩ = some (.int .i64 (i63)) ∧
 Fin B h65 (fun h' => ∃ m', m' < m31 ∧ J34 (i66) (IntKind.wrap .i64 ((i29) + (1))) m' h'))) ∧ (¬ ((i44 : Int) = 2) →
 ((i44 : Int) = 3 →
 ∃ i70 : Int, cellH B h43 ⟨k41, 1, none⟩ = some (.int .i64 (i70)) ∧
 ∃ i71 : Int, cellH B h43 ⟨k41, 2, none⟩ = some (.int .i64 (i71)) ∧
 ∃ i72 : Int, cellH B h43 ⟨k41, 3, none⟩ = some (.int .u8 (i72)) ∧
 C_countermandref14_Sheet_Write B (some ⟨k18, 0, none⟩) (i70) (i71) (i72) h43 (fun b74 h73 =>
 Fin B h73 (fun h' => ∃ m', m' < m31 ∧ J34 (0) (IntKind.wrap .i64 ((i29) + (1))) m' h'))) ∧ (¬ ((i44 : Int) = 3) →
 ((i44 : Int) = 4 →
 ∃ i75 : Int, cellH B h43 ⟨k41, 1, none⟩ = some (.int .i64 (i75)) ∧
 C_countermandref14_Sheet_Create B (some ⟨k18, 0, none⟩) (i75) h43 (fun b77 h76 =>
 Fin B h76 (fun h' => ∃ m', m' < m31 ∧ J34 (0) (IntKind.wrap .i64 ((i29) + (1))) m' h'))) ∧ (¬ ((i44 : Int) = 4) →
 ((i44 : Int) = 5 →
 ∃ i78 : Int, cellH B h43 ⟨k41, 1, none⟩ = some (.int .i64 (i78)) ∧
 C_countermandref14_Sheet_Remove B (some ⟨k18, 0, none⟩) (i78) h43 (fun b80 h79 =>
 Fin B h79 (fun h' => ∃ m', m' < m31 ∧ J34 (0) (IntKind.wrap .i64 ((i29) + (1))) m' h'))) ∧ (¬ ((i44 : Int) = 5) →
 ((i44 : Int) = 6 →
 ∃ i81 : Int, cellH B h43 ⟨k41, 1, none⟩ = some (.int .i64 (i81)) ∧
 ∃ i82 : Int, cellH B h43 ⟨k41, 2, none⟩ = some (.int .i64 (i82)) ∧
 C_countermandref14_Sheet_Rename B (some ⟨k18, 0, none⟩) (i81) (i82) h43 (fun b84 h83 =>
 Fin B h83 (fun h' => ∃ m', m' < m31 ∧ J34 (0) (IntKind.wrap .i64 ((i29) + (1))) m' h'))) ∧ (¬ ((i44 : Int) = 6) →
 ((i44 : Int) = 7 →
 ∃ i85 : Int, cellH B h43 ⟨k41, 1, none⟩ = some (.int .i64 (i85)) ∧
 ∃ i86 : Int, cellH B h43 ⟨k41, 2, none⟩ = some (.int .i64 (i86)) ∧
 C_countermandref14_Sheet_Cut B (some ⟨k18, 0, none⟩) (i85) (i86) h43 (fun b88 h87 =>
 Fin B h87 (fun h' => ∃ m', m' < m31 ∧ J34 (0) (IntKind.wrap .i64 ((i29) + (1))) m' h'))) ∧ (¬ ((i44 : Int) = 7) →
 ((i44 : Int) = 8 →
 ∃ i89 : Int, cellH B h43 ⟨k41, 1, none⟩ = some (.int .i64 (i89)) ∧
 0 ≤ (i89 : Int) ∧ (i89 : Int) < (3 : Nat) ∧
 ∃ i90 : Int, cellH B h43 (Addr.add ⟨k10, 20, none⟩ (Int.toNat (i89) * 1)) = some (.int .i64 (i90)) ∧
 ∃ i91 : Int, cellH B h43 ⟨k41, 1, none⟩ = some (.int .i64 (i91)) ∧
 0 ≤ (i91 : Int) ∧ (i91 : Int) < (3 : Nat) ∧
 ∃ s92 : ByteArray, cellH B h43 (Addr.add ⟨k12, 0, none⟩ (Int.toNat (i91) * 1)) = some (.string s92) ∧
 ((i90 : Int) < ((ByteArray.size s92 : Nat)) →
 ∃ i94 : Int, cellH B h43 ⟨k41, 1, none⟩ = some (.int .i64 (i94)) ∧
 0 ≤ (i94 : Int) ∧ (i94 : Int) < (3 : Nat) ∧
 ∃ s95 : ByteArray, cellH B h43 (Addr.add ⟨k12, 0, none⟩ (Int.toNat (i94) * 1)) = some (.string s95) ∧
 ∃ i96 : Int, cellH B h43 ⟨k41, 1, none⟩ = some (.int .i64 (i96)) ∧
 0 ≤ (i96 : Int) ∧ (i96 : Int) < (3 : Nat) ∧
 ∃ i97 : Int, cellH B h43 (Addr.add ⟨k10, 20, none⟩ (Int.toNat (i96) * 1)) = some (.int .i64 (i97)) ∧
 0 ≤ (i97 : Int) ∧ (i97 : Int) < (ByteArray.size s95 : Nat) ∧
 ∃ i98 : Int, cellH B h43 ⟨k41, 1, none⟩ = some (.int .i64 (i98)) ∧
 0 ≤ (i98 : Int) ∧ (i98 : Int) < (3 : Nat) ∧
 ∃ i99 : Int, cellH B h43 (Addr.add ⟨k10, 20, none⟩ (Int.toNat (i98) * 1)) = some (.int .i64 (i99)) ∧
 0 ≤ (i98 : Int) ∧ (i98 : Int) < (3 : Nat) ∧
 ∃ h100 : Heap, storeH h43 (Addr.add ⟨k10, 20, none⟩ (Int.toNat (i98) * 1)) (.int .i64 (IntKind.wrap .i64 ((i99) + (1)))) = some h100 ∧
 Fin B h100 (fun h' => ∃ m', m' < m31 ∧ J34 (IntKind.wrap .i64 (byteAt s95 (Int.toNat (i97)))) (IntKind.wrap .i64 ((i29) + (1))) m' h')) ∧ (¬ ((i90 : Int) < ((ByteArray.size s92 : Nat))) →
 Fin B h43 (fun h' => ∃ m', m' < m31 ∧ J34 ((-1)) (IntKind.wrap .i64 ((i29) + (1))) m' h'))) ∧ (¬ ((i44 : Int) = 8) →
 Fin B h43 (fun h' => ∃ m', m' < m31 ∧ J34 (0) (IntKind.wrap .i64 ((i29) + (1))) m' h'))))))))))) ∧ (¬ ((i29 : Int) < ((n6 : Nat))) →
 Fin B h30 (fun h' => S_countermandref20_Do_J1 B k10 k14 k18 (i28) h' Q))
def S_attempt_View_Now_J2 (B : RO) (p1 : Option Addr) (k3 : Nat) (k11 : Nat) (h17 : Heap) (Q : List Value → Heap → Prop) : Prop :=
 ∃ (J23 : Int → Nat → Heap → Prop) (m21 : Nat), Fin B h17 (J23 (0) m21) ∧
 ∀ (i18 : Int) (m20 : Nat) (h19 : Heap), J23 i18 m20 h19 →
 ((i18 : Int) < (3) →
 ∃ A24 : Addr, p1 = some A24 ∧
 ∃ p26 : Option Addr, cellH B h19 (Addr.add A24 2) = some (.pointer p26) ∧
 C_feed_Feed_Place B p26 (i18) h19 (fun i28 i29 h27 =>
 0 ≤ (2 : Int) ∧ (2 : Int) < (3 : Nat) ∧
 0 ≤ (i18 : Int) ∧ (i18 : Int) < (8 : Nat) ∧
 ∃ h30 : Heap, storeH h27 (Addr.add ⟨k11, 16, none⟩ (Int.toNat (i18) * 1)) (.int .i64 (i29)) = some h30 ∧
 Fin B h30 (fun h' => ∃ m', m' < m20 ∧ J23 (IntKind.wrap .i64 ((i18) + (1))) m' h'))) ∧ (¬ ((i18 : Int) < (3)) →
 ∃ l31 : List Value, List.length l31 = 25 ∧ CellsAt B h19 ⟨k11, 0, none⟩ 0 l31 ∧
 List.length l31 = 25 ∧ ∃ h32 : Heap, StoresAt ⟨k3, 0, none⟩ h19 0 l31 h32 ∧
 ∃ l33 : List Value, List.length l33 = 25 ∧ CellsAt B h32 ⟨k3, 0, none⟩ 0 l33 ∧ Fin B h32 (Q l33))
def S_attempt_View_Now_J1 (B : RO) (p1 : Option Addr) (k3 : Nat) (k11 : Nat) (h15 : Heap) (Q : List Value → Heap → Prop) : Prop :=
 ∃ (J39 : Int → Nat → Heap → Prop) (m37 : Nat), Fin B h15 (J39 (0) m37) ∧
 ∀ (i34 : Int) (m36 : Nat) (h35 : Heap), J39 i34 m36 h35 →
 ((i34 : Int) < (6) →
 ∃ A40 : Addr, p1 = some A40 ∧
 ∃ p42 : Option Addr, cellH B h35 (Addr.add A40 1) = some (.pointer p42) ∧
 C_tome_Tome_Get B p42 (i34) h35 (fun b44 s45 i46 h43 =>
 0 ≤ (1 : Int) ∧ (1 : Int) < (3 : Nat) ∧
 0 ≤ (i34 : Int) ∧ (i34 : Int) < (8 : Nat) ∧
 ∃ h47 : Heap, storeH h43 (Addr.add ⟨k11, 8, none⟩ (Int.toNat (i34) * 1)) (.int .i64 (i46)) = some h47 ∧
 Fin B h47 (fun h' => ∃ m', m' < m36 ∧ J39 (IntKind.wrap .i64 ((i34) + (1))) m' h'))) ∧ (¬ ((i34 : Int) < (6)) →
 Fin B h35 (fun h' => S_attempt_View_Now_J2 B p1 k3 k11 h' Q))
def S_attempt_View_Now (B : RO) (p1 : Option Addr) (h : Heap) (Q : List Value → Heap → Prop) : Prop :=
 ∀ k3 : Nat, h k3 = none → B k3 = none → ∀ h4 : Heap, h4 = Heap.set h k3 (.vec 65 (plains (List.replicate 25 (.int .i64 (0)))) 25) →
 (p1 = none →
 ∃ h6 : Heap, StoresAt ⟨k3, 0, none⟩ h4 0 (List.replicate 25 (.int .i64 (0))) h6 ∧
 ∃ l7 : List Value, List.length l7 = 25 ∧ CellsAt B h6 ⟨k3, 0, none⟩ 0 l7 ∧ Fin B h6 (Q l7)) ∧ (¬ (p1 = none) →
 ∃ A8 : Addr, p1 = some A8 ∧
 ∃ i10 : Int, cellH B h4 (Addr.add A8 3) = some (.int .i64 (i10)) ∧
 ∀ k11 : Nat, h4 k11 = none → B k11 = none → ∀ h12 : Heap, h12 = Heap.set h4 k11 (.vec 65 (plains (List.replicate 25 (.int .i64 (0)))) 25) →
 ∃ h13 : Heap, StoresAt ⟨k11, 0, none⟩ h12 0 [(.int .i64 (0)), (.int .i64 (0)), (.int .i64 (0)), (.int .i64 (0)), (.int .i64 (0)), (.int .i64 (0)), (.int .i64 (0)), (.int .i64 (0)), (.int .i64 (0)), (.int .i64 (0)), (.int .i64 (0)), (.int .i64 (0)), (.int .i64 (0)), (.int .i64 (0)), (.int .i64 (0)), (.int .i64 (0)), (.int .i64 (0)), (.int .i64 (0)), (.int .i64 (0)), (.int .i64 (0)), (.int .i64 (0)), (.int .i64 (0)), (.int .i64 (0)), (.int .i64 (0)), (.int .i64 (i10))] h13 ∧
 ∃ (J53 : Int → Nat → Heap → Prop) (m51 : Nat), Fin B h13 (J53 (0) m51) ∧
 ∀ (i48 : Int) (m50 : Nat) (h49 : Heap), J53 i48 m50 h49 →
 ((i48 : Int) < (8) →
 ∃ A54 : Addr, p1 = some A54 ∧
 ∃ p56 : Option Addr, cellH B h49 A54 = some (.pointer p56) ∧
 C_cell_Row_int_Version B p56 (i48) h49 (fun i58 h57 =>
 0 ≤ (0 : Int) ∧ (0 : Int) < (3 : Nat) ∧
 0 ≤ (i48 : Int) ∧ (i48 : Int) < (8 : Nat) ∧
 ∃ h59 : Heap, storeH h57 (Addr.add ⟨k11, 0, none⟩ (Int.toNat (i48) * 1)) (.int .i64 (i58)) = some h59 ∧
 Fin B h59 (fun h' => ∃ m', m' < m50 ∧ J53 (IntKind.wrap .i64 ((i48) + (1))) m' h'))) ∧ (¬ ((i48 : Int) < (8)) →
 Fin B h49 (fun h' => S_attempt_View_Now_J1 B p1 k3 k11 h' Q)))
def S_attempt_Attempt_Store_J1 (B : RO) (p1 : Option Addr) (i2 : Int) (i3 : Int) (h6 : Heap) (Q : Int → Heap → Prop) : Prop :=
 ∃ A7 : Addr, p1 = some A7 ∧
 ∃ p9 : Option Addr, cellH B h6 (Addr.add A7 2) = some (.pointer p9) ∧
 C_draft_Draft_int_Put B p9 (i2) (i3) h6 (fun b11 h10 =>
 Fin B h10 (Q (0)))
def S_attempt_Attempt_Store (B : RO) (p1 : Option Addr) (i2 : Int) (i3 : Int) (h : Heap) (Q : Int → Heap → Prop) : Prop :=
 (p1 = none →
 Fin B h (Q (2))) ∧ (¬ (p1 = none) →
 ((i2 : Int) < (0) →
 Fin B h (Q (1))) ∧ (¬ ((i2 : Int) < (0)) →
 ((i2 : Int) ≥ (8) →
 Fin B h (Q (1))) ∧ (¬ ((i2 : Int) ≥ (8)) →
 Fin B h (fun h' => S_attempt_Attempt_Store_J1 B p1 i2 i3 h' Q))))
def S_attempt_NewView (B : RO) (h : Heap) (Q : Option Addr → Heap → Prop) : Prop :=
 C_cell_New_int B (8) (0) h (fun p3 h2 =>
 C_tome_New B h2 (fun p5 h4 =>
 C_feed_New B h4 (fun p7 h6 =>
 ∀ k8 : Nat, h6 k8 = none → B k8 = none → ∀ h9 : Heap, h9 = Heap.set h6 k8 (.vec 43 (plains [(.pointer p3), (.pointer p5), (.pointer p7), (.int .i64 (0))]) 4) →
 Fin B h9 (Q (some ⟨k8, 0, none⟩)))))
def S_attempt_New_J2 (B : RO) (k7 : Nat) (p10 : Option Addr) (A14 : Addr) (i18 : Int) (i20 : Int) (i21 : Int) (i22 : Int) (i23 : Int) (p230 : Option Addr) (p231 : Option Addr) (p232 : Option Addr) (p233 : Option Addr) (i234 : Int) (i235 : Int) (i236 : Int) (i237 : Int) (A238 : Addr) (A239 : Addr) (h240 : Heap) (Q : Option Addr → Heap → Prop) : Prop :=
 ∀ k243 : Nat, h240 k243 = none → B k243 = none → ∀ h244 : Heap, h244 = Heap.set h240 k243 (.vec 107 (plains [(.pointer p10), (.pointer p230), (.pointer p231), (.pointer p232), (.pointer p233), (.int .i64 (i234)), (.int .i64 (i235)), (.int .i64 (i236)), (.int .i64 (i237)), (.pointer (some A238)), (.pointer (some A239))]) 11) →
 cellH B h244 (Addr.add A14 3) = some (.int .i64 (i18)) ∧ CellsAt B h244 ⟨k7, 0, none⟩ 0 [(.int .i64 (i20)), (.int .i64 (i21)), (.int .i64 (i22)), (.int .i64 (i23))] ∧
 Fin B h244 (Q (some ⟨k243, 0, none⟩))
def S_attempt_New_J1 (B : RO) (k7 : Nat) (p10 : Option Addr) (h11 : Heap) (Q : Option Addr → Heap → Prop) : Prop :=
 ∃ A14 : Addr, p10 = some A14 ∧
 ∃ i18 : Int, cellH B h11 (Addr.add A14 3) = some (.int .i64 (i18)) ∧
 ∃ i20 : Int, ∃ i21 : Int, ∃ i22 : Int, ∃ i23 : Int, CellsAt B h11 ⟨k7, 0, none⟩ 0 [(.int .i64 (i20)), (.int .i64 (i21)), (.int .i64 (i22)), (.int .i64 (i23))] ∧
 (C_reads_New B (i18) h11 (fun p248 h247 =>
 cellH B h247 (Addr.add A14 3) = some (.int .i64 (i18)) ∧ CellsAt B h247 ⟨k7, 0, none⟩ 0 [(.int .i64 (i20)), (.int .i64 (i21)), (.int .i64 (i22)), (.int .i64 (i23))] ∧
 (C_mark_Fresh B (i20) (i21) (i22) (i23) h247 (fun p252 p253 p254 i255 i256 i257 i258 h251 =>
 cellH B h251 (Addr.add A14 3) = some (.int .i64 (i18)) ∧ CellsAt B h251 ⟨k7, 0, none⟩ 0 [(.int .i64 (i20)), (.int .i64 (i21)), (.int .i64 (i22)), (.int .i64 (i23))] ∧
 (∀ k261 : Nat, h251 k261 = none → B k261 = none → ∀ h262 : Heap, h262 = Heap.set h251 k261 (.vec 144 (plains [(.slice none 0 0), (.slice none 0 0), (.slice none 0 0), (.slice none 0 0)]) 4) →
 cellH B h262 (Addr.add A14 3) = some (.int .i64 (i18)) ∧ CellsAt B h262 ⟨k7, 0, none⟩ 0 [(.int .i64 (i20)), (.int .i64 (i21)), (.int .i64 (i22)), (.int .i64 (i23))] ∧
 ∀ k265 : Nat, h262 k265 = none → B k265 = none → ∀ h266 : Heap, h266 = Heap.set h262 k265 (.vec 147 (plains [(.slice none 0 0)]) 1) →
 cellH B h266 (Addr.add A14 3) = some (.int .i64 (i18)) ∧ CellsAt B h266 ⟨k7, 0, none⟩ 0 [(.int .i64 (i20)), (.int .i64 (i21)), (.int .i64 (i22)), (.int .i64 (i23))] ∧
 S_attempt_New_J2 B k7 p10 A14 i18 i20 i21 i22 i23 p248 p252 p253 p254 (i255) (i256) (i257) (i258) ⟨k261, 0, none⟩ ⟨k265, 0, none⟩ h266 Q) ∧
 (∀ k269 : Nat, h251 k269 = none → B k269 = none → ∀ h270 : Heap, h270 = Heap.set h251 k269 (.vec 147 (plains [(.slice none 0 0)]) 1) →
 cellH B h270 (Addr.add A14 3) = some (.int .i64 (i18)) ∧ CellsAt B h270 ⟨k7, 0, none⟩ 0 [(.int .i64 (i20)), (.int .i64 (i21)), (.int .i64 (i22)), (.int .i64 (i23))] ∧
 ∀ k273 : Nat, h270 k273 = none → B k273 = none → ∀ h274 : Heap, h274 = Heap.set h270 k273 (.vec 144 (plains [(.slice none 0 0), (.slice none 0 0), (.slice none 0 0), (.slice none 0 0)]) 4) →
 cellH B h274 (Addr.add A14 3) = some (.int .i64 (i18)) ∧ CellsAt B h274 ⟨k7, 0, none⟩ 0 [(.int .i64 (i20)), (.int .i64 (i21)), (.int .i64 (i22)), (.int .i64 (i23))] ∧
 S_attempt_New_J2 B k7 p10 A14 i18 i20 i21 i22 i23 p248 p252 p253 p254 (i255) (i256) (i257) (i258) ⟨k273, 0, none⟩ ⟨k269, 0, none⟩ h274 Q))) ∧
 (∀ k277 : Nat, h247 k277 = none → B k277 = none → ∀ h278 : Heap, h278 = Heap.set h247 k277 (.vec 144 (plains [(.slice none 0 0), (.slice none 0 0), (.slice none 0 0), (.slice none 0 0)]) 4) →
 cellH B h278 (Addr.add A14 3) = some (.int .i64 (i18)) ∧ CellsAt B h278 ⟨k7, 0, none⟩ 0 [(.int .i64 (i20)), (.int .i64 (i21)), (.int .i64 (i22)), (.int .i64 (i23))] ∧
 (C_mark_Fresh B (i20) (i21) (i22) (i23) h278 (fun p282 p283 p284 i285 i286 i287 i288 h281 =>
 cellH B h281 (Addr.add A14 3) = some (.int .i64 (i18)) ∧ CellsAt B h281 ⟨k7, 0, none⟩ 0 [(.int .i64 (i20)), (.int .i64 (i21)), (.int .i64 (i22)), (.int .i64 (i23))] ∧
 ∀ k291 : Nat, h281 k291 = none → B k291 = none → ∀ h292 : Heap, h292 = Heap.set h281 k291 (.vec 147 (plains [(.slice none 0 0)]) 1) →
 cellH B h292 (Addr.add A14 3) = some (.int .i64 (i18)) ∧ CellsAt B h292 ⟨k7, 0, none⟩ 0 [(.int .i64 (i20)), (.int .i64 (i21)), (.int .i64 (i22)), (.int .i64 (i23))] ∧
 S_attempt_New_J2 B k7 p10 A14 i18 i20 i21 i22 i23 p248 p282 p283 p284 (i285) (i286) (i287) (i288) ⟨k277, 0, none⟩ ⟨k291, 0, none⟩ h292 Q)) ∧
 (∀ k295 : Nat, h278 k295 = none → B k295 = none → ∀ h296 : Heap, h296 = Heap.set h278 k295 (.vec 147 (plains [(.slice none 0 0)]) 1) →
 cellH B h296 (Addr.add A14 3) = some (.int .i64 (i18)) ∧ CellsAt B h296 ⟨k7, 0, none⟩ 0 [(.int .i64 (i20)), (.int .i64 (i21)), (.int .i64 (i22)), (.int .i64 (i23))] ∧
 C_mark_Fresh B (i20) (i21) (i22) (i23) h296 (fun p300 p301 p302 i303 i304 i305 i306 h299 =>
 cellH B h299 (Addr.add A14 3) = some (.int .i64 (i18)) ∧ CellsAt B h299 ⟨k7, 0, none⟩ 0 [(.int .i64 (i20)), (.int .i64 (i21)), (.int .i64 (i22)), (.int .i64 (i23))] ∧
 S_attempt_New_J2 B k7 p10 A14 i18 i20 i21 i22 i23 p248 p300 p301 p302 (i303) (i304) (i305) (i306) ⟨k277, 0, none⟩ ⟨k295, 0, none⟩ h299 Q))) ∧
 (∀ k309 : Nat, h247 k309 = none → B k309 = none → ∀ h310 : Heap, h310 = Heap.set h247 k309 (.vec 147 (plains [(.slice none 0 0)]) 1) →
 cellH B h310 (Addr.add A14 3) = some (.int .i64 (i18)) ∧ CellsAt B h310 ⟨k7, 0, none⟩ 0 [(.int .i64 (i20)), (.int .i64 (i21)), (.int .i64 (i22)), (.int .i64 (i23))] ∧
 (C_mark_Fresh B (i20) (i21) (i22) (i23) h310 (fun p314 p315 p316 i317 i318 i319 i320 h313 =>
 cellH B h313 (Addr.add A14 3) = some (.int .i64 (i18)) ∧ CellsAt B h313 ⟨k7, 0, none⟩ 0 [(.int .i64 (i20)), (.int .i64 (i21)), (.int .i64 (i22)), (.int .i64 (i23))] ∧
 ∀ k323 : Nat, h313 k323 = none → B k323 = none → ∀ h324 : Heap, h324 = Heap.set h313 k323 (.vec 144 (plains [(.slice none 0 0), (.slice none 0 0), (.slice none 0 0), (.slice none 0 0)]) 4) →
 cellH B h324 (Addr.add A14 3) = some (.int .i64 (i18)) ∧ CellsAt B h324 ⟨k7, 0, none⟩ 0 [(.int .i64 (i20)), (.int .i64 (i21)), (.int .i64 (i22)), (.int .i64 (i23))] ∧
 S_attempt_New_J2 B k7 p10 A14 i18 i20 i21 i22 i23 p248 p314 p315 p316 (i317) (i318) (i319) (i320) ⟨k323, 0, none⟩ ⟨k309, 0, none⟩ h324 Q)) ∧
 (∀ k327 : Nat, h310 k327 = none → B k327 = none → ∀ h328 : Heap, h328 = Heap.set h310 k327 (.vec 144 (plains [(.slice none 0 0), (.slice none 0 0), (.slice none 0 0), (.slice none 0 0)]) 4) →
 cellH B h328 (Addr.add A14 3) = some (.int .i64 (i18)) ∧ CellsAt B h328 ⟨k7, 0, none⟩ 0 [(.int .i64 (i20)), (.int .i64 (i21)), (.int .i64 (i22)), (.int .i64 (i23))] ∧
 C_mark_Fresh B (i20) (i21) (i22) (i23) h328 (fun p332 p333 p334 i335 i336 i337 i338 h331 =>
 cellH B h331 (Addr.add A14 3) = some (.int .i64 (i18)) ∧ CellsAt B h331 ⟨k7, 0, none⟩ 0 [(.int .i64 (i20)), (.int .i64 (i21)), (.int .i64 (i22)), (.int .i64 (i23))] ∧
 S_attempt_New_J2 B k7 p10 A14 i18 i20 i21 i22 i23 p248 p332 p333 p334 (i335) (i336) (i337) (i338) ⟨k327, 0, none⟩ ⟨k309, 0, none⟩ h331 Q))))) ∧
 (∀ k341 : Nat, h11 k341 = none → B k341 = none → ∀ h342 : Heap, h342 = Heap.set h11 k341 (.vec 144 (plains [(.slice none 0 0), (.slice none 0 0), (.slice none 0 0), (.slice none 0 0)]) 4) →
 cellH B h342 (Addr.add A14 3) = some (.int .i64 (i18)) ∧ CellsAt B h342 ⟨k7, 0, none⟩ 0 [(.int .i64 (i20)), (.int .i64 (i21)), (.int .i64 (i22)), (.int .i64 (i23))] ∧
 (C_reads_New B (i18) h342 (fun p346 h345 =>
 cellH B h345 (Addr.add A14 3) = some (.int .i64 (i18)) ∧ CellsAt B h345 ⟨k7, 0, none⟩ 0 [(.int .i64 (i20)), (.int .i64 (i21)), (.int .i64 (i22)), (.int .i64 (i23))] ∧
 (C_mark_Fresh B (i20) (i21) (i22) (i23) h345 (fun p350 p351 p352 i353 i354 i355 i356 h349 =>
 cellH B h349 (Addr.add A14 3) = some (.int .i64 (i18)) ∧ CellsAt B h349 ⟨k7, 0, none⟩ 0 [(.int .i64 (i20)), (.int .i64 (i21)), (.int .i64 (i22)), (.int .i64 (i23))] ∧
 ∀ k359 : Nat, h349 k359 = none → B k359 = none → ∀ h360 : Heap, h360 = Heap.set h349 k359 (.vec 147 (plains [(.slice none 0 0)]) 1) →
 cellH B h360 (Addr.add A14 3) = some (.int .i64 (i18)) ∧ CellsAt B h360 ⟨k7, 0, none⟩ 0 [(.int .i64 (i20)), (.int .i64 (i21)), (.int .i64 (i22)), (.int .i64 (i23))] ∧
 S_attempt_New_J2 B k7 p10 A14 i18 i20 i21 i22 i23 p346 p350 p351 p352 (i353) (i354) (i355) (i356) ⟨k341, 0, none⟩ ⟨k359, 0, none⟩ h360 Q)) ∧
 (∀ k363 : Nat, h345 k363 = none → B k363 = none → ∀ h364 : Heap, h364 = Heap.set h345 k363 (.vec 147 (plains [(.slice none 0 0)]) 1) →
 cellH B h364 (Addr.add A14 3) = some (.int .i64 (i18)) ∧ CellsAt B h364 ⟨k7, 0, none⟩ 0 [(.int .i64 (i20)), (.int .i64 (i21)), (.int .i64 (i22)), (.int .i64 (i23))] ∧
 C_mark_Fresh B (i20) (i21) (i22) (i23) h364 (fun p368 p369 p370 i371 i372 i373 i374 h367 =>
 cellH B h367 (Addr.add A14 3) = some (.int .i64 (i18)) ∧ CellsAt B h367 ⟨k7, 0, none⟩ 0 [(.int .i64 (i20)), (.int .i64 (i21)), (.int .i64 (i22)), (.int .i64 (i23))] ∧
 S_attempt_New_J2 B k7 p10 A14 i18 i20 i21 i22 i23 p346 p368 p369 p370 (i371) (i372) (i373) (i374) ⟨k341, 0, none⟩ ⟨k363, 0, none⟩ h367 Q)))) ∧
 (∀ k377 : Nat, h342 k377 = none → B k377 = none → ∀ h378 : Heap, h378 = Heap.set h342 k377 (.vec 147 (plains [(.slice none 0 0)]) 1) →
 cellH B h378 (Addr.add A14 3) = some (.int .i64 (i18)) ∧ CellsAt B h378 ⟨k7, 0, none⟩ 0 [(.int .i64 (i20)), (.int .i64 (i21)), (.int .i64 (i22)), (.int .i64 (i23))] ∧
 C_reads_New B (i18) h378 (fun p382 h381 =>
 cellH B h381 (Addr.add A14 3) = some (.int .i64 (i18)) ∧ CellsAt B h381 ⟨k7, 0, none⟩ 0 [(.int .i64 (i20)), (.int .i64 (i21)), (.int .i64 (i22)), (.int .i64 (i23))] ∧
 C_mark_Fresh B (i20) (i21) (i22) (i23) h381 (fun p386 p387 p388 i389 i390 i391 i392 h385 =>
 cellH B h385 (Addr.add A14 3) = some (.int .i64 (i18)) ∧ CellsAt B h385 ⟨k7, 0, none⟩ 0 [(.int .i64 (i20)), (.int .i64 (i21)), (.int .i64 (i22)), (.int .i64 (i23))] ∧
 S_attempt_New_J2 B k7 p10 A14 i18 i20 i21 i22 i23 p382 p386 p387 p388 (i389) (i390) (i391) (i392) ⟨k341, 0, none⟩ ⟨k377, 0, none⟩ h385 Q)))) ∧
 (∀ k395 : Nat, h11 k395 = none → B k395 = none → ∀ h396 : Heap, h396 = Heap.set h11 k395 (.vec 147 (plains [(.slice none 0 0)]) 1) →
 cellH B h396 (Addr.add A14 3) = some (.int .i64 (i18)) ∧ CellsAt B h396 ⟨k7, 0, none⟩ 0 [(.int .i64 (i20)), (.int .i64 (i21)), (.int .i64 (i22)), (.int .i64 (i23))] ∧
 (C_reads_New B (i18) h396 (fun p400 h399 =>
 cellH B h399 (Addr.add A14 3) = some (.int .i64 (i18)) ∧ CellsAt B h399 ⟨k7, 0, none⟩ 0 [(.int .i64 (i20)), (.int .i64 (i21)), (.int .i64 (i22)), (.int .i64 (i23))] ∧
 (C_mark_Fresh B (i20) (i21) (i22) (i23) h399 (fun p404 p405 p406 i407 i408 i409 i410 h403 =>
 cellH B h403 (Addr.add A14 3) = some (.int .i64 (i18)) ∧ CellsAt B h403 ⟨k7, 0, none⟩ 0 [(.int .i64 (i20)), (.int .i64 (i21)), (.int .i64 (i22)), (.int .i64 (i23))] ∧
 ∀ k413 : Nat, h403 k413 = none → B k413 = none → ∀ h414 : Heap, h414 = Heap.set h403 k413 (.vec 144 (plains [(.slice none 0 0), (.slice none 0 0), (.slice none 0 0), (.slice none 0 0)]) 4) →
 cellH B h414 (Addr.add A14 3) = some (.int .i64 (i18)) ∧ CellsAt B h414 ⟨k7, 0, none⟩ 0 [(.int .i64 (i20)), (.int .i64 (i21)), (.int .i64 (i22)), (.int .i64 (i23))] ∧
 S_attempt_New_J2 B k7 p10 A14 i18 i20 i21 i22 i23 p400 p404 p405 p406 (i407) (i408) (i409) (i410) ⟨k413, 0, none⟩ ⟨k395, 0, none⟩ h414 Q)) ∧
 (∀ k417 : Nat, h399 k417 = none → B k417 = none → ∀ h418 : Heap, h418 = Heap.set h399 k417 (.vec 144 (plains [(.slice none 0 0), (.slice none 0 0), (.slice none 0 0), (.slice none 0 0)]) 4) →
 cellH B h418 (Addr.add A14 3) = some (.int .i64 (i18)) ∧ CellsAt B h418 ⟨k7, 0, none⟩ 0 [(.int .i64 (i20)), (.int .i64 (i21)), (.int .i64 (i22)), (.int .i64 (i23))] ∧
 C_mark_Fresh B (i20) (i21) (i22) (i23) h418 (fun p422 p423 p424 i425 i426 i427 i428 h421 =>
 cellH B h421 (Addr.add A14 3) = some (.int .i64 (i18)) ∧ CellsAt B h421 ⟨k7, 0, none⟩ 0 [(.int .i64 (i20)), (.int .i64 (i21)), (.int .i64 (i22)), (.int .i64 (i23))] ∧
 S_attempt_New_J2 B k7 p10 A14 i18 i20 i21 i22 i23 p400 p422 p423 p424 (i425) (i426) (i427) (i428) ⟨k417, 0, none⟩ ⟨k395, 0, none⟩ h421 Q)))) ∧
 (∀ k431 : Nat, h396 k431 = none → B k431 = none → ∀ h432 : Heap, h432 = Heap.set h396 k431 (.vec 144 (plains [(.slice none 0 0), (.slice none 0 0), (.slice none 0 0), (.slice none 0 0)]) 4) →
 cellH B h432 (Addr.add A14 3) = some (.int .i64 (i18)) ∧ CellsAt B h432 ⟨k7, 0, none⟩ 0 [(.int .i64 (i20)), (.int .i64 (i21)), (.int .i64 (i22)), (.int .i64 (i23))] ∧
 C_reads_New B (i18) h432 (fun p436 h435 =>
 cellH B h435 (Addr.add A14 3) = some (.int .i64 (i18)) ∧ CellsAt B h435 ⟨k7, 0, none⟩ 0 [(.int .i64 (i20)), (.int .i64 (i21)), (.int .i64 (i22)), (.int .i64 (i23))] ∧
 C_mark_Fresh B (i20) (i21) (i22) (i23) h435 (fun p440 p441 p442 i443 i444 i445 i446 h439 =>
 cellH B h439 (Addr.add A14 3) = some (.int .i64 (i18)) ∧ CellsAt B h439 ⟨k7, 0, none⟩ 0 [(.int .i64 (i20)), (.int .i64 (i21)), (.int .i64 (i22)), (.int .i64 (i23))] ∧
 S_attempt_New_J2 B k7 p10 A14 i18 i20 i21 i22 i23 p436 p440 p441 p442 (i443) (i444) (i445) (i446) ⟨k431, 0, none⟩ ⟨k395, 0, none⟩ h439 Q))))
def S_attempt_New (B : RO) (p1 : Option Addr) (i2 : Int) (i3 : Int) (i4 : Int) (i5 : Int) (h : Heap) (Q : Option Addr → Heap → Prop) : Prop :=
 ∀ k7 : Nat, h k7 = none → B k7 = none → ∀ h8 : Heap, h8 = Heap.set h k7 (.vec 26 (plains [(.int .i64 (i2)), (.int .i64 (i3)), (.int .i64 (i4)), (.int .i64 (i5))]) 4) →
 (p1 = none →
 C_attempt_NewView B h8 (fun p451 h450 =>
 Fin B h450 (fun h' => S_attempt_New_J1 B k7 p451 h' Q))) ∧ (¬ (p1 = none) →
 Fin B h8 (fun h' => S_attempt_New_J1 B k7 p1 h' Q))
def S_attempt_Attempt_Else (B : RO) (p1 : Option Addr) (i2 : Int) (h : Heap) (Q : Heap → Prop) : Prop :=
 (p1 = none →
 Fin B h (Q)) ∧ (¬ (p1 = none) →
 ∃ A5 : Addr, p1 = some A5 ∧
 ∃ p9 : Option Addr, cellH B h (Addr.add A5 10) = some (.pointer p9) ∧
 ∃ A12 : Addr, p1 = some A12 ∧
 ∃ p16 : Option Addr, ∃ p17 : Option Addr, ∃ p18 : Option Addr, ∃ i19 : Int, ∃ i20 : Int, ∃ i21 : Int, ∃ i22 : Int, CellsAt B h (Addr.add A12 2) 0 [(.pointer p16), (.pointer p17), (.pointer p18), (.int .i64 (i19)), (.int .i64 (i20)), (.int .i64 (i21)), (.int .i64 (i22))] ∧
 ∃ A25 : Addr, p1 = some A25 ∧
 ∃ p29 : Option Addr, cellH B h (Addr.add A25 9) = some (.pointer p29) ∧
 C_acts_Acts_Mark B p29 h (fun i33 i34 i35 i36 h32 =>
 cellH B h32 (Addr.add A5 10) = some (.pointer p9) ∧ CellsAt B h32 (Addr.add A12 2) 0 [(.pointer p16), (.pointer p17), (.pointer p18), (.int .i64 (i19)), (.int .i64 (i20)), (.int .i64 (i21)), (.int .i64 (i22))] ∧ cellH B h32 (Addr.add A25 9) = some (.pointer p29) ∧
 C_mark_Stack_Push B p9 p16 p17 p18 (i19) (i20) (i21) (i22) (i33) (i34) (i35) (i36) (i2) h32 (fun b41 h40 =>
 Fin B h40 (Q))))
def S_attempt_Attempt_Back (B : RO) (p1 : Option Addr) (h : Heap) (Q : Int → Option Addr → Nat → Nat → Bool → Heap → Prop) : Prop :=
 (p1 = none →
 Fin B h (Q (0) none 0 0 (false))) ∧ (¬ (p1 = none) →
 ∃ A8 : Addr, p1 = some A8 ∧
 ∃ p10 : Option Addr, cellH B h (Addr.add A8 10) = some (.pointer p10) ∧
 C_mark_Stack_Pop B p10 h (fun p12 p13 p14 i15 i16 i17 i18 i19 i20 i21 i22 i23 b24 h11 =>
 (b24 = true →
 ∀ k28 : Nat, h11 k28 = none → B k28 = none → ∀ h29 : Heap, h29 = Heap.set h11 k28 (.vec 152 (plains [(.pointer none), (.pointer none), (.pointer none), (.int .i64 (0)), (.int .i64 (0)), (.int .i64 (0)), (.int .i64 (0)), (.int .i64 (0)), (.int .i64 (0)), (.int .i64 (0)), (.int .i64 (0)), (.int .i64 (0))]) 12) →
 ∃ h30 : Heap, StoresAt ⟨k28, 0, none⟩ h29 0 [(.pointer p12), (.pointer p13), (.pointer p14), (.int .i64 (i15)), (.int .i64 (i16)), (.int .i64 (i17)), (.int .i64 (i18)), (.int .i64 (i19)), (.int .i64 (i20)), (.int .i64 (i21)), (.int .i64 (i22)), (.int .i64 (i23))] h30 ∧
 ∃ p31 : Option Addr, ∃ p32 : Option Addr, ∃ p33 : Option Addr, ∃ i34 : Int, ∃ i35 : Int, ∃ i36 : Int, ∃ i37 : Int, CellsAt B h30 ⟨k28, 0, none⟩ 0 [(.pointer p31), (.pointer p32), (.pointer p33), (.int .i64 (i34)), (.int .i64 (i35)), (.int .i64 (i36)), (.int .i64 (i37))] ∧
 ∃ A38 : Addr, p1 = some A38 ∧
 ∃ h40 : Heap, StoresAt (Addr.add A38 2) h30 0 [(.pointer p31), (.pointer p32), (.pointer p33), (.int .i64 (i34)), (.int .i64 (i35)), (.int .i64 (i36)), (.int .i64 (i37))] h40 ∧
 ∃ i42 : Int, cellH B h40 ⟨k28, 11, none⟩ = some (.int .i64 (i42)) ∧
 ∃ A45 : Addr, p1 = some A45 ∧
 ∃ p49 : Option Addr, cellH B h40 (Addr.add A45 9) = some (.pointer p49) ∧
 ∃ i52 : Int, ∃ i53 : Int, ∃ i54 : Int, ∃ i55 : Int, CellsAt B h40 ⟨k28, 7, none⟩ 0 [(.int .i64 (i52)), (.int .i64 (i53)), (.int .i64 (i54)), (.int .i64 (i55))] ∧
 C_acts_Acts_Back B p49 (i52) (i53) (i54) (i55) h40 (fun a58 n59 c60 h57 =>
 cellH B h57 ⟨k28, 11, none⟩ = some (.int .i64 (i42)) ∧ cellH B h57 (Addr.add A45 9) = some (.pointer p49) ∧ CellsAt B h57 ⟨k28, 7, none⟩ 0 [(.int .i64 (i52)), (.int .i64 (i53)), (.int .i64 (i54)), (.int .i64 (i55))] ∧
 Fin B h57 (Q (i42) a58 n59 c60 (true)))) ∧ (b24 = false →
 ∀ k25 : Nat, h11 k25 = none → B k25 = none → ∀ h26 : Heap, h26 = Heap.set h11 k25 (.vec 152 (plains [(.pointer none), (.pointer none), (.pointer none), (.int .i64 (0)), (.int .i64 (0)), (.int .i64 (0)), (.int .i64 (0)), (.int .i64 (0)), (.int .i64 (0)), (.int .i64 (0)), (.int .i64 (0)), (.int .i64 (0))]) 12) →
 ∃ h27 : Heap, StoresAt ⟨k25, 0, none⟩ h26 0 [(.pointer p12), (.pointer p13), (.pointer p14), (.int .i64 (i15)), (.int .i64 (i16)), (.int .i64 (i17)), (.int .i64 (i18)), (.int .i64 (i19)), (.int .i64 (i20)), (.int .i64 (i21)), (.int .i64 (i22)), (.int .i64 (i23))] h27 ∧
 Fin B h27 (Q (0) none 0 0 (false)))))
def S_draft_Draft_int_Get (B : RO) (p1 : Option Addr) (i2 : Int) (h : Heap) (Q : Int → Bool → Heap → Prop) : Prop :=
 (p1 = none →
 Fin B h (Q (0) (false))) ∧ (¬ (p1 = none) →
 C_draft_Draft_int_find B p1 (i2) h (fun i7 b8 h6 =>
 (b8 = true →
 ∃ A9 : Addr, p1 = some A9 ∧
 LdSl B h6 A9 fun a11 n12 c13 h14 =>
 ∃ A15 : Addr, a11 = some A15 ∧ 0 ≤ (i7 : Int) ∧ (i7 : Int) < (n12 : Nat) ∧
 ∃ i17 : Int, cellH B h14 (Addr.add (Addr.add A15 (Int.toNat (i7) * 2)) 1) = some (.int .i64 (i17)) ∧
 Fin B h14 (Q (i17) (true))) ∧ (b8 = false →
 Fin B h6 (Q (0) (false)))))
def S_attempt_Attempt_note (B : RO) (p1 : Option Addr) (i2 : Int) (i3 : Int) (h : Heap) (Q : Int → Heap → Prop) : Prop :=
 ∃ A6 : Addr, p1 = some A6 ∧
 ∃ p10 : Option Addr, cellH B h (Addr.add A6 1) = some (.pointer p10) ∧
 ∃ A13 : Addr, p1 = some A13 ∧
 ∃ p17 : Option Addr, cellH B h A13 = some (.pointer p17) ∧
 C_attempt_View_Now B p17 h (fun l22 h21 =>
 cellH B h21 (Addr.add A6 1) = some (.pointer p10) ∧ cellH B h21 A13 = some (.pointer p17) ∧
 C_reads_Set_Note B p10 l22 (i2) (i3) h21 (fun b26 h25 =>
 (b26 = true →
 cellH B h25 (Addr.add A6 1) = some (.pointer p10) ∧ cellH B h25 A13 = some (.pointer p17) ∧
 Fin B h25 (Q (0))) ∧ (b26 = false →
 cellH B h25 (Addr.add A6 1) = some (.pointer p10) ∧ cellH B h25 A13 = some (.pointer p17) ∧
 Fin B h25 (Q (9)))))
def S_cell_Row_int_Get (B : RO) (p1 : Option Addr) (i2 : Int) (h : Heap) (Q : Int → Int → Heap → Prop) : Prop :=
 C_cell_Row_int_is B p1 (i2) h (fun b6 h5 =>
 (b6 = true →
 ∃ A7 : Addr, p1 = some A7 ∧
 ∃ a9 : Option Addr, ∃ n10 : Nat, ∃ c11 : Nat, cellH B h5 A7 = some (.slice a9 n10 c11) ∧
 ∃ A12 : Addr, a9 = some A12 ∧ 0 ≤ (i2 : Int) ∧ (i2 : Int) < (n10 : Nat) ∧
 ∃ i14 : Int, cellH B h5 (Addr.add A12 (Int.toNat (i2) * 2)) = some (.int .i64 (i14)) ∧
 ∃ A15 : Addr, p1 = some A15 ∧
 ∃ a17 : Option Addr, ∃ n18 : Nat, ∃ c19 : Nat, cellH B h5 A15 = some (.slice a17 n18 c19) ∧
 ∃ A20 : Addr, a17 = some A20 ∧ 0 ≤ (i2 : Int) ∧ (i2 : Int) < (n18 : Nat) ∧
 ∃ i22 : Int, cellH B h5 (Addr.add (Addr.add A20 (Int.toNat (i2) * 2)) 1) = some (.int .i64 (i22)) ∧
 Fin B h5 (Q (i14) (i22))) ∧ (b6 = false →
 Fin B h5 (Q (0) (0))))
def S_reads_Set_Valid (B : RO) (p1 : Option Addr) (l2 : List Value) (h : Heap) (Q : Bool → Heap → Prop) : Prop :=
 ∀ k4 : Nat, h k4 = none → B k4 = none → ∀ h5 : Heap, h5 = Heap.set h k4 (.vec 65 (plains l2) (List.length l2)) →
 (p1 = none →
 Fin B h5 (Q (true))) ∧ (¬ (p1 = none) →
 ∃ A7 : Addr, p1 = some A7 ∧
 LdSl B h5 A7 fun a9 n10 c11 h12 =>
 ∃ (J18 : Int → Nat → Heap → Prop) (m16 : Nat), Fin B h12 (J18 (0) m16) ∧
 ∀ (i13 : Int) (m15 : Nat) (h14 : Heap), J18 i13 m15 h14 →
 ((i13 : Int) < ((n10 : Nat)) →
 ∃ A19 : Addr, a9 = some A19 ∧ 0 ≤ (i13 : Int) ∧ (i13 : Int) < (n10 : Nat) ∧
 ∃ i21 : Int, ∃ i22 : Int, ∃ i23 : Int, CellsAt B h14 (Addr.add A19 (Int.toNat (i13) * 3)) 0 [(.int .i64 (i21)), (.int .i64 (i22)), (.int .i64 (i23))] ∧
 ∀ k24 : Nat, h14 k24 = none → B k24 = none → ∀ h25 : Heap, h25 = Heap.set h14 k24 (.vec 174 (plains [(.int .i64 (0)), (.int .i64 (0)), (.int .i64 (0))]) 3) →
 ∃ h26 : Heap, StoresAt ⟨k24, 0, none⟩ h25 0 [(.int .i64 (i21)), (.int .i64 (i22)), (.int .i64 (i23))] h26 ∧
 ∃ l27 : List Value, List.length l27 = 25 ∧ CellsAt B h26 ⟨k4, 0, none⟩ 0 l27 ∧
 ∃ i30 : Int, cellH B h26 ⟨k24, 0, none⟩ = some (.int .i64 (i30)) ∧
 ∃ i33 : Int, cellH B h26 ⟨k24, 1, none⟩ = some (.int .i64 (i33)) ∧
 ∃ i36 : Int, cellH B h26 ⟨k24, 2, none⟩ = some (.int .i64 (i36)) ∧
 C_reads_Now_Of B l27 (i30) (i33) h26 (fun i39 h38 =>
 CellsAt B h38 ⟨k4, 0, none⟩ 0 l27 ∧ cellH B h38 ⟨k24, 0, none⟩ = some (.int .i64 (i30)) ∧ cellH B h38 ⟨k24, 1, none⟩ = some (.int .i64 (i33)) ∧ cellH B h38 ⟨k24, 2, none⟩ = some (.int .i64 (i36)) ∧
 ((i39 : Int) = i36 →
 Fin B h38 (fun h' => ∃ m', m' < m15 ∧ J18 (IntKind.wrap .i64 ((i13) + (1))) m' h')) ∧ (¬ ((i39 : Int) = i36) →
 Fin B h38 (Q (false))))) ∧ (¬ ((i13 : Int) < ((n10 : Nat))) →
 Fin B h14 (Q (true))))
def S_draft_Draft_int_All (B : RO) (p1 : Option Addr) (h : Heap) (Q : Value → Heap → Prop) : Prop :=
 ∀ k3 : Nat, h k3 = none → B k3 = none → ∀ h4 : Heap, h4 = Heap.set h k3 (.vec 91 [.plain (.pointer p1)] 1) →
 Fin B h4 (Q (Value.func (.func 85) #[] #[(.pointer (some ⟨k3, 0, none⟩))]))
def S_cell_Row_int_Set (B : RO) (p1 : Option Addr) (i2 : Int) (i3 : Int) (i4 : Int) (h : Heap) (Q : Bool → Heap → Prop) : Prop :=
 C_cell_Row_int_is B p1 (i2) h (fun b7 h6 =>
 (b7 = true →
 ∃ A8 : Addr, p1 = some A8 ∧
 LdSl B h6 A8 fun a10 n11 c12 h13 =>
 ∃ A14 : Addr, a10 = some A14 ∧ 0 ≤ (i2 : Int) ∧ (i2 : Int) < (n11 : Nat) ∧
 ∃ h16 : Heap, StoresAt (Addr.add A14 (Int.toNat (i2) * 2)) h13 0 [(.int .i64 (i3)), (.int .i64 (i4))] h16 ∧
 Fin B h16 (Q (true))) ∧ (b7 = false →
 Fin B h6 (Q (false))))
def S_sheet_Sheet_Over (B : RO) (p1 : Option Addr) (p2 : Option Addr) (i3 : Int) (h : Heap) (Q : Int → Heap → Prop) : Prop :=
 ∀ k5 : Nat, h k5 = none → B k5 = none → ∀ h6 : Heap, h6 = Heap.set h k5 (.vec 40 [.plain (.pointer p2)] 1) →
 ∀ k7 : Nat, h6 k7 = none → B k7 = none → ∀ h8 : Heap, h8 = Heap.set h6 k7 (.vec 3 [.plain (.int .i64 (i3))] 1) →
 ∀ k9 : Nat, h8 k9 = none → B k9 = none → ∀ h10 : Heap, h10 = Heap.set h8 k9 (.vec 3 (plains [(.int .i64 (0))]) 1) →
 ∃ h11 : Heap, storeH h10 ⟨k9, 0, none⟩ (.int .i64 (0)) = some h11 ∧
 C_sheet_Sheet_Draft B p1 h11 (fun p13 h12 =>
 C_draft_Draft_file_File_All B p13 h12 (fun v15 h14 =>
 ∃ (xs23 : List (Int × Bool × ByteArray)) (G19 : Heap → Prop) (J22 : Nat → Heap → Prop), Iter PG B v15 (xs23.map (fun x : Int × Bool × ByteArray => [(.int .i64 (x.1)), (.agg #[(.bool x.2.1), (.string x.2.2)])])) G19 ∧ Ins G19 ∧ (∀ i h, J22 i h → G19 h) ∧ Fin B h14 (J22 0) ∧
 (∀ (q21 : Nat) (h20 : Heap) (i16 : Int) (b17 : Bool) (s18 : ByteArray), xs23[q21]? = some (i16, b17, s18) → J22 q21 h20 →
 ∀ k24 : Nat, h20 k24 = none → B k24 = none → ∀ h25 : Heap, h25 = Heap.set h20 k24 (.vec 119 (plains [(.bool false), (.string ByteArray.empty)]) 2) →
 ∃ h26 : Heap, StoresAt ⟨k24, 0, none⟩ h25 0 [(.bool b17), (.string s18)] h26 ∧
 ∃ p27 : Option Addr, cellH B h26 ⟨k5, 0, none⟩ = some (.pointer p27) ∧
 ∃ b28 : Bool, ∃ s29 : ByteArray, CellsAt B h26 ⟨k24, 0, none⟩ 0 [(.bool b28), (.string s29)] ∧
 ∃ i30 : Int, cellH B h26 ⟨k7, 0, none⟩ = some (.int .i64 (i30)) ∧
 C_tome_Tome_Set B p27 (i16) (b28) s29 (i30) h26 (fun b32 h31 =>
 (b32 = true →
 ∃ i33 : Int, cellH B h31 ⟨k9, 0, none⟩ = some (.int .i64 (i33)) ∧
 ∃ h34 : Heap, storeH h31 ⟨k9, 0, none⟩ (.int .i64 (IntKind.wrap .i64 ((i33) + (1)))) = some h34 ∧
 Fin B h34 (J22 (q21 + 1))) ∧ (b32 = false →
 Fin B h31 (J22 (q21 + 1))))) ∧
 (∀ (h20 : Heap), J22 xs23.length h20 →
 ∃ i35 : Int, cellH B h20 ⟨k9, 0, none⟩ = some (.int .i64 (i35)) ∧
 Fin B h20 (Q (i35)))))
def S_cursor_Cursor_Read_J1 (B : RO) (p1 : Option Addr) (i2 : Int) (h5 : Heap) (Q : Int → Heap → Prop) : Prop :=
 ∃ A6 : Addr, p1 = some A6 ∧
 0 ≤ (i2 : Int) ∧ (i2 : Int) < (3 : Nat) ∧
 ∃ i8 : Int, cellH B h5 (Addr.add A6 (Int.toNat (i2) * 1)) = some (.int .i64 (i8)) ∧
 Fin B h5 (Q (i8))
def S_cursor_Cursor_Read (B : RO) (p1 : Option Addr) (i2 : Int) (h : Heap) (Q : Int → Heap → Prop) : Prop :=
 (p1 = none →
 Fin B h (Q (0))) ∧ (¬ (p1 = none) →
 C_cursor_is B (i2) h (fun b11 h10 =>
 (b11 = true →
 Fin B h10 (fun h' => S_cursor_Cursor_Read_J1 B p1 i2 h' Q)) ∧ (b11 = false →
 Fin B h10 (Q (0)))))
def S_feed_Feed_Place (B : RO) (p1 : Option Addr) (i2 : Int) (h : Heap) (Q : Int → Int → Heap → Prop) : Prop :=
 (p1 = none →
 Fin B h (Q (0) (0))) ∧ (¬ (p1 = none) →
 ∃ A6 : Addr, p1 = some A6 ∧
 ∃ p8 : Option Addr, cellH B h (Addr.add A6 3) = some (.pointer p8) ∧
 C_cell_Row_int_Get B p8 (i2) h (fun i10 i11 h9 =>
 Fin B h9 (Q (i10) (i11))))
def S_feed_Feed_Take_J1 (B : RO) (p1 : Option Addr) (i2 : Int) (i3 : Int) (i4 : Int) (h10 : Heap) (Q : Bool → Heap → Prop) : Prop :=
 ∃ A11 : Addr, p1 = some A11 ∧
 ∃ p13 : Option Addr, cellH B h10 (Addr.add A11 3) = some (.pointer p13) ∧
 C_cell_Row_int_Set B p13 (i2) (i3) (i4) h10 (fun b15 h14 =>
 Fin B h14 (Q (b15)))
def S_feed_Feed_Take (B : RO) (p1 : Option Addr) (i2 : Int) (i3 : Int) (i4 : Int) (h : Heap) (Q : Bool → Heap → Prop) : Prop :=
 C_feed_Feed_Place B p1 (i2) h (fun i7 i8 h6 =>
 C_feed_Feed_is B p1 (i2) h6 (fun b17 h16 =>
 (b17 = true →
 ((i3 : Int) < (i7) →
 Fin B h16 (Q (false))) ∧ (¬ ((i3 : Int) < (i7)) →
 ∃ A18 : Addr, p1 = some A18 ∧
 0 ≤ (i2 : Int) ∧ (i2 : Int) < (3 : Nat) ∧
 ∃ s20 : ByteArray, cellH B h16 (Addr.add A18 (Int.toNat (i2) * 1)) = some (.string s20) ∧
 ((i3 : Int) > ((ByteArray.size s20 : Nat)) →
 Fin B h16 (Q (false))) ∧ (¬ ((i3 : Int) > ((ByteArray.size s20 : Nat))) →
 Fin B h16 (fun h' => S_feed_Feed_Take_J1 B p1 i2 i3 i4 h' Q)))) ∧ (b17 = false →
 Fin B h16 (Q (false)))))
def S_tome_Tome_Get (B : RO) (p1 : Option Addr) (i2 : Int) (h : Heap) (Q : Bool → ByteArray → Int → Heap → Prop) : Prop :=
 ∀ k6 : Nat, h k6 = none → B k6 = none → ∀ h7 : Heap, h7 = Heap.set h k6 (.vec 119 (plains [(.bool false), (.string ByteArray.empty)]) 2) →
 (p1 = none →
 ∃ h9 : Heap, StoresAt ⟨k6, 0, none⟩ h7 0 [(.bool false), (.string ByteArray.empty)] h9 ∧
 ∃ b10 : Bool, ∃ s11 : ByteArray, CellsAt B h9 ⟨k6, 0, none⟩ 0 [(.bool b10), (.string s11)] ∧ Fin B h9 (Q (b10) s11 (0))) ∧ (¬ (p1 = none) →
 ∃ A12 : Addr, p1 = some A12 ∧
 ∃ p14 : Option Addr, cellH B h7 A12 = some (.pointer p14) ∧
 C_cell_Row_file_File_Get B p14 (i2) h7 (fun b16 s17 i18 h15 =>
 ∃ h19 : Heap, StoresAt ⟨k6, 0, none⟩ h15 0 [(.bool b16), (.string s17)] h19 ∧
 ∃ b20 : Bool, ∃ s21 : ByteArray, CellsAt B h19 ⟨k6, 0, none⟩ 0 [(.bool b20), (.string s21)] ∧ Fin B h19 (Q (b20) s21 (i18))))
def S_feed_Feed_Text (B : RO) (p1 : Option Addr) (i2 : Int) (h : Heap) (Q : ByteArray → Heap → Prop) : Prop :=
 C_feed_Feed_is B p1 (i2) h (fun b5 h4 =>
 (b5 = true →
 ∃ A6 : Addr, p1 = some A6 ∧
 0 ≤ (i2 : Int) ∧ (i2 : Int) < (3 : Nat) ∧
 ∃ s8 : ByteArray, cellH B h4 (Addr.add A6 (Int.toNat (i2) * 1)) = some (.string s8) ∧
 Fin B h4 (Q s8)) ∧ (b5 = false →
 Fin B h4 (Q (ByteArray.mk #[]))))
def S_attempt_Attempt_Read (B : RO) (p1 : Option Addr) (i2 : Int) (i3 : Int) (h : Heap) (Q : Int → Int → Heap → Prop) : Prop :=
 C_attempt_Attempt_touch B p1 (i2) h (fun b7 s8 i9 h6 =>
 ∀ k10 : Nat, h6 k10 = none → B k10 = none → ∀ h11 : Heap, h11 = Heap.set h6 k10 (.vec 119 (plains [(.bool false), (.string ByteArray.empty)]) 2) →
 ∃ h12 : Heap, StoresAt ⟨k10, 0, none⟩ h11 0 [(.bool b7), (.string s8)] h12 ∧
 ((i9 : Int) = 0 →
 ∃ b13 : Bool, ∃ s14 : ByteArray, CellsAt B h12 ⟨k10, 0, none⟩ 0 [(.bool b13), (.string s14)] ∧
 C_file_At B (b13) s14 (i3) h12 (fun i16 h15 =>
 Fin B h15 (Q (i16) (0)))) ∧ (¬ ((i9 : Int) = 0) →
 Fin B h12 (Q (0) (i9))))
def S_attempt_Attempt_Write (B : RO) (p1 : Option Addr) (i2 : Int) (i3 : Int) (i4 : Int) (h : Heap) (Q : Int → Heap → Prop) : Prop :=
 C_attempt_Attempt_touch B p1 (i2) h (fun b7 s8 i9 h6 =>
 ∀ k10 : Nat, h6 k10 = none → B k10 = none → ∀ h11 : Heap, h11 = Heap.set h6 k10 (.vec 119 (plains [(.bool false), (.string ByteArray.empty)]) 2) →
 ∃ h12 : Heap, StoresAt ⟨k10, 0, none⟩ h11 0 [(.bool b7), (.string s8)] h12 ∧
 ((i9 : Int) = 0 →
 ∃ A13 : Addr, p1 = some A13 ∧
 ∃ p15 : Option Addr, cellH B h12 (Addr.add (Addr.add A13 2) 1) = some (.pointer p15) ∧
 ∃ A16 : Addr, p1 = some A16 ∧
 ∃ p18 : Option Addr, cellH B h12 A16 = some (.pointer p18) ∧
 ∃ A19 : Addr, p18 = some A19 ∧
 ∃ p21 : Option Addr, cellH B h12 (Addr.add A19 1) = some (.pointer p21) ∧
 C_sheet_Sheet_Write B p15 p21 (i2) (i3) (i4) h12 (fun b23 h22 =>
 Fin B h22 (Q (i9)))) ∧ (¬ ((i9 : Int) = 0) →
 Fin B h12 (Q (i9))))
def S_attempt_Attempt_Create (B : RO) (p1 : Option Addr) (i2 : Int) (h : Heap) (Q : Int → Heap → Prop) : Prop :=
 C_attempt_Attempt_touch B p1 (i2) h (fun b5 s6 i7 h4 =>
 ∀ k8 : Nat, h4 k8 = none → B k8 = none → ∀ h9 : Heap, h9 = Heap.set h4 k8 (.vec 119 (plains [(.bool false), (.string ByteArray.empty)]) 2) →
 ∃ h10 : Heap, StoresAt ⟨k8, 0, none⟩ h9 0 [(.bool b5), (.string s6)] h10 ∧
 ((i7 : Int) = 0 →
 ∃ A11 : Addr, p1 = some A11 ∧
 ∃ p13 : Option Addr, cellH B h10 (Addr.add (Addr.add A11 2) 1) = some (.pointer p13) ∧
 ∃ A14 : Addr, p1 = some A14 ∧
 ∃ p16 : Option Addr, cellH B h10 A14 = some (.pointer p16) ∧
 ∃ A17 : Addr, p16 = some A17 ∧
 ∃ p19 : Option Addr, cellH B h10 (Addr.add A17 1) = some (.pointer p19) ∧
 C_sheet_Sheet_Create B p13 p19 (i2) h10 (fun b21 h20 =>
 Fin B h20 (Q (i7)))) ∧ (¬ ((i7 : Int) = 0) →
 Fin B h10 (Q (i7))))
def S_attempt_Attempt_Remove (B : RO) (p1 : Option Addr) (i2 : Int) (h : Heap) (Q : Int → Heap → Prop) : Prop :=
 C_attempt_Attempt_touch B p1 (i2) h (fun b5 s6 i7 h4 =>
 ∀ k8 : Nat, h4 k8 = none → B k8 = none → ∀ h9 : Heap, h9 = Heap.set h4 k8 (.vec 119 (plains [(.bool false), (.string ByteArray.empty)]) 2) →
 ∃ h10 : Heap, StoresAt ⟨k8, 0, none⟩ h9 0 [(.bool b5), (.string s6)] h10 ∧
 ((i7 : Int) = 0 →
 ∃ A11 : Addr, p1 = some A11 ∧
 ∃ p13 : Option Addr, cellH B h10 (Addr.add (Addr.add A11 2) 1) = some (.pointer p13) ∧
 ∃ A14 : Addr, p1 = some A14 ∧
 ∃ p16 : Option Addr, cellH B h10 A14 = some (.pointer p16) ∧
 ∃ A17 : Addr, p16 = some A17 ∧
 ∃ p19 : Option Addr, cellH B h10 (Addr.add A17 1) = some (.pointer p19) ∧
 C_sheet_Sheet_Remove B p13 p19 (i2) h10 (fun b21 h20 =>
 Fin B h20 (Q (i7)))) ∧ (¬ ((i7 : Int) = 0) →
 Fin B h10 (Q (i7))))
def S_attempt_Attempt_Rename_J2 (B : RO) (p1 : Option Addr) (i2 : Int) (i3 : Int) (i15 : Int) (h16 : Heap) (Q : Int → Heap → Prop) : Prop :=
 ((i15 : Int) = 0 →
 ∃ A17 : Addr, p1 = some A17 ∧
 ∃ p19 : Option Addr, cellH B h16 (Addr.add (Addr.add A17 2) 1) = some (.pointer p19) ∧
 ∃ A20 : Addr, p1 = some A20 ∧
 ∃ p22 : Option Addr, cellH B h16 A20 = some (.pointer p22) ∧
 ∃ A23 : Addr, p22 = some A23 ∧
 ∃ p25 : Option Addr, cellH B h16 (Addr.add A23 1) = some (.pointer p25) ∧
 C_sheet_Sheet_Rename B p19 p25 (i2) (i3) h16 (fun b27 h26 =>
 Fin B h26 (Q (i15)))) ∧ (¬ ((i15 : Int) = 0) →
 Fin B h16 (Q (i15)))
def S_attempt_Attempt_Rename_J1 (B : RO) (p1 : Option Addr) (i2 : Int) (i3 : Int) (h6 : Heap) (Q : Int → Heap → Prop) : Prop :=
 C_attempt_Attempt_touch B p1 (i2) h6 (fun b8 s9 i10 h7 =>
 ∀ k11 : Nat, h7 k11 = none → B k11 = none → ∀ h12 : Heap, h12 = Heap.set h7 k11 (.vec 119 (plains [(.bool false), (.string ByteArray.empty)]) 2) →
 ∃ h13 : Heap, StoresAt ⟨k11, 0, none⟩ h12 0 [(.bool b8), (.string s9)] h13 ∧
 ((i10 : Int) = 0 →
 C_attempt_Attempt_touch B p1 (i3) h13 (fun b29 s30 i31 h28 =>
 Fin B h28 (fun h' => S_attempt_Attempt_Rename_J2 B p1 i2 i3 (i31) h' Q))) ∧ (¬ ((i10 : Int) = 0) →
 Fin B h13 (fun h' => S_attempt_Attempt_Rename_J2 B p1 i2 i3 (i10) h' Q)))
def S_attempt_Attempt_Rename (B : RO) (p1 : Option Addr) (i2 : Int) (i3 : Int) (h : Heap) (Q : Int → Heap → Prop) : Prop :=
 (p1 = none →
 Fin B h (fun h' => S_attempt_Attempt_Rename_J1 B p1 i2 i3 h' Q)) ∧ (¬ (p1 = none) →
 ((i3 : Int) < (0) →
 Fin B h (Q (1))) ∧ (¬ ((i3 : Int) < (0)) →
 ((i3 : Int) ≥ (6) →
 Fin B h (Q (1))) ∧ (¬ ((i3 : Int) ≥ (6)) →
 Fin B h (fun h' => S_attempt_Attempt_Rename_J1 B p1 i2 i3 h' Q))))
def S_attempt_Attempt_Cut (B : RO) (p1 : Option Addr) (i2 : Int) (i3 : Int) (h : Heap) (Q : Int → Heap → Prop) : Prop :=
 C_attempt_Attempt_touch B p1 (i2) h (fun b6 s7 i8 h5 =>
 ∀ k9 : Nat, h5 k9 = none → B k9 = none → ∀ h10 : Heap, h10 = Heap.set h5 k9 (.vec 119 (plains [(.bool false), (.string ByteArray.empty)]) 2) →
 ∃ h11 : Heap, StoresAt ⟨k9, 0, none⟩ h10 0 [(.bool b6), (.string s7)] h11 ∧
 ((i8 : Int) = 0 →
 ∃ A12 : Addr, p1 = some A12 ∧
 ∃ p14 : Option Addr, cellH B h11 (Addr.add (Addr.add A12 2) 1) = some (.pointer p14) ∧
 ∃ A15 : Addr, p1 = some A15 ∧
 ∃ p17 : Option Addr, cellH B h11 A15 = some (.pointer p17) ∧
 ∃ A18 : Addr, p17 = some A18 ∧
 ∃ p20 : Option Addr, cellH B h11 (Addr.add A18 1) = some (.pointer p20) ∧
 C_sheet_Sheet_Cut B p14 p20 (i2) (i3) h11 (fun b22 h21 =>
 Fin B h21 (Q (i8)))) ∧ (¬ ((i8 : Int) = 0) →
 Fin B h11 (Q (i8))))
def S_attempt_Attempt_Recv_J1 (B : RO) (p1 : Option Addr) (i2 : Int) (h6 : Heap) (Q : Int → Int → Heap → Prop) : Prop :=
 C_attempt_Attempt_note B p1 (2) (i2) h6 (fun i8 h7 =>
 ((i8 : Int) = 0 →
 ∃ A9 : Addr, p1 = some A9 ∧
 ∃ p11 : Option Addr, cellH B h7 A9 = some (.pointer p11) ∧
 ∃ A12 : Addr, p11 = some A12 ∧
 ∃ p14 : Option Addr, cellH B h7 (Addr.add A12 2) = some (.pointer p14) ∧
 C_feed_Feed_Place B p14 (i2) h7 (fun i16 i17 h15 =>
 ∃ A19 : Addr, p1 = some A19 ∧
 ∃ p23 : Option Addr, cellH B h15 A19 = some (.pointer p23) ∧
 ∃ A25 : Addr, p23 = some A25 ∧
 ∃ p29 : Option Addr, cellH B h15 (Addr.add A25 2) = some (.pointer p29) ∧
 ∃ A33 : Addr, p1 = some A33 ∧
 ∃ p38 : Option Addr, cellH B h15 (Addr.add (Addr.add A33 2) 2) = some (.pointer p38) ∧
 C_cursor_Cursor_At B p38 (i2) (i16) h15 (fun i43 h42 =>
 cellH B h42 A19 = some (.pointer p23) ∧ cellH B h42 (Addr.add A25 2) = some (.pointer p29) ∧ cellH B h42 (Addr.add (Addr.add A33 2) 2) = some (.pointer p38) ∧
 C_feed_Feed_At B p29 (i2) (i43) h42 (fun i48 h47 =>
 cellH B h47 A19 = some (.pointer p23) ∧ cellH B h47 (Addr.add A25 2) = some (.pointer p29) ∧ cellH B h47 (Addr.add (Addr.add A33 2) 2) = some (.pointer p38) ∧
 ((i48 : Int) < (0) →
 Fin B h47 (Q (0) (10))) ∧ (¬ ((i48 : Int) < (0)) →
 ∃ A52 : Addr, p1 = some A52 ∧
 ∃ p54 : Option Addr, cellH B h47 (Addr.add (Addr.add A52 2) 2) = some (.pointer p54) ∧
 C_cursor_Cursor_Step B p54 (i2) h47 (fun b56 h55 =>
 Fin B h55 (Q (i48) (0)))))))) ∧ (¬ ((i8 : Int) = 0) →
 Fin B h7 (Q (0) (i8))))
def S_attempt_Attempt_Recv (B : RO) (p1 : Option Addr) (i2 : Int) (h : Heap) (Q : Int → Int → Heap → Prop) : Prop :=
 (p1 = none →
 Fin B h (Q (0) (2))) ∧ (¬ (p1 = none) →
 ((i2 : Int) < (0) →
 Fin B h (Q (0) (1))) ∧ (¬ ((i2 : Int) < (0)) →
 ((i2 : Int) ≥ (3) →
 Fin B h (Q (0) (1))) ∧ (¬ ((i2 : Int) ≥ (3)) →
 Fin B h (fun h' => S_attempt_Attempt_Recv_J1 B p1 i2 h' Q))))
def S_feed_Feed_is (B : RO) (p1 : Option Addr) (i2 : Int) (h : Heap) (Q : Bool → Heap → Prop) : Prop :=
 (p1 = none →
 Fin B h (Q (false))) ∧ (¬ (p1 = none) →
 ((i2 : Int) ≥ (0) →
 Fin B h (Q ((decide ((i2 : Int) < (3)))))) ∧ (¬ ((i2 : Int) ≥ (0)) →
 Fin B h (Q (false))))
def S_countermandref09_At (B : RO) (b1 : Bool) (s2 : ByteArray) (i3 : Int) (h : Heap) (Q : Int → Heap → Prop) : Prop :=
 ∀ k5 : Nat, h k5 = none → B k5 = none → ∀ h6 : Heap, h6 = Heap.set h k5 (.vec 51 (plains [(.bool b1), (.string s2)]) 2) →
 ∃ (J12 : Int → Nat → Heap → Prop) (m10 : Nat), Fin B h6 (J12 (0) m10) ∧
 ∀ (i7 : Int) (m9 : Nat) (h8 : Heap), J12 i7 m9 h8 →
 ∃ s13 : ByteArray, cellH B h8 ⟨k5, 1, none⟩ = some (.string s13) ∧
 ((i7 : Int) < ((ByteArray.size s13 : Nat)) →
 ((i7 : Int) = i3 →
 ∃ s14 : ByteArray, cellH B h8 ⟨k5, 1, none⟩ = some (.string s14) ∧
 0 ≤ (i7 : Int) ∧ (i7 : Int) < (ByteArray.size s14 : Nat) ∧
 Fin B h8 (Q (IntKind.wrap .i64 (byteAt s14 (Int.toNat (i7)))))) ∧ (¬ ((i7 : Int) = i3) →
 Fin B h8 (fun h' => ∃ m', m' < m9 ∧ J12 (IntKind.wrap .i64 ((i7) + (1))) m' h'))) ∧ (¬ ((i7 : Int) < ((ByteArray.size s13 : Nat))) →
 Fin B h8 (Q ((-1))))
def S_countermandref14_Sheet_Write (B : RO) (p1 : Option Addr) (i2 : Int) (i3 : Int) (i4 : Int) (h : Heap) (Q : Bool → Heap → Prop) : Prop :=
 C_countermandref14_Is B (i2) h (fun b7 h6 =>
 (b7 = true →
 ∃ A10 : Addr, p1 = some A10 ∧
 0 ≤ (i2 : Int) ∧ (i2 : Int) < (6 : Nat) ∧
 ∃ b12 : Bool, ∃ s13 : ByteArray, CellsAt B h6 (Addr.add (Addr.add A10 12) (Int.toNat (i2) * 2)) 0 [(.bool b12), (.string s13)] ∧
 C_countermandref09_Put B (b12) s13 (i3) (i4) h6 (fun b15 s16 h14 =>
 C_countermandref14_Sheet_put B p1 (i2) (b15) s16 h14 (fun h17 =>
 C_countermandref14_Is B (i2) h17 (fun b19 h18 =>
 Fin B h18 (Q (b19)))))) ∧ (b7 = false →
 C_countermandref14_Is B (i2) h6 (fun b9 h8 =>
 Fin B h8 (Q (b9)))))
def S_countermandref14_Sheet_Create (B : RO) (p1 : Option Addr) (i2 : Int) (h : Heap) (Q : Bool → Heap → Prop) : Prop :=
 C_countermandref14_Is B (i2) h (fun b5 h4 =>
 (b5 = true →
 ∃ A8 : Addr, p1 = some A8 ∧
 0 ≤ (i2 : Int) ∧ (i2 : Int) < (6 : Nat) ∧
 ∃ s10 : ByteArray, cellH B h4 (Addr.add (Addr.add (Addr.add A8 12) (Int.toNat (i2) * 2)) 1) = some (.string s10) ∧
 C_countermandref14_Sheet_put B p1 (i2) (true) s10 h4 (fun h11 =>
 C_countermandref14_Is B (i2) h11 (fun b13 h12 =>
 Fin B h12 (Q (b13))))) ∧ (b5 = false →
 C_countermandref14_Is B (i2) h4 (fun b7 h6 =>
 Fin B h6 (Q (b7)))))
def S_countermandref14_Sheet_Remove (B : RO) (p1 : Option Addr) (i2 : Int) (h : Heap) (Q : Bool → Heap → Prop) : Prop :=
 C_countermandref14_Is B (i2) h (fun b5 h4 =>
 (b5 = true →
 C_countermandref14_Sheet_put B p1 (i2) (false) ByteArray.empty h4 (fun h8 =>
 C_countermandref14_Is B (i2) h8 (fun b10 h9 =>
 Fin B h9 (Q (b10))))) ∧ (b5 = false →
 C_countermandref14_Is B (i2) h4 (fun b7 h6 =>
 Fin B h6 (Q (b7)))))
def S_countermandref14_Sheet_Rename_J2 (B : RO) (p1 : Option Addr) (i2 : Int) (i3 : Int) (b8 : Bool) (h9 : Heap) (Q : Bool → Heap → Prop) : Prop :=
 (b8 = true →
 ∃ A10 : Addr, p1 = some A10 ∧
 0 ≤ (i2 : Int) ∧ (i2 : Int) < (6 : Nat) ∧
 ∃ b12 : Bool, ∃ s13 : ByteArray, CellsAt B h9 (Addr.add (Addr.add A10 12) (Int.toNat (i2) * 2)) 0 [(.bool b12), (.string s13)] ∧
 C_countermandref14_Sheet_put B p1 (i3) (b12) s13 h9 (fun h14 =>
 C_countermandref14_Sheet_put B p1 (i2) (false) ByteArray.empty h14 (fun h15 =>
 Fin B h15 (Q (true))))) ∧ (b8 = false →
 Fin B h9 (Q (true)))
def S_countermandref14_Sheet_Rename_J1 (B : RO) (p1 : Option Addr) (i2 : Int) (i3 : Int) (h6 : Heap) (Q : Bool → Heap → Prop) : Prop :=
 ∃ A16 : Addr, p1 = some A16 ∧
 0 ≤ (i2 : Int) ∧ (i2 : Int) < (6 : Nat) ∧
 ∃ b18 : Bool, cellH B h6 (Addr.add (Addr.add A16 12) (Int.toNat (i2) * 2)) = some (.bool b18) ∧ (b18 = true →
 ((i2 : Int) = i3 →
 Fin B h6 (fun h' => S_countermandref14_Sheet_Rename_J2 B p1 i2 i3 (false) h' Q)) ∧ (¬ ((i2 : Int) = i3) →
 Fin B h6 (fun h' => S_countermandref14_Sheet_Rename_J2 B p1 i2 i3 (true) h' Q))) ∧ (b18 = false →
 Fin B h6 (fun h' => S_countermandref14_Sheet_Rename_J2 B p1 i2 i3 (false) h' Q))
def S_countermandref14_Sheet_Rename (B : RO) (p1 : Option Addr) (i2 : Int) (i3 : Int) (h : Heap) (Q : Bool → Heap → Prop) : Prop :=
 C_countermandref14_Is B (i2) h (fun b20 h19 =>
 (b20 = true →
 C_countermandref14_Is B (i3) h19 (fun b22 h21 =>
 (b22 = true →
 Fin B h21 (fun h' => S_countermandref14_Sheet_Rename_J1 B p1 i2 i3 h' Q)) ∧ (b22 = false →
 Fin B h21 (Q (false))))) ∧ (b20 = false →
 Fin B h19 (Q (false))))
def S_countermandref14_Sheet_Cut (B : RO) (p1 : Option Addr) (i2 : Int) (i3 : Int) (h : Heap) (Q : Bool → Heap → Prop) : Prop :=
 C_countermandref14_Is B (i2) h (fun b6 h5 =>
 (b6 = true →
 ∃ A9 : Addr, p1 = some A9 ∧
 0 ≤ (i2 : Int) ∧ (i2 : Int) < (6 : Nat) ∧
 ∃ b11 : Bool, ∃ s12 : ByteArray, CellsAt B h5 (Addr.add (Addr.add A9 12) (Int.toNat (i2) * 2)) 0 [(.bool b11), (.string s12)] ∧
 C_countermandref09_Cut B (b11) s12 (i3) h5 (fun b14 s15 h13 =>
 C_countermandref14_Sheet_put B p1 (i2) (b14) s15 h13 (fun h16 =>
 C_countermandref14_Is B (i2) h16 (fun b18 h17 =>
 Fin B h17 (Q (b18)))))) ∧ (b6 = false →
 C_countermandref14_Is B (i2) h5 (fun b8 h7 =>
 Fin B h7 (Q (b8)))))
def S_cell_Row_int_Version (B : RO) (p1 : Option Addr) (i2 : Int) (h : Heap) (Q : Int → Heap → Prop) : Prop :=
 C_cell_Row_int_Get B p1 (i2) h (fun i5 i6 h4 =>
 Fin B h4 (Q (i6)))
def S_draft_Draft_int_Put (B : RO) (p1 : Option Addr) (i2 : Int) (i3 : Int) (h : Heap) (Q : Bool → Heap → Prop) : Prop :=
 (p1 = none →
 Fin B h (Q (false))) ∧ (¬ (p1 = none) →
 C_draft_Draft_int_find B p1 (i2) h (fun i7 b8 h6 =>
 (b8 = true →
 ∃ A24 : Addr, p1 = some A24 ∧
 LdSl B h6 A24 fun a26 n27 c28 h29 =>
 ∃ A30 : Addr, a26 = some A30 ∧ 0 ≤ (i7 : Int) ∧ (i7 : Int) < (n27 : Nat) ∧
 ∃ h32 : Heap, storeH h29 (Addr.add (Addr.add A30 (Int.toNat (i7) * 2)) 1) (.int .i64 (i3)) = some h32 ∧
 Fin B h32 (Q (true))) ∧ (b8 = false →
 ∃ A9 : Addr, p1 = some A9 ∧
 LdSl B h6 A9 fun a11 n12 c13 h14 =>
 ∀ k15 : Nat, h14 k15 = none → B k15 = none → ∀ h16 : Heap, h16 = Heap.set h14 k15 (.vec 163 (plains [(.int .i64 (i2)), (.int .i64 (i3))]) 2) →
 C_slices_Insert_s_draft_entry_int_draft_entry_int B a11 n12 c13 (i7) (some ⟨k15, 0, none⟩) 1 1 h16 (fun a18 n19 c20 h17 =>
 ∃ A21 : Addr, p1 = some A21 ∧
 ∃ h23 : Heap, storeH h17 A21 (.slice a18 n19 c20) = some h23 ∧
 Fin B h23 (Q (true))))))
def S_cell_New_int (B : RO) (i1 : Int) (i2 : Int) (h : Heap) (Q : Option Addr → Heap → Prop) : Prop :=
 ∀ k4 : Nat, h k4 = none → B k4 = none → ∀ h5 : Heap, h5 = Heap.set h k4 (.vec 172 (plains [(.slice none 0 0)]) 1) →
 ∃ (J11 : Int → Nat → Heap → Prop) (m9 : Nat), Fin B h5 (J11 (0) m9) ∧
 ∀ (i6 : Int) (m8 : Nat) (h7 : Heap), J11 i6 m8 h7 →
 ((i6 : Int) < (i1) →
 LdSl B h7 ⟨k4, 0, none⟩ fun a12 n13 c14 h15 =>
 ∀ k16 : Nat, h15 k16 = none → B k16 = none → ∀ h17 : Heap, h17 = Heap.set h15 k16 (.vec 169 (plains [(.int .i64 (i2)), (.int .i64 (0))]) 2) →
 semH PG B (Builtin.append_ #[170, 170] 170 #[(.slice a12 n13 c14), (.slice (some ⟨k16, 0, none⟩) 1 1)]) h17 (fun v h18 => ∃ a19 : Option Addr, ∃ n20 : Nat, ∃ c21 : Nat, v = (.slice a19 n20 c21) ∧
 ∃ h22 : Heap, storeH h18 ⟨k4, 0, none⟩ (.slice a19 n20 c21) = some h22 ∧
 Fin B h22 (fun h' => ∃ m', m' < m8 ∧ J11 (IntKind.wrap .i64 ((i6) + (1))) m' h'))) ∧ (¬ ((i6 : Int) < (i1)) →
 Fin B h7 (Q (some ⟨k4, 0, none⟩)))
def S_tome_New (B : RO) (h : Heap) (Q : Option Addr → Heap → Prop) : Prop :=
 C_cell_New_file_File B (6) (false) ByteArray.empty h (fun p3 h2 =>
 ∀ k4 : Nat, h2 k4 = none → B k4 = none → ∀ h5 : Heap, h5 = Heap.set h2 k4 (.vec 184 (plains [(.pointer p3)]) 1) →
 Fin B h5 (Q (some ⟨k4, 0, none⟩)))
def S_feed_New (B : RO) (h : Heap) (Q : Option Addr → Heap → Prop) : Prop :=
 C_cell_New_int B (3) (0) h (fun p3 h2 =>
 ∀ k4 : Nat, h2 k4 = none → B k4 = none → ∀ h5 : Heap, h5 = Heap.set h2 k4 (.vec 128 (plains [(.string ByteArray.empty), (.string ByteArray.empty), (.string ByteArray.empty), (.pointer p3)]) 4) →
 Fin B h5 (Q (some ⟨k4, 0, none⟩)))
def S_reads_New (B : RO) (i1 : Int) (h : Heap) (Q : Option Addr → Heap → Prop) : Prop :=
 ∀ k3 : Nat, h k3 = none → B k3 = none → ∀ h4 : Heap, h4 = Heap.set h k3 (.vec 137 (plains [(.slice none 0 0), (.int .i64 (i1))]) 2) →
 Fin B h4 (Q (some ⟨k3, 0, none⟩))
def S_mark_Fresh_J1 (B : RO) (k12 : Nat) (k14 : Nat) (i18 : Int) (i19 : Int) (i20 : Int) (i21 : Int) (A69 : Addr) (p70 : Option Addr) (A71 : Addr) (h72 : Heap) (Q : Option Addr → Option Addr → Option Addr → Int → Int → Int → Int → Heap → Prop) : Prop :=
 ∃ h74 : Heap, StoresAt ⟨k14, 0, none⟩ h72 0 [(.pointer (some A69)), (.pointer p70), (.pointer (some A71)), (.int .i64 (i18)), (.int .i64 (i19)), (.int .i64 (i20)), (.int .i64 (i21))] h74 ∧
 ∃ p75 : Option Addr, ∃ p76 : Option Addr, ∃ p77 : Option Addr, ∃ i78 : Int, ∃ i79 : Int, ∃ i80 : Int, ∃ i81 : Int, CellsAt B h74 ⟨k14, 0, none⟩ 0 [(.pointer p75), (.pointer p76), (.pointer p77), (.int .i64 (i78)), (.int .i64 (i79)), (.int .i64 (i80)), (.int .i64 (i81))] ∧ Fin B h74 (Q p75 p76 p77 (i78) (i79) (i80) (i81))
def S_mark_Fresh (B : RO) (i1 : Int) (i2 : Int) (i3 : Int) (i4 : Int) (h : Heap) (Q : Option Addr → Option Addr → Option Addr → Int → Int → Int → Int → Heap → Prop) : Prop :=
 ∀ k12 : Nat, h k12 = none → B k12 = none → ∀ h13 : Heap, h13 = Heap.set h k12 (.vec 26 (plains [(.int .i64 (i1)), (.int .i64 (i2)), (.int .i64 (i3)), (.int .i64 (i4))]) 4) →
 ∀ k14 : Nat, h13 k14 = none → B k14 = none → ∀ h15 : Heap, h15 = Heap.set h13 k14 (.vec 95 (plains [(.pointer none), (.pointer none), (.pointer none), (.int .i64 (0)), (.int .i64 (0)), (.int .i64 (0)), (.int .i64 (0))]) 7) →
 ∃ i18 : Int, ∃ i19 : Int, ∃ i20 : Int, ∃ i21 : Int, CellsAt B h15 ⟨k12, 0, none⟩ 0 [(.int .i64 (i18)), (.int .i64 (i19)), (.int .i64 (i20)), (.int .i64 (i21))] ∧
 (∀ k82 : Nat, h15 k82 = none → B k82 = none → ∀ h83 : Heap, h83 = Heap.set h15 k82 (.vec 166 (plains [(.slice none 0 0)]) 1) →
 CellsAt B h83 ⟨k12, 0, none⟩ 0 [(.int .i64 (i18)), (.int .i64 (i19)), (.int .i64 (i20)), (.int .i64 (i21))] ∧
 (C_sheet_New B h83 (fun p86 h85 =>
 CellsAt B h85 ⟨k12, 0, none⟩ 0 [(.int .i64 (i18)), (.int .i64 (i19)), (.int .i64 (i20)), (.int .i64 (i21))] ∧
 ∀ k88 : Nat, h85 k88 = none → B k88 = none → ∀ h89 : Heap, h89 = Heap.set h85 k88 (.vec 181 (plains [(.int .i64 (0)), (.int .i64 (0)), (.int .i64 (0))]) 3) →
 CellsAt B h89 ⟨k12, 0, none⟩ 0 [(.int .i64 (i18)), (.int .i64 (i19)), (.int .i64 (i20)), (.int .i64 (i21))] ∧
 S_mark_Fresh_J1 B k12 k14 i18 i19 i20 i21 ⟨k82, 0, none⟩ p86 ⟨k88, 0, none⟩ h89 Q)) ∧
 (∀ k91 : Nat, h83 k91 = none → B k91 = none → ∀ h92 : Heap, h92 = Heap.set h83 k91 (.vec 181 (plains [(.int .i64 (0)), (.int .i64 (0)), (.int .i64 (0))]) 3) →
 CellsAt B h92 ⟨k12, 0, none⟩ 0 [(.int .i64 (i18)), (.int .i64 (i19)), (.int .i64 (i20)), (.int .i64 (i21))] ∧
 C_sheet_New B h92 (fun p95 h94 =>
 CellsAt B h94 ⟨k12, 0, none⟩ 0 [(.int .i64 (i18)), (.int .i64 (i19)), (.int .i64 (i20)), (.int .i64 (i21))] ∧
 S_mark_Fresh_J1 B k12 k14 i18 i19 i20 i21 ⟨k82, 0, none⟩ p95 ⟨k91, 0, none⟩ h94 Q))) ∧
 (C_sheet_New B h15 (fun p98 h97 =>
 CellsAt B h97 ⟨k12, 0, none⟩ 0 [(.int .i64 (i18)), (.int .i64 (i19)), (.int .i64 (i20)), (.int .i64 (i21))] ∧
 (∀ k100 : Nat, h97 k100 = none → B k100 = none → ∀ h101 : Heap, h101 = Heap.set h97 k100 (.vec 166 (plains [(.slice none 0 0)]) 1) →
 CellsAt B h101 ⟨k12, 0, none⟩ 0 [(.int .i64 (i18)), (.int .i64 (i19)), (.int .i64 (i20)), (.int .i64 (i21))] ∧
 ∀ k103 : Nat, h101 k103 = none → B k103 = none → ∀ h104 : Heap, h104 = Heap.set h101 k103 (.vec 181 (plains [(.int .i64 (0)), (.int .i64 (0)), (.int .i64 (0))]) 3) →
 CellsAt B h104 ⟨k12, 0, none⟩ 0 [(.int .i64 (i18)), (.int .i64 (i19)), (.int .i64 (i20)), (.int .i64 (i21))] ∧
 S_mark_Fresh_J1 B k12 k14 i18 i19 i20 i21 ⟨k100, 0, none⟩ p98 ⟨k103, 0, none⟩ h104 Q) ∧
 (∀ k106 : Nat, h97 k106 = none → B k106 = none → ∀ h107 : Heap, h107 = Heap.set h97 k106 (.vec 181 (plains [(.int .i64 (0)), (.int .i64 (0)), (.int .i64 (0))]) 3) →
 CellsAt B h107 ⟨k12, 0, none⟩ 0 [(.int .i64 (i18)), (.int .i64 (i19)), (.int .i64 (i20)), (.int .i64 (i21))] ∧
 ∀ k109 : Nat, h107 k109 = none → B k109 = none → ∀ h110 : Heap, h110 = Heap.set h107 k109 (.vec 166 (plains [(.slice none 0 0)]) 1) →
 CellsAt B h110 ⟨k12, 0, none⟩ 0 [(.int .i64 (i18)), (.int .i64 (i19)), (.int .i64 (i20)), (.int .i64 (i21))] ∧
 S_mark_Fresh_J1 B k12 k14 i18 i19 i20 i21 ⟨k109, 0, none⟩ p98 ⟨k106, 0, none⟩ h110 Q))) ∧
 (∀ k112 : Nat, h15 k112 = none → B k112 = none → ∀ h113 : Heap, h113 = Heap.set h15 k112 (.vec 181 (plains [(.int .i64 (0)), (.int .i64 (0)), (.int .i64 (0))]) 3) →
 CellsAt B h113 ⟨k12, 0, none⟩ 0 [(.int .i64 (i18)), (.int .i64 (i19)), (.int .i64 (i20)), (.int .i64 (i21))] ∧
 (∀ k115 : Nat, h113 k115 = none → B k115 = none → ∀ h116 : Heap, h116 = Heap.set h113 k115 (.vec 166 (plains [(.slice none 0 0)]) 1) →
 CellsAt B h116 ⟨k12, 0, none⟩ 0 [(.int .i64 (i18)), (.int .i64 (i19)), (.int .i64 (i20)), (.int .i64 (i21))] ∧
 C_sheet_New B h116 (fun p119 h118 =>
 CellsAt B h118 ⟨k12, 0, none⟩ 0 [(.int .i64 (i18)), (.int .i64 (i19)), (.int .i64 (i20)), (.int .i64 (i21))] ∧
 S_mark_Fresh_J1 B k12 k14 i18 i19 i20 i21 ⟨k115, 0, none⟩ p119 ⟨k112, 0, none⟩ h118 Q)) ∧
 (C_sheet_New B h113 (fun p122 h121 =>
 CellsAt B h121 ⟨k12, 0, none⟩ 0 [(.int .i64 (i18)), (.int .i64 (i19)), (.int .i64 (i20)), (.int .i64 (i21))] ∧
 ∀ k124 : Nat, h121 k124 = none → B k124 = none → ∀ h125 : Heap, h125 = Heap.set h121 k124 (.vec 166 (plains [(.slice none 0 0)]) 1) →
 CellsAt B h125 ⟨k12, 0, none⟩ 0 [(.int .i64 (i18)), (.int .i64 (i19)), (.int .i64 (i20)), (.int .i64 (i21))] ∧
 S_mark_Fresh_J1 B k12 k14 i18 i19 i20 i21 ⟨k124, 0, none⟩ p122 ⟨k112, 0, none⟩ h125 Q)))
def S_mark_Stack_Push (B : RO) (p1 : Option Addr) (p2 : Option Addr) (p3 : Option Addr) (p4 : Option Addr) (i5 : Int) (i6 : Int) (i7 : Int) (i8 : Int) (i9 : Int) (i10 : Int) (i11 : Int) (i12 : Int) (i13 : Int) (h : Heap) (Q : Bool → Heap → Prop) : Prop :=
 ∀ k15 : Nat, h k15 = none → B k15 = none → ∀ h16 : Heap, h16 = Heap.set h k15 (.vec 152 (plains [(.pointer p2), (.pointer p3), (.pointer p4), (.int .i64 (i5)), (.int .i64 (i6)), (.int .i64 (i7)), (.int .i64 (i8)), (.int .i64 (i9)), (.int .i64 (i10)), (.int .i64 (i11)), (.int .i64 (i12)), (.int .i64 (i13))]) 12) →
 (p1 = none →
 Fin B h16 (Q (false))) ∧ (¬ (p1 = none) →
 ∃ p18 : Option Addr, ∃ p19 : Option Addr, ∃ p20 : Option Addr, ∃ i21 : Int, ∃ i22 : Int, ∃ i23 : Int, ∃ i24 : Int, CellsAt B h16 ⟨k15, 0, none⟩ 0 [(.pointer p18), (.pointer p19), (.pointer p20), (.int .i64 (i21)), (.int .i64 (i22)), (.int .i64 (i23)), (.int .i64 (i24))] ∧
 C_mark_State_Copy B p18 p19 p20 (i21) (i22) (i23) (i24) h16 (fun p26 p27 p28 i29 i30 i31 i32 h25 =>
 ∃ h33 : Heap, StoresAt ⟨k15, 0, none⟩ h25 0 [(.pointer p26), (.pointer p27), (.pointer p28), (.int .i64 (i29)), (.int .i64 (i30)), (.int .i64 (i31)), (.int .i64 (i32))] h33 ∧
 ∃ A36 : Addr, p1 = some A36 ∧
 ∃ a40 : Option Addr, ∃ n41 : Nat, ∃ c42 : Nat, cellH B h33 A36 = some (.slice a40 n41 c42) ∧
 ∃ p44 : Option Addr, ∃ p45 : Option Addr, ∃ p46 : Option Addr, ∃ i47 : Int, ∃ i48 : Int, ∃ i49 : Int, ∃ i50 : Int, ∃ i51 : Int, ∃ i52 : Int, ∃ i53 : Int, ∃ i54 : Int, ∃ i55 : Int, CellsAt B h33 ⟨k15, 0, none⟩ 0 [(.pointer p44), (.pointer p45), (.pointer p46), (.int .i64 (i47)), (.int .i64 (i48)), (.int .i64 (i49)), (.int .i64 (i50)), (.int .i64 (i51)), (.int .i64 (i52)), (.int .i64 (i53)), (.int .i64 (i54)), (.int .i64 (i55))] ∧
 ∀ k57 : Nat, h33 k57 = none → B k57 = none → ∀ h58 : Heap, h58 = Heap.set h33 k57 (.vec 152 (plains [(.pointer p44), (.pointer p45), (.pointer p46), (.int .i64 (i47)), (.int .i64 (i48)), (.int .i64 (i49)), (.int .i64 (i50)), (.int .i64 (i51)), (.int .i64 (i52)), (.int .i64 (i53)), (.int .i64 (i54)), (.int .i64 (i55))]) 12) →
 cellH B h58 A36 = some (.slice a40 n41 c42) ∧ CellsAt B h58 ⟨k15, 0, none⟩ 0 [(.pointer p44), (.pointer p45), (.pointer p46), (.int .i64 (i47)), (.int .i64 (i48)), (.int .i64 (i49)), (.int .i64 (i50)), (.int .i64 (i51)), (.int .i64 (i52)), (.int .i64 (i53)), (.int .i64 (i54)), (.int .i64 (i55))] ∧
 semH PG B (Builtin.append_ #[145, 145] 145 #[(.slice a40 n41 c42), (.slice (some ⟨k57, 0, none⟩) 1 1)]) h58 (fun v h61 => ∃ a62 : Option Addr, ∃ n63 : Nat, ∃ c64 : Nat, v = (.slice a62 n63 c64) ∧
 cellH B h61 A36 = some (.slice a40 n41 c42) ∧ CellsAt B h61 ⟨k15, 0, none⟩ 0 [(.pointer p44), (.pointer p45), (.pointer p46), (.int .i64 (i47)), (.int .i64 (i48)), (.int .i64 (i49)), (.int .i64 (i50)), (.int .i64 (i51)), (.int .i64 (i52)), (.int .i64 (i53)), (.int .i64 (i54)), (.int .i64 (i55))] ∧
 ∃ A67 : Addr, p1 = some A67 ∧
 ∃ h69 : Heap, storeH h61 A67 (.slice a62 n63 c64) = some h69 ∧
 Fin B h69 (Q (true)))))
def S_acts_Acts_Mark (B : RO) (p1 : Option Addr) (h : Heap) (Q : Int → Int → Int → Int → Heap → Prop) : Prop :=
 ∀ k6 : Nat, h k6 = none → B k6 = none → ∀ h7 : Heap, h7 = Heap.set h k6 (.vec 149 (plains [(.int .i64 (0)), (.int .i64 (0)), (.int .i64 (0)), (.int .i64 (0))]) 4) →
 (p1 = none →
 ∃ h9 : Heap, StoresAt ⟨k6, 0, none⟩ h7 0 [(.int .i64 (0)), (.int .i64 (0)), (.int .i64 (0)), (.int .i64 (0))] h9 ∧
 ∃ i10 : Int, ∃ i11 : Int, ∃ i12 : Int, ∃ i13 : Int, CellsAt B h9 ⟨k6, 0, none⟩ 0 [(.int .i64 (i10)), (.int .i64 (i11)), (.int .i64 (i12)), (.int .i64 (i13))] ∧ Fin B h9 (Q (i10) (i11) (i12) (i13))) ∧ (¬ (p1 = none) →
 ∃ A14 : Addr, p1 = some A14 ∧
 ∃ a16 : Option Addr, ∃ n17 : Nat, ∃ c18 : Nat, cellH B h7 A14 = some (.slice a16 n17 c18) ∧
 ∃ A19 : Addr, p1 = some A19 ∧
 ∃ a21 : Option Addr, ∃ n22 : Nat, ∃ c23 : Nat, cellH B h7 (Addr.add A19 1) = some (.slice a21 n22 c23) ∧
 ∃ A24 : Addr, p1 = some A24 ∧
 ∃ a26 : Option Addr, ∃ n27 : Nat, ∃ c28 : Nat, cellH B h7 (Addr.add A24 2) = some (.slice a26 n27 c28) ∧
 ∃ A29 : Addr, p1 = some A29 ∧
 ∃ a31 : Option Addr, ∃ n32 : Nat, ∃ c33 : Nat, cellH B h7 (Addr.add A29 3) = some (.slice a31 n32 c33) ∧
 ∃ h34 : Heap, StoresAt ⟨k6, 0, none⟩ h7 0 [(.int .i64 ((n17 : Nat))), (.int .i64 ((n22 : Nat))), (.int .i64 ((n27 : Nat))), (.int .i64 ((n32 : Nat)))] h34 ∧
 ∃ i35 : Int, ∃ i36 : Int, ∃ i37 : Int, ∃ i38 : Int, CellsAt B h34 ⟨k6, 0, none⟩ 0 [(.int .i64 (i35)), (.int .i64 (i36)), (.int .i64 (i37)), (.int .i64 (i38))] ∧ Fin B h34 (Q (i35) (i36) (i37) (i38)))
def S_mark_Stack_Pop_J1 (B : RO) (p1 : Option Addr) (k15 : Nat) (h18 : Heap) (Q : Option Addr → Option Addr → Option Addr → Int → Int → Int → Int → Int → Int → Int → Int → Int → Bool → Heap → Prop) : Prop :=
 ∃ A19 : Addr, p1 = some A19 ∧
 LdSl B h18 A19 fun a21 n22 c23 h24 =>
 ∃ A25 : Addr, p1 = some A25 ∧
 LdSl B h24 A25 fun a27 n28 c29 h30 =>
 ∃ A31 : Addr, a27 = some A31 ∧ 0 ≤ (IntKind.wrap .i64 (((n22 : Nat)) - (1)) : Int) ∧ (IntKind.wrap .i64 (((n22 : Nat)) - (1)) : Int) < (n28 : Nat) ∧
 ∃ p33 : Option Addr, ∃ p34 : Option Addr, ∃ p35 : Option Addr, ∃ i36 : Int, ∃ i37 : Int, ∃ i38 : Int, ∃ i39 : Int, ∃ i40 : Int, ∃ i41 : Int, ∃ i42 : Int, ∃ i43 : Int, ∃ i44 : Int, CellsAt B h30 (Addr.add A31 (Int.toNat (IntKind.wrap .i64 (((n22 : Nat)) - (1))) * 12)) 0 [(.pointer p33), (.pointer p34), (.pointer p35), (.int .i64 (i36)), (.int .i64 (i37)), (.int .i64 (i38)), (.int .i64 (i39)), (.int .i64 (i40)), (.int .i64 (i41)), (.int .i64 (i42)), (.int .i64 (i43)), (.int .i64 (i44))] ∧
 ∀ k45 : Nat, h30 k45 = none → B k45 = none → ∀ h46 : Heap, h46 = Heap.set h30 k45 (.vec 152 (plains [(.pointer none), (.pointer none), (.pointer none), (.int .i64 (0)), (.int .i64 (0)), (.int .i64 (0)), (.int .i64 (0)), (.int .i64 (0)), (.int .i64 (0)), (.int .i64 (0)), (.int .i64 (0)), (.int .i64 (0))]) 12) →
 ∃ h47 : Heap, StoresAt ⟨k45, 0, none⟩ h46 0 [(.pointer p33), (.pointer p34), (.pointer p35), (.int .i64 (i36)), (.int .i64 (i37)), (.int .i64 (i38)), (.int .i64 (i39)), (.int .i64 (i40)), (.int .i64 (i41)), (.int .i64 (i42)), (.int .i64 (i43)), (.int .i64 (i44))] h47 ∧
 ∃ A48 : Addr, p1 = some A48 ∧
 LdSl B h47 A48 fun a50 n51 c52 h53 =>
 C_slices_Delete_s_mark_Mark_mark_Mark B a50 n51 c52 (IntKind.wrap .i64 (((n22 : Nat)) - (1))) (IntKind.wrap .i64 ((IntKind.wrap .i64 (((n22 : Nat)) - (1))) + (1))) h53 (fun a55 n56 c57 h54 =>
 ∃ A58 : Addr, p1 = some A58 ∧
 ∃ h60 : Heap, storeH h54 A58 (.slice a55 n56 c57) = some h60 ∧
 ∃ p61 : Option Addr, ∃ p62 : Option Addr, ∃ p63 : Option Addr, ∃ i64 : Int, ∃ i65 : Int, ∃ i66 : Int, ∃ i67 : Int, ∃ i68 : Int, ∃ i69 : Int, ∃ i70 : Int, ∃ i71 : Int, ∃ i72 : Int, CellsAt B h60 ⟨k45, 0, none⟩ 0 [(.pointer p61), (.pointer p62), (.pointer p63), (.int .i64 (i64)), (.int .i64 (i65)), (.int .i64 (i66)), (.int .i64 (i67)), (.int .i64 (i68)), (.int .i64 (i69)), (.int .i64 (i70)), (.int .i64 (i71)), (.int .i64 (i72))] ∧
 ∃ h73 : Heap, StoresAt ⟨k15, 0, none⟩ h60 0 [(.pointer p61), (.pointer p62), (.pointer p63), (.int .i64 (i64)), (.int .i64 (i65)), (.int .i64 (i66)), (.int .i64 (i67)), (.int .i64 (i68)), (.int .i64 (i69)), (.int .i64 (i70)), (.int .i64 (i71)), (.int .i64 (i72))] h73 ∧
 ∃ p74 : Option Addr, ∃ p75 : Option Addr, ∃ p76 : Option Addr, ∃ i77 : Int, ∃ i78 : Int, ∃ i79 : Int, ∃ i80 : Int, ∃ i81 : Int, ∃ i82 : Int, ∃ i83 : Int, ∃ i84 : Int, ∃ i85 : Int, CellsAt B h73 ⟨k15, 0, none⟩ 0 [(.pointer p74), (.pointer p75), (.pointer p76), (.int .i64 (i77)), (.int .i64 (i78)), (.int .i64 (i79)), (.int .i64 (i80)), (.int .i64 (i81)), (.int .i64 (i82)), (.int .i64 (i83)), (.int .i64 (i84)), (.int .i64 (i85))] ∧ Fin B h73 (Q p74 p75 p76 (i77) (i78) (i79) (i80) (i81) (i82) (i83) (i84) (i85) (true)))
def S_mark_Stack_Pop (B : RO) (p1 : Option Addr) (h : Heap) (Q : Option Addr → Option Addr → Option Addr → Int → Int → Int → Int → Int → Int → Int → Int → Int → Bool → Heap → Prop) : Prop :=
 ∀ k15 : Nat, h k15 = none → B k15 = none → ∀ h16 : Heap, h16 = Heap.set h k15 (.vec 152 (plains [(.pointer none), (.pointer none), (.pointer none), (.int .i64 (0)), (.int .i64 (0)), (.int .i64 (0)), (.int .i64 (0)), (.int .i64 (0)), (.int .i64 (0)), (.int .i64 (0)), (.int .i64 (0)), (.int .i64 (0))]) 12) →
 (p1 = none →
 ∃ h87 : Heap, StoresAt ⟨k15, 0, none⟩ h16 0 [(.pointer none), (.pointer none), (.pointer none), (.int .i64 (0)), (.int .i64 (0)), (.int .i64 (0)), (.int .i64 (0)), (.int .i64 (0)), (.int .i64 (0)), (.int .i64 (0)), (.int .i64 (0)), (.int .i64 (0))] h87 ∧
 ∃ p88 : Option Addr, ∃ p89 : Option Addr, ∃ p90 : Option Addr, ∃ i91 : Int, ∃ i92 : Int, ∃ i93 : Int, ∃ i94 : Int, ∃ i95 : Int, ∃ i96 : Int, ∃ i97 : Int, ∃ i98 : Int, ∃ i99 : Int, CellsAt B h87 ⟨k15, 0, none⟩ 0 [(.pointer p88), (.pointer p89), (.pointer p90), (.int .i64 (i91)), (.int .i64 (i92)), (.int .i64 (i93)), (.int .i64 (i94)), (.int .i64 (i95)), (.int .i64 (i96)), (.int .i64 (i97)), (.int .i64 (i98)), (.int .i64 (i99))] ∧ Fin B h87 (Q p88 p89 p90 (i91) (i92) (i93) (i94) (i95) (i96) (i97) (i98) (i99) (false))) ∧ (¬ (p1 = none) →
 ∃ A100 : Addr, p1 = some A100 ∧
 LdSl B h16 A100 fun a102 n103 c104 h105 =>
 (((n103 : Nat) : Int) = 0 →
 ∃ h106 : Heap, StoresAt ⟨k15, 0, none⟩ h105 0 [(.pointer none), (.pointer none), (.pointer none), (.int .i64 (0)), (.int .i64 (0)), (.int .i64 (0)), (.int .i64 (0)), (.int .i64 (0)), (.int .i64 (0)), (.int .i64 (0)), (.int .i64 (0)), (.int .i64 (0))] h106 ∧
 ∃ p107 : Option Addr, ∃ p108 : Option Addr, ∃ p109 : Option Addr, ∃ i110 : Int, ∃ i111 : Int, ∃ i112 : Int, ∃ i113 : Int, ∃ i114 : Int, ∃ i115 : Int, ∃ i116 : Int, ∃ i117 : Int, ∃ i118 : Int, CellsAt B h106 ⟨k15, 0, none⟩ 0 [(.pointer p107), (.pointer p108), (.pointer p109), (.int .i64 (i110)), (.int .i64 (i111)), (.int .i64 (i112)), (.int .i64 (i113)), (.int .i64 (i114)), (.int .i64 (i115)), (.int .i64 (i116)), (.int .i64 (i117)), (.int .i64 (i118))] ∧ Fin B h106 (Q p107 p108 p109 (i110) (i111) (i112) (i113) (i114) (i115) (i116) (i117) (i118) (false))) ∧ (¬ (((n103 : Nat) : Int) = 0) →
 Fin B h105 (fun h' => S_mark_Stack_Pop_J1 B p1 k15 h' Q)))
def S_acts_Acts_Back (B : RO) (p1 : Option Addr) (i2 : Int) (i3 : Int) (i4 : Int) (i5 : Int) (h : Heap) (Q : Option Addr → Nat → Nat → Heap → Prop) : Prop :=
 ∀ k9 : Nat, h k9 = none → B k9 = none → ∀ h10 : Heap, h10 = Heap.set h k9 (.vec 149 (plains [(.int .i64 (i2)), (.int .i64 (i3)), (.int .i64 (i4)), (.int .i64 (i5))]) 4) →
 (p1 = none →
 Fin B h10 (Q none 0 0)) ∧ (¬ (p1 = none) →
 ∃ A14 : Addr, p1 = some A14 ∧
 ∃ a18 : Option Addr, ∃ n19 : Nat, ∃ c20 : Nat, cellH B h10 A14 = some (.slice a18 n19 c20) ∧
 0 ≤ (0 : Int) ∧ (0 : Int) < (4 : Nat) ∧
 ∃ i25 : Int, cellH B h10 ⟨k9, 0, none⟩ = some (.int .i64 (i25)) ∧
 C_acts_first_acts_Out B a18 n19 c20 (i25) h10 (fun a28 n29 c30 h27 =>
 cellH B h27 A14 = some (.slice a18 n19 c20) ∧ cellH B h27 ⟨k9, 0, none⟩ = some (.int .i64 (i25)) ∧
 ∃ A33 : Addr, p1 = some A33 ∧
 ∃ h35 : Heap, storeH h27 A33 (.slice a28 n29 c30) = some h35 ∧
 ∃ A38 : Addr, p1 = some A38 ∧
 ∃ a42 : Option Addr, ∃ n43 : Nat, ∃ c44 : Nat, cellH B h35 (Addr.add A38 1) = some (.slice a42 n43 c44) ∧
 0 ≤ (1 : Int) ∧ (1 : Int) < (4 : Nat) ∧
 ∃ i49 : Int, cellH B h35 ⟨k9, 1, none⟩ = some (.int .i64 (i49)) ∧
 C_acts_first_acts_Out B a42 n43 c44 (i49) h35 (fun a52 n53 c54 h51 =>
 cellH B h51 (Addr.add A38 1) = some (.slice a42 n43 c44) ∧ cellH B h51 ⟨k9, 1, none⟩ = some (.int .i64 (i49)) ∧
 ∃ A57 : Addr, p1 = some A57 ∧
 ∃ h59 : Heap, storeH h51 (Addr.add A57 1) (.slice a52 n53 c54) = some h59 ∧
 ∃ A62 : Addr, p1 = some A62 ∧
 ∃ a66 : Option Addr, ∃ n67 : Nat, ∃ c68 : Nat, cellH B h59 (Addr.add A62 2) = some (.slice a66 n67 c68) ∧
 0 ≤ (2 : Int) ∧ (2 : Int) < (4 : Nat) ∧
 ∃ i73 : Int, cellH B h59 ⟨k9, 2, none⟩ = some (.int .i64 (i73)) ∧
 C_acts_first_int B a66 n67 c68 (i73) h59 (fun a76 n77 c78 h75 =>
 cellH B h75 (Addr.add A62 2) = some (.slice a66 n67 c68) ∧ cellH B h75 ⟨k9, 2, none⟩ = some (.int .i64 (i73)) ∧
 ∃ A81 : Addr, p1 = some A81 ∧
 ∃ h83 : Heap, storeH h75 (Addr.add A81 2) (.slice a76 n77 c78) = some h83 ∧
 ∃ A85 : Addr, p1 = some A85 ∧
 ∃ a89 : Option Addr, ∃ n90 : Nat, ∃ c91 : Nat, cellH B h83 (Addr.add A85 3) = some (.slice a89 n90 c91) ∧
 0 ≤ (3 : Int) ∧ (3 : Int) < (4 : Nat) ∧
 ∃ i96 : Int, cellH B h83 ⟨k9, 3, none⟩ = some (.int .i64 (i96)) ∧
 C_acts_first_acts_Open B a89 n90 c91 (i96) h83 (fun a99 n100 c101 h98 =>
 cellH B h98 (Addr.add A85 3) = some (.slice a89 n90 c91) ∧ cellH B h98 ⟨k9, 3, none⟩ = some (.int .i64 (i96)) ∧
 ∃ A104 : Addr, p1 = some A104 ∧
 LdSl B h98 (Addr.add A104 3) fun a106 n107 c108 h109 =>
 0 ≤ ((n100 : Nat) : Int) ∧ ((n100 : Nat) : Int) ≤ ((n107 : Nat) : Int) ∧ ((n107 : Nat) : Int) ≤ (c108 : Nat) ∧
 C_acts_undo B (if c108 = Int.toNat ((n100 : Nat)) then a106 else Option.map (·.add (Int.toNat ((n100 : Nat)) * 2)) a106) (Int.toNat ((n107 : Nat)) - Int.toNat ((n100 : Nat))) (c108 - Int.toNat ((n100 : Nat))) h109 (fun a111 n112 c113 h110 =>
 ∃ A114 : Addr, p1 = some A114 ∧
 ∃ h116 : Heap, storeH h110 (Addr.add A114 3) (.slice a99 n100 c101) = some h116 ∧
 Fin B h116 (Q a111 n112 c113)))))))
def S_sheet_Sheet_Draft (B : RO) (p1 : Option Addr) (h : Heap) (Q : Option Addr → Heap → Prop) : Prop :=
 (p1 = none →
 Fin B h (Q none)) ∧ (¬ (p1 = none) →
 ∃ A4 : Addr, p1 = some A4 ∧
 ∃ p6 : Option Addr, cellH B h A4 = some (.pointer p6) ∧
 Fin B h (Q p6))
def S_draft_Draft_int_find (B : RO) (p1 : Option Addr) (i2 : Int) (h : Heap) (Q : Int → Bool → Heap → Prop) : Prop :=
 ∃ A5 : Addr, p1 = some A5 ∧
 LdSl B h A5 fun a7 n8 c9 h10 =>
 C_slices_BinarySearchFunc_s_draft_entry_int_draft_entry_int_int B a7 n8 c9 (i2) (Value.func (.func 115) #[] #[]) h10 (fun i12 b13 h11 =>
 Fin B h11 (Q (i12) (b13)))
def S_reads_Set_Note_J1 (B : RO) (p1 : Option Addr) (i3 : Int) (i4 : Int) (i11 : Int) (h24 : Heap) (Q : Bool → Heap → Prop) : Prop :=
 ∃ A25 : Addr, p1 = some A25 ∧
 LdSl B h24 A25 fun a27 n28 c29 h30 =>
 ∀ k31 : Nat, h30 k31 = none → B k31 = none → ∀ h32 : Heap, h32 = Heap.set h30 k31 (.vec 174 (plains [(.int .i64 (i3)), (.int .i64 (i4)), (.int .i64 (i11))]) 3) →
 semH PG B (Builtin.append_ #[135, 135] 135 #[(.slice a27 n28 c29), (.slice (some ⟨k31, 0, none⟩) 1 1)]) h32 (fun v h33 => ∃ a34 : Option Addr, ∃ n35 : Nat, ∃ c36 : Nat, v = (.slice a34 n35 c36) ∧
 ∃ A37 : Addr, p1 = some A37 ∧
 ∃ h39 : Heap, storeH h33 A37 (.slice a34 n35 c36) = some h39 ∧
 Fin B h39 (Q (true)))
def S_reads_Set_Note (B : RO) (p1 : Option Addr) (l2 : List Value) (i3 : Int) (i4 : Int) (h : Heap) (Q : Bool → Heap → Prop) : Prop :=
 ∀ k6 : Nat, h k6 = none → B k6 = none → ∀ h7 : Heap, h7 = Heap.set h k6 (.vec 65 (plains l2) (List.length l2)) →
 (p1 = none →
 Fin B h7 (Q (false))) ∧ (¬ (p1 = none) →
 ∃ l9 : List Value, List.length l9 = 25 ∧ CellsAt B h7 ⟨k6, 0, none⟩ 0 l9 ∧
 C_reads_Now_Of B l9 (i3) (i4) h7 (fun i11 h10 =>
 C_reads_Set_place B p1 (i3) (i4) h10 (fun i13 h12 =>
 ((i13 : Int) ≥ (0) →
 ∃ A14 : Addr, p1 = some A14 ∧
 LdSl B h12 A14 fun a16 n17 c18 h19 =>
 ∃ A20 : Addr, a16 = some A20 ∧ 0 ≤ (i13 : Int) ∧ (i13 : Int) < (n17 : Nat) ∧
 ∃ i22 : Int, cellH B h19 (Addr.add (Addr.add A20 (Int.toNat (i13) * 3)) 2) = some (.int .i64 (i22)) ∧
 Fin B h19 (Q (((i22 : Int) == (i11))))) ∧ (¬ ((i13 : Int) ≥ (0)) →
 ∃ A40 : Addr, p1 = some A40 ∧
 ∃ i42 : Int, cellH B h12 (Addr.add A40 1) = some (.int .i64 (i42)) ∧
 ((i11 : Int) > (i42) →
 ∃ l43 : List Value, List.length l43 = 25 ∧ CellsAt B h12 ⟨k6, 0, none⟩ 0 l43 ∧
 C_reads_Set_Valid B p1 l43 h12 (fun b45 h44 =>
 (b45 = true →
 ∃ i46 : Int, cellH B h44 ⟨k6, 24, none⟩ = some (.int .i64 (i46)) ∧
 ∃ A47 : Addr, p1 = some A47 ∧
 ∃ h49 : Heap, storeH h44 (Addr.add A47 1) (.int .i64 (i46)) = some h49 ∧
 Fin B h49 (fun h' => S_reads_Set_Note_J1 B p1 i3 i4 i11 h' Q)) ∧ (b45 = false →
 Fin B h44 (Q (false))))) ∧ (¬ ((i11 : Int) > (i42)) →
 Fin B h12 (fun h' => S_reads_Set_Note_J1 B p1 i3 i4 i11 h' Q))))))
def S_cell_Row_int_is (B : RO) (p1 : Option Addr) (i2 : Int) (h : Heap) (Q : Bool → Heap → Prop) : Prop :=
 (p1 = none →
 Fin B h (Q (false))) ∧ (¬ (p1 = none) →
 ((i2 : Int) ≥ (0) →
 ∃ A5 : Addr, p1 = some A5 ∧
 LdSl B h A5 fun a7 n8 c9 h10 =>
 Fin B h10 (Q ((decide ((i2 : Int) < ((n8 : Nat))))))) ∧ (¬ ((i2 : Int) ≥ (0)) →
 Fin B h (Q (false))))
def S_reads_Now_Of_J1 (B : RO) (i2 : Int) (i3 : Int) (k5 : Nat) (h8 : Heap) (Q : Int → Heap → Prop) : Prop :=
 0 ≤ (i2 : Int) ∧ (i2 : Int) < (3 : Nat) ∧
 0 ≤ (i3 : Int) ∧ (i3 : Int) < (8 : Nat) ∧
 ∃ i9 : Int, cellH B h8 (Addr.add (Addr.add ⟨k5, 0, none⟩ (Int.toNat (i2) * 8)) (Int.toNat (i3) * 1)) = some (.int .i64 (i9)) ∧
 Fin B h8 (Q (i9))
def S_reads_Now_Of (B : RO) (l1 : List Value) (i2 : Int) (i3 : Int) (h : Heap) (Q : Int → Heap → Prop) : Prop :=
 ∀ k5 : Nat, h k5 = none → B k5 = none → ∀ h6 : Heap, h6 = Heap.set h k5 (.vec 65 (plains l1) (List.length l1)) →
 ((i2 : Int) < (0) →
 Fin B h6 (Q (0))) ∧ (¬ ((i2 : Int) < (0)) →
 ((i2 : Int) > (2) →
 Fin B h6 (Q (0))) ∧ (¬ ((i2 : Int) > (2)) →
 ((i3 : Int) < (0) →
 Fin B h6 (Q (0))) ∧ (¬ ((i3 : Int) < (0)) →
 ((i3 : Int) ≥ (8) →
 Fin B h6 (Q (0))) ∧ (¬ ((i3 : Int) ≥ (8)) →
 Fin B h6 (fun h' => S_reads_Now_Of_J1 B i2 i3 k5 h' Q)))))
def S_draft_Draft_int_All_1 (B : RO) (v1 : Value) (A2 : Addr) (h : Heap) (Q : Heap → Prop) : Prop :=
 ∃ p3 : Option Addr, cellH B h A2 = some (.pointer p3) ∧
 (p3 = none →
 Fin B h (Q)) ∧ (¬ (p3 = none) →
 ∃ p5 : Option Addr, cellH B h A2 = some (.pointer p5) ∧
 ∃ A6 : Addr, p5 = some A6 ∧
 LdSl B h A6 fun a8 n9 c10 h11 =>
 ∃ (J17 : Int → Nat → Heap → Prop) (m15 : Nat), Fin B h11 (J17 (0) m15) ∧
 ∀ (i12 : Int) (m14 : Nat) (h13 : Heap), J17 i12 m14 h13 →
 ((i12 : Int) < ((n9 : Nat)) →
 ∃ A18 : Addr, a8 = some A18 ∧ 0 ≤ (i12 : Int) ∧ (i12 : Int) < (n9 : Nat) ∧
 ∃ i20 : Int, ∃ i21 : Int, CellsAt B h13 (Addr.add A18 (Int.toNat (i12) * 2)) 0 [(.int .i64 (i20)), (.int .i64 (i21))] ∧
 ∀ k22 : Nat, h13 k22 = none → B k22 = none → ∀ h23 : Heap, h23 = Heap.set h13 k22 (.vec 163 (plains [(.int .i64 (0)), (.int .i64 (0))]) 2) →
 ∃ h24 : Heap, StoresAt ⟨k22, 0, none⟩ h23 0 [(.int .i64 (i20)), (.int .i64 (i21))] h24 ∧
 ∃ i25 : Int, cellH B h24 ⟨k22, 0, none⟩ = some (.int .i64 (i25)) ∧
 ∃ i26 : Int, cellH B h24 ⟨k22, 1, none⟩ = some (.int .i64 (i26)) ∧
 CallV PG B v1 [(.int .i64 (i25)), (.int .i64 (i26))] h24 (fun v h27 => ∃ b28 : Bool, v = (.bool b28) ∧
 (b28 = true →
 Fin B h27 (fun h' => ∃ m', m' < m14 ∧ J17 (IntKind.wrap .i64 ((i12) + (1))) m' h')) ∧ (b28 = false →
 Fin B h27 (Q)))) ∧ (¬ ((i12 : Int) < ((n9 : Nat))) →
 Fin B h13 (Q)))
def S_draft_Draft_file_File_All (B : RO) (p1 : Option Addr) (h : Heap) (Q : Value → Heap → Prop) : Prop :=
 ∀ k3 : Nat, h k3 = none → B k3 = none → ∀ h4 : Heap, h4 = Heap.set h k3 (.vec 157 [.plain (.pointer p1)] 1) →
 Fin B h4 (Q (Value.func (.func 117) #[] #[(.pointer (some ⟨k3, 0, none⟩))]))
def S_tome_Tome_Set_J1 (B : RO) (h14 : Heap) (Q : Bool → Heap → Prop) : Prop :=
 Fin B h14 (Q (false))
def S_tome_Tome_Set_J2 (B : RO) (k7 : Nat) (b17 : Bool) (s18 : ByteArray) (h24 : Heap) (Q : Bool → Heap → Prop) : Prop :=
 Fin B h24 (Q (false))
def S_tome_Tome_Set_J3 (B : RO) (i2 : Int) (i5 : Int) (k7 : Nat) (b17 : Bool) (s18 : ByteArray) (p36 : Option Addr) (b37 : Bool) (s38 : ByteArray) (h39 : Heap) (Q : Bool → Heap → Prop) : Prop :=
 C_cell_Row_file_File_Set B p36 (i2) (b37) s38 (i5) h39 (fun b42 h41 =>
 CellsAt B h41 ⟨k7, 0, none⟩ 0 [(.bool b17), (.string s18)] ∧
 Fin B h41 (Q (b42)))
def S_tome_Tome_Set (B : RO) (p1 : Option Addr) (i2 : Int) (b3 : Bool) (s4 : ByteArray) (i5 : Int) (h : Heap) (Q : Bool → Heap → Prop) : Prop :=
 ∀ k7 : Nat, h k7 = none → B k7 = none → ∀ h8 : Heap, h8 = Heap.set h k7 (.vec 119 (plains [(.bool b3), (.string s4)]) 2) →
 (p1 = none →
 (S_tome_Tome_Set_J1 B h8 Q) ∧
 (S_tome_Tome_Set_J1 B h8 Q)) ∧ (¬ (p1 = none) →
 ∃ b17 : Bool, ∃ s18 : ByteArray, CellsAt B h8 ⟨k7, 0, none⟩ 0 [(.bool b17), (.string s18)] ∧
 C_file_Good B (b17) s18 h8 (fun b21 h20 =>
 (b21 = true →
 CellsAt B h20 ⟨k7, 0, none⟩ 0 [(.bool b17), (.string s18)] ∧
 ∃ A27 : Addr, p1 = some A27 ∧
 (∃ p44 : Option Addr, cellH B h20 A27 = some (.pointer p44) ∧
 ∃ b45 : Bool, ∃ s46 : ByteArray, CellsAt B h20 ⟨k7, 0, none⟩ 0 [(.bool b45), (.string s46)] ∧
 S_tome_Tome_Set_J3 B i2 i5 k7 b17 s18 p44 (b45) s46 h20 Q) ∧
 (∃ b47 : Bool, ∃ s48 : ByteArray, CellsAt B h20 ⟨k7, 0, none⟩ 0 [(.bool b47), (.string s48)] ∧
 ∃ p49 : Option Addr, cellH B h20 A27 = some (.pointer p49) ∧
 S_tome_Tome_Set_J3 B i2 i5 k7 b17 s18 p49 (b47) s48 h20 Q)) ∧ (b21 = false →
 CellsAt B h20 ⟨k7, 0, none⟩ 0 [(.bool b17), (.string s18)] ∧
 (S_tome_Tome_Set_J2 B k7 b17 s18 h20 Q) ∧
 (S_tome_Tome_Set_J2 B k7 b17 s18 h20 Q))))
def S_cursor_is (B : RO) (i1 : Int) (h : Heap) (Q : Bool → Heap → Prop) : Prop :=
 ((i1 : Int) ≥ (0) →
 Fin B h (Q ((decide ((i1 : Int) < (3)))))) ∧ (¬ ((i1 : Int) ≥ (0)) →
 Fin B h (Q (false)))
def S_cell_Row_file_File_Get (B : RO) (p1 : Option Addr) (i2 : Int) (h : Heap) (Q : Bool → ByteArray → Int → Heap → Prop) : Prop :=
 ∀ k6 : Nat, h k6 = none → B k6 = none → ∀ h7 : Heap, h7 = Heap.set h k6 (.vec 119 (plains [(.bool false), (.string ByteArray.empty)]) 2) →
 C_cell_Row_file_File_is B p1 (i2) h7 (fun b9 h8 =>
 (b9 = true →
 ∃ A18 : Addr, p1 = some A18 ∧
 ∃ a22 : Option Addr, ∃ n23 : Nat, ∃ c24 : Nat, cellH B h8 A18 = some (.slice a22 n23 c24) ∧
 ∃ A27 : Addr, a22 = some A27 ∧ 0 ≤ (i2 : Int) ∧ (i2 : Int) < (n23 : Nat) ∧
 ∃ b33 : Bool, ∃ s34 : ByteArray, CellsAt B h8 (Addr.add A27 (Int.toNat (i2) * 3)) 0 [(.bool b33), (.string s34)] ∧
 ∃ A37 : Addr, p1 = some A37 ∧
 ∃ a41 : Option Addr, ∃ n42 : Nat, ∃ c43 : Nat, cellH B h8 A37 = some (.slice a41 n42 c43) ∧
 ∃ A46 : Addr, a41 = some A46 ∧ 0 ≤ (i2 : Int) ∧ (i2 : Int) < (n42 : Nat) ∧
 ∃ i52 : Int, cellH B h8 (Addr.add (Addr.add A46 (Int.toNat (i2) * 3)) 2) = some (.int .i64 (i52)) ∧
 ∃ h54 : Heap, StoresAt ⟨k6, 0, none⟩ h8 0 [(.bool b33), (.string s34)] h54 ∧
 cellH B h54 A18 = some (.slice a22 n23 c24) ∧ CellsAt B h54 (Addr.add A27 (Int.toNat (i2) * 3)) 0 [(.bool b33), (.string s34)] ∧ cellH B h54 A37 = some (.slice a41 n42 c43) ∧ cellH B h54 (Addr.add (Addr.add A46 (Int.toNat (i2) * 3)) 2) = some (.int .i64 (i52)) ∧
 ∃ b59 : Bool, ∃ s60 : ByteArray, CellsAt B h54 ⟨k6, 0, none⟩ 0 [(.bool b59), (.string s60)] ∧ Fin B h54 (Q (b59) s60 (i52))) ∧ (b9 = false →
 ∀ k10 : Nat, h8 k10 = none → B k10 = none → ∀ h11 : Heap, h11 = Heap.set h8 k10 (.vec 119 (plains [(.bool false), (.string ByteArray.empty)]) 2) →
 ∃ b12 : Bool, ∃ s13 : ByteArray, CellsAt B h11 ⟨k10, 0, none⟩ 0 [(.bool b12), (.string s13)] ∧
 ∃ h14 : Heap, StoresAt ⟨k6, 0, none⟩ h11 0 [(.bool b12), (.string s13)] h14 ∧
 ∃ b15 : Bool, ∃ s16 : ByteArray, CellsAt B h14 ⟨k6, 0, none⟩ 0 [(.bool b15), (.string s16)] ∧ Fin B h14 (Q (b15) s16 (0))))
def S_attempt_Attempt_touch_J2 (B : RO) (p1 : Option Addr) (i2 : Int) (k6 : Nat) (A11 : Addr) (b12 : Bool) (h13 : Heap) (Q : Bool → ByteArray → Int → Heap → Prop) : Prop :=
 (b12 = true →
 ∃ b26 : Bool, ∃ s27 : ByteArray, CellsAt B h13 A11 0 [(.bool b26), (.string s27)] ∧
 ∃ h28 : Heap, StoresAt ⟨k6, 0, none⟩ h13 0 [(.bool b26), (.string s27)] h28 ∧
 ∃ b29 : Bool, ∃ s30 : ByteArray, CellsAt B h28 ⟨k6, 0, none⟩ 0 [(.bool b29), (.string s30)] ∧ Fin B h28 (Q (b29) s30 (0))) ∧ (b12 = false →
 ∃ b14 : Bool, ∃ s15 : ByteArray, CellsAt B h13 A11 0 [(.bool b14), (.string s15)] ∧
 C_attempt_Attempt_note B p1 (1) (i2) h13 (fun i20 h19 =>
 CellsAt B h19 A11 0 [(.bool b14), (.string s15)] ∧
 ∃ h22 : Heap, StoresAt ⟨k6, 0, none⟩ h19 0 [(.bool b14), (.string s15)] h22 ∧
 CellsAt B h22 A11 0 [(.bool b14), (.string s15)] ∧
 ∃ b24 : Bool, ∃ s25 : ByteArray, CellsAt B h22 ⟨k6, 0, none⟩ 0 [(.bool b24), (.string s25)] ∧ Fin B h22 (Q (b24) s25 (i20))))
def S_attempt_Attempt_touch_J3 (B : RO) (p1 : Option Addr) (i2 : Int) (k6 : Nat) (A32 : Addr) (p37 : Option Addr) (A40 : Addr) (p44 : Option Addr) (A46 : Addr) (p50 : Option Addr) (A83 : Addr) (b84 : Bool) (s85 : ByteArray) (b86 : Bool) (h87 : Heap) (Q : Bool → ByteArray → Int → Heap → Prop) : Prop :=
 ∃ h91 : Heap, StoresAt A83 h87 0 [(.bool b84), (.string s85)] h91 ∧
 cellH B h91 (Addr.add (Addr.add A32 2) 1) = some (.pointer p37) ∧ cellH B h91 A40 = some (.pointer p44) ∧ cellH B h91 (Addr.add A46 1) = some (.pointer p50) ∧
 (b86 = true →
 Fin B h91 (fun h' => S_attempt_Attempt_touch_J2 B p1 i2 k6 A83 (true) h' Q)) ∧ (b86 = false →
 Fin B h91 (fun h' => S_attempt_Attempt_touch_J2 B p1 i2 k6 A83 (false) h' Q))
def S_attempt_Attempt_touch_J1 (B : RO) (p1 : Option Addr) (i2 : Int) (k6 : Nat) (h9 : Heap) (Q : Bool → ByteArray → Int → Heap → Prop) : Prop :=
 ∃ A32 : Addr, p1 = some A32 ∧
 ∃ p37 : Option Addr, cellH B h9 (Addr.add (Addr.add A32 2) 1) = some (.pointer p37) ∧
 ∃ A40 : Addr, p1 = some A40 ∧
 ∃ p44 : Option Addr, cellH B h9 A40 = some (.pointer p44) ∧
 ∃ A46 : Addr, p44 = some A46 ∧
 ∃ p50 : Option Addr, cellH B h9 (Addr.add A46 1) = some (.pointer p50) ∧
 (C_sheet_Sheet_Get B p37 p50 (i2) h9 (fun b96 s97 b98 h95 =>
 cellH B h95 (Addr.add (Addr.add A32 2) 1) = some (.pointer p37) ∧ cellH B h95 A40 = some (.pointer p44) ∧ cellH B h95 (Addr.add A46 1) = some (.pointer p50) ∧
 (b98 = true →
 ∀ k107 : Nat, h95 k107 = none → B k107 = none → ∀ h108 : Heap, h108 = Heap.set h95 k107 (.vec 119 (plains [(.bool false), (.string ByteArray.empty)]) 2) →
 cellH B h108 (Addr.add (Addr.add A32 2) 1) = some (.pointer p37) ∧ cellH B h108 A40 = some (.pointer p44) ∧ cellH B h108 (Addr.add A46 1) = some (.pointer p50) ∧
 S_attempt_Attempt_touch_J3 B p1 i2 k6 A32 p37 A40 p44 A46 p50 ⟨k107, 0, none⟩ (b96) s97 (true) h108 Q) ∧ (b98 = false →
 ∀ k102 : Nat, h95 k102 = none → B k102 = none → ∀ h103 : Heap, h103 = Heap.set h95 k102 (.vec 119 (plains [(.bool false), (.string ByteArray.empty)]) 2) →
 cellH B h103 (Addr.add (Addr.add A32 2) 1) = some (.pointer p37) ∧ cellH B h103 A40 = some (.pointer p44) ∧ cellH B h103 (Addr.add A46 1) = some (.pointer p50) ∧
 S_attempt_Attempt_touch_J3 B p1 i2 k6 A32 p37 A40 p44 A46 p50 ⟨k102, 0, none⟩ (b96) s97 (false) h103 Q))) ∧
 (∀ k112 : Nat, h9 k112 = none → B k112 = none → ∀ h113 : Heap, h113 = Heap.set h9 k112 (.vec 119 (plains [(.bool false), (.string ByteArray.empty)]) 2) →
 cellH B h113 (Addr.add (Addr.add A32 2) 1) = some (.pointer p37) ∧ cellH B h113 A40 = some (.pointer p44) ∧ cellH B h113 (Addr.add A46 1) = some (.pointer p50) ∧
 C_sheet_Sheet_Get B p37 p50 (i2) h113 (fun b118 s119 b120 h117 =>
 cellH B h117 (Addr.add (Addr.add A32 2) 1) = some (.pointer p37) ∧ cellH B h117 A40 = some (.pointer p44) ∧ cellH B h117 (Addr.add A46 1) = some (.pointer p50) ∧
 (b120 = true →
 S_attempt_Attempt_touch_J3 B p1 i2 k6 A32 p37 A40 p44 A46 p50 ⟨k112, 0, none⟩ (b118) s119 (true) h117 Q) ∧ (b120 = false →
 S_attempt_Attempt_touch_J3 B p1 i2 k6 A32 p37 A40 p44 A46 p50 ⟨k112, 0, none⟩ (b118) s119 (false) h117 Q)))
def S_attempt_Attempt_touch (B : RO) (p1 : Option Addr) (i2 : Int) (h : Heap) (Q : Bool → ByteArray → Int → Heap → Prop) : Prop :=
 ∀ k6 : Nat, h k6 = none → B k6 = none → ∀ h7 : Heap, h7 = Heap.set h k6 (.vec 119 (plains [(.bool false), (.string ByteArray.empty)]) 2) →
 (p1 = none →
 ∃ h125 : Heap, StoresAt ⟨k6, 0, none⟩ h7 0 [(.bool false), (.string ByteArray.empty)] h125 ∧
 ∃ b126 : Bool, ∃ s127 : ByteArray, CellsAt B h125 ⟨k6, 0, none⟩ 0 [(.bool b126), (.string s127)] ∧ Fin B h125 (Q (b126) s127 (2))) ∧ (¬ (p1 = none) →
 ((i2 : Int) < (0) →
 ∃ h128 : Heap, StoresAt ⟨k6, 0, none⟩ h7 0 [(.bool false), (.string ByteArray.empty)] h128 ∧
 ∃ b129 : Bool, ∃ s130 : ByteArray, CellsAt B h128 ⟨k6, 0, none⟩ 0 [(.bool b129), (.string s130)] ∧ Fin B h128 (Q (b129) s130 (1))) ∧ (¬ ((i2 : Int) < (0)) →
 ((i2 : Int) ≥ (6) →
 ∃ h131 : Heap, StoresAt ⟨k6, 0, none⟩ h7 0 [(.bool false), (.string ByteArray.empty)] h131 ∧
 ∃ b132 : Bool, ∃ s133 : ByteArray, CellsAt B h131 ⟨k6, 0, none⟩ 0 [(.bool b132), (.string s133)] ∧ Fin B h131 (Q (b132) s133 (1))) ∧ (¬ ((i2 : Int) ≥ (6)) →
 Fin B h7 (fun h' => S_attempt_Attempt_touch_J1 B p1 i2 k6 h' Q))))
def S_file_At_J1 (B : RO) (i3 : Int) (k5 : Nat) (b8 : Bool) (h9 : Heap) (Q : Int → Heap → Prop) : Prop :=
 (b8 = true →
 Fin B h9 (Q ((-1)))) ∧ (b8 = false →
 ∃ s10 : ByteArray, cellH B h9 ⟨k5, 1, none⟩ = some (.string s10) ∧
 0 ≤ (i3 : Int) ∧ (i3 : Int) < (ByteArray.size s10 : Nat) ∧
 Fin B h9 (Q (IntKind.wrap .i64 (byteAt s10 (Int.toNat (i3))))))
def S_file_At (B : RO) (b1 : Bool) (s2 : ByteArray) (i3 : Int) (h : Heap) (Q : Int → Heap → Prop) : Prop :=
 ∀ k5 : Nat, h k5 = none → B k5 = none → ∀ h6 : Heap, h6 = Heap.set h k5 (.vec 119 (plains [(.bool b1), (.string s2)]) 2) →
 ((i3 : Int) < (0) →
 Fin B h6 (fun h' => S_file_At_J1 B i3 k5 (true) h' Q)) ∧ (¬ ((i3 : Int) < (0)) →
 ∃ s11 : ByteArray, cellH B h6 ⟨k5, 1, none⟩ = some (.string s11) ∧
 ((i3 : Int) ≥ ((ByteArray.size s11 : Nat)) →
 Fin B h6 (fun h' => S_file_At_J1 B i3 k5 (true) h' Q)) ∧ (¬ ((i3 : Int) ≥ ((ByteArray.size s11 : Nat))) →
 Fin B h6 (fun h' => S_file_At_J1 B i3 k5 (false) h' Q)))
def S_sheet_Sheet_Write (B : RO) (p1 : Option Addr) (p2 : Option Addr) (i3 : Int) (i4 : Int) (i5 : Int) (h : Heap) (Q : Bool → Heap → Prop) : Prop :=
 C_sheet_Sheet_Get B p1 p2 (i3) h (fun b8 s9 b10 h7 =>
 ∀ k11 : Nat, h7 k11 = none → B k11 = none → ∀ h12 : Heap, h12 = Heap.set h7 k11 (.vec 119 (plains [(.bool false), (.string ByteArray.empty)]) 2) →
 ∃ h13 : Heap, StoresAt ⟨k11, 0, none⟩ h12 0 [(.bool b8), (.string s9)] h13 ∧
 ∃ b14 : Bool, ∃ s15 : ByteArray, CellsAt B h13 ⟨k11, 0, none⟩ 0 [(.bool b14), (.string s15)] ∧
 C_file_Put B (b14) s15 (i4) (i5) h13 (fun b17 s18 h16 =>
 C_sheet_Sheet_put B p1 p2 (i3) (b17) s18 h16 (fun b20 h19 =>
 Fin B h19 (Q (b20)))))
def S_sheet_Sheet_Create (B : RO) (p1 : Option Addr) (p2 : Option Addr) (i3 : Int) (h : Heap) (Q : Bool → Heap → Prop) : Prop :=
 C_sheet_Sheet_Get B p1 p2 (i3) h (fun b6 s7 b8 h5 =>
 ∀ k9 : Nat, h5 k9 = none → B k9 = none → ∀ h10 : Heap, h10 = Heap.set h5 k9 (.vec 119 (plains [(.bool false), (.string ByteArray.empty)]) 2) →
 ∃ h11 : Heap, StoresAt ⟨k9, 0, none⟩ h10 0 [(.bool b6), (.string s7)] h11 ∧
 ∃ b12 : Bool, ∃ s13 : ByteArray, CellsAt B h11 ⟨k9, 0, none⟩ 0 [(.bool b12), (.string s13)] ∧
 C_file_Make B (b12) s13 h11 (fun b15 s16 h14 =>
 C_sheet_Sheet_put B p1 p2 (i3) (b15) s16 h14 (fun b18 h17 =>
 Fin B h17 (Q (b18)))))
def S_sheet_Sheet_Remove (B : RO) (p1 : Option Addr) (p2 : Option Addr) (i3 : Int) (h : Heap) (Q : Bool → Heap → Prop) : Prop :=
 C_sheet_Sheet_put B p1 p2 (i3) (false) ByteArray.empty h (fun b6 h5 =>
 Fin B h5 (Q (b6)))
def S_sheet_Sheet_Rename_J1 (B : RO) (p1 : Option Addr) (p2 : Option Addr) (i3 : Int) (i4 : Int) (k10 : Nat) (h14 : Heap) (Q : Bool → Heap → Prop) : Prop :=
 ∃ b15 : Bool, ∃ s16 : ByteArray, CellsAt B h14 ⟨k10, 0, none⟩ 0 [(.bool b15), (.string s16)] ∧
 C_sheet_Sheet_put B p1 p2 (i4) (b15) s16 h14 (fun b18 h17 =>
 C_sheet_Sheet_put B p1 p2 (i3) (false) ByteArray.empty h17 (fun b20 h19 =>
 Fin B h19 (Q (b20))))
def S_sheet_Sheet_Rename_J2 (B : RO) (p1 : Option Addr) (p2 : Option Addr) (i3 : Int) (i4 : Int) (k10 : Nat) (b22 : Bool) (h23 : Heap) (Q : Bool → Heap → Prop) : Prop :=
 (b22 = true →
 Fin B h23 (Q (false))) ∧ (b22 = false →
 ∃ b24 : Bool, cellH B h23 ⟨k10, 0, none⟩ = some (.bool b24) ∧ (b24 = true →
 ((i3 : Int) = i4 →
 Fin B h23 (Q (true))) ∧ (¬ ((i3 : Int) = i4) →
 Fin B h23 (fun h' => S_sheet_Sheet_Rename_J1 B p1 p2 i3 i4 k10 h' Q))) ∧ (b24 = false →
 Fin B h23 (Q (true))))
def S_sheet_Sheet_Rename (B : RO) (p1 : Option Addr) (p2 : Option Addr) (i3 : Int) (i4 : Int) (h : Heap) (Q : Bool → Heap → Prop) : Prop :=
 C_sheet_Sheet_Get B p1 p2 (i3) h (fun b7 s8 b9 h6 =>
 ∀ k10 : Nat, h6 k10 = none → B k10 = none → ∀ h11 : Heap, h11 = Heap.set h6 k10 (.vec 119 (plains [(.bool false), (.string ByteArray.empty)]) 2) →
 ∃ h12 : Heap, StoresAt ⟨k10, 0, none⟩ h11 0 [(.bool b7), (.string s8)] h12 ∧
 (p1 = none →
 Fin B h12 (fun h' => S_sheet_Sheet_Rename_J2 B p1 p2 i3 i4 k10 (true) h' Q)) ∧ (¬ (p1 = none) →
 ((i3 : Int) < (0) →
 Fin B h12 (fun h' => S_sheet_Sheet_Rename_J2 B p1 p2 i3 i4 k10 (true) h' Q)) ∧ (¬ ((i3 : Int) < (0)) →
 ((i3 : Int) ≥ (6) →
 Fin B h12 (fun h' => S_sheet_Sheet_Rename_J2 B p1 p2 i3 i4 k10 (true) h' Q)) ∧ (¬ ((i3 : Int) ≥ (6)) →
 ((i4 : Int) < (0) →
 Fin B h12 (fun h' => S_sheet_Sheet_Rename_J2 B p1 p2 i3 i4 k10 (true) h' Q)) ∧ (¬ ((i4 : Int) < (0)) →
 ((i4 : Int) ≥ (6) →
 Fin B h12 (fun h' => S_sheet_Sheet_Rename_J2 B p1 p2 i3 i4 k10 (true) h' Q)) ∧ (¬ ((i4 : Int) ≥ (6)) →
 Fin B h12 (fun h' => S_sheet_Sheet_Rename_J2 B p1 p2 i3 i4 k10 (false) h' Q)))))))
def S_sheet_Sheet_Cut (B : RO) (p1 : Option Addr) (p2 : Option Addr) (i3 : Int) (i4 : Int) (h : Heap) (Q : Bool → Heap → Prop) : Prop :=
 C_sheet_Sheet_Get B p1 p2 (i3) h (fun b7 s8 b9 h6 =>
 ∀ k10 : Nat, h6 k10 = none → B k10 = none → ∀ h11 : Heap, h11 = Heap.set h6 k10 (.vec 119 (plains [(.bool false), (.string ByteArray.empty)]) 2) →
 ∃ h12 : Heap, StoresAt ⟨k10, 0, none⟩ h11 0 [(.bool b7), (.string s8)] h12 ∧
 ∃ b13 : Bool, ∃ s14 : ByteArray, CellsAt B h12 ⟨k10, 0, none⟩ 0 [(.bool b13), (.string s14)] ∧
 C_file_Cut B (b13) s14 (i4) h12 (fun b16 s17 h15 =>
 C_sheet_Sheet_put B p1 p2 (i3) (b16) s17 h15 (fun b19 h18 =>
 Fin B h18 (Q (b19)))))
def S_feed_Feed_At_J1 (B : RO) (p1 : Option Addr) (i2 : Int) (i3 : Int) (h6 : Heap) (Q : Int → Heap → Prop) : Prop :=
 ∃ A7 : Addr, p1 = some A7 ∧
 0 ≤ (i2 : Int) ∧ (i2 : Int) < (3 : Nat) ∧
 ∃ s9 : ByteArray, cellH B h6 (Addr.add A7 (Int.toNat (i2) * 1)) = some (.string s9) ∧
 0 ≤ (i3 : Int) ∧ (i3 : Int) < (ByteArray.size s9 : Nat) ∧
 Fin B h6 (Q (IntKind.wrap .i64 (byteAt s9 (Int.toNat (i3)))))
def S_feed_Feed_At (B : RO) (p1 : Option Addr) (i2 : Int) (i3 : Int) (h : Heap) (Q : Int → Heap → Prop) : Prop :=
 C_feed_Feed_is B p1 (i2) h (fun b11 h10 =>
 (b11 = true →
 ((i3 : Int) < (0) →
 Fin B h10 (Q ((-1)))) ∧ (¬ ((i3 : Int) < (0)) →
 ∃ A12 : Addr, p1 = some A12 ∧
 0 ≤ (i2 : Int) ∧ (i2 : Int) < (3 : Nat) ∧
 ∃ s14 : ByteArray, cellH B h10 (Addr.add A12 (Int.toNat (i2) * 1)) = some (.string s14) ∧
 ((i3 : Int) ≥ ((ByteArray.size s14 : Nat)) →
 Fin B h10 (Q ((-1)))) ∧ (¬ ((i3 : Int) ≥ ((ByteArray.size s14 : Nat))) →
 Fin B h10 (fun h' => S_feed_Feed_At_J1 B p1 i2 i3 h' Q)))) ∧ (b11 = false →
 Fin B h10 (Q ((-1)))))
def S_cursor_Cursor_At_J1 (B : RO) (p1 : Option Addr) (i2 : Int) (i3 : Int) (h6 : Heap) (Q : Int → Heap → Prop) : Prop :=
 ∃ A7 : Addr, p1 = some A7 ∧
 0 ≤ (i2 : Int) ∧ (i2 : Int) < (3 : Nat) ∧
 ∃ i9 : Int, cellH B h6 (Addr.add A7 (Int.toNat (i2) * 1)) = some (.int .i64 (i9)) ∧
 Fin B h6 (Q (IntKind.wrap .i64 ((i3) + (i9))))
def S_cursor_Cursor_At (B : RO) (p1 : Option Addr) (i2 : Int) (i3 : Int) (h : Heap) (Q : Int → Heap → Prop) : Prop :=
 (p1 = none →
 Fin B h (Q (i3))) ∧ (¬ (p1 = none) →
 C_cursor_is B (i2) h (fun b12 h11 =>
 (b12 = true →
 Fin B h11 (fun h' => S_cursor_Cursor_At_J1 B p1 i2 i3 h' Q)) ∧ (b12 = false →
 Fin B h11 (Q (i3)))))
def S_cursor_Cursor_Step_J1 (B : RO) (p1 : Option Addr) (i2 : Int) (h5 : Heap) (Q : Bool → Heap → Prop) : Prop :=
 ∃ A6 : Addr, p1 = some A6 ∧
 0 ≤ (i2 : Int) ∧ (i2 : Int) < (3 : Nat) ∧
 ∃ i8 : Int, cellH B h5 (Addr.add A6 (Int.toNat (i2) * 1)) = some (.int .i64 (i8)) ∧
 ∃ A9 : Addr, p1 = some A9 ∧
 0 ≤ (i2 : Int) ∧ (i2 : Int) < (3 : Nat) ∧
 ∃ h11 : Heap, storeH h5 (Addr.add A9 (Int.toNat (i2) * 1)) (.int .i64 (IntKind.wrap .i64 ((i8) + (1)))) = some h11 ∧
 Fin B h11 (Q (true))
def S_cursor_Cursor_Step (B : RO) (p1 : Option Addr) (i2 : Int) (h : Heap) (Q : Bool → Heap → Prop) : Prop :=
 (p1 = none →
 Fin B h (Q (false))) ∧ (¬ (p1 = none) →
 C_cursor_is B (i2) h (fun b14 h13 =>
 (b14 = true →
 ∃ A15 : Addr, p1 = some A15 ∧
 0 ≤ (i2 : Int) ∧ (i2 : Int) < (3 : Nat) ∧
 ∃ i17 : Int, cellH B h13 (Addr.add A15 (Int.toNat (i2) * 1)) = some (.int .i64 (i17)) ∧
 ((i17 : Int) ≥ (64) →
 Fin B h13 (Q (false))) ∧ (¬ ((i17 : Int) ≥ (64)) →
 Fin B h13 (fun h' => S_cursor_Cursor_Step_J1 B p1 i2 h' Q))) ∧ (b14 = false →
 Fin B h13 (Q (false)))))
def S_countermandref14_Is (B : RO) (i1 : Int) (h : Heap) (Q : Bool → Heap → Prop) : Prop :=
 ((i1 : Int) ≥ (0) →
 Fin B h (Q ((decide ((i1 : Int) ≤ (5)))))) ∧ (¬ ((i1 : Int) ≥ (0)) →
 Fin B h (Q (false)))
def S_countermandref14_Sheet_put (B : RO) (p1 : Option Addr) (i2 : Int) (b3 : Bool) (s4 : ByteArray) (h : Heap) (Q : Heap → Prop) : Prop :=
 ∀ k5 : Nat, h k5 = none → B k5 = none → ∀ h6 : Heap, h6 = Heap.set h k5 (.vec 51 (plains [(.bool b3), (.string s4)]) 2) →
 ∃ A7 : Addr, p1 = some A7 ∧
 0 ≤ (i2 : Int) ∧ (i2 : Int) < (6 : Nat) ∧
 ∃ b9 : Bool, ∃ s10 : ByteArray, CellsAt B h6 (Addr.add (Addr.add A7 12) (Int.toNat (i2) * 2)) 0 [(.bool b9), (.string s10)] ∧
 ∃ b11 : Bool, ∃ s12 : ByteArray, CellsAt B h6 ⟨k5, 0, none⟩ 0 [(.bool b11), (.string s12)] ∧
 (eqL [(.bool b9), (.string s10)] [(.bool b11), (.string s12)] = true →
 Fin B h6 (Q)) ∧ (¬ (eqL [(.bool b9), (.string s10)] [(.bool b11), (.string s12)] = true) →
 ∃ b14 : Bool, ∃ s15 : ByteArray, CellsAt B h6 ⟨k5, 0, none⟩ 0 [(.bool b14), (.string s15)] ∧
 ∃ A16 : Addr, p1 = some A16 ∧
 0 ≤ (i2 : Int) ∧ (i2 : Int) < (6 : Nat) ∧
 ∃ h18 : Heap, StoresAt (Addr.add (Addr.add A16 12) (Int.toNat (i2) * 2)) h6 0 [(.bool b14), (.string s15)] h18 ∧
 ∃ A19 : Addr, p1 = some A19 ∧
 0 ≤ (i2 : Int) ∧ (i2 : Int) < (6 : Nat) ∧
 ∃ h21 : Heap, storeH h18 (Addr.add (Addr.add A19 24) (Int.toNat (i2) * 1)) (.bool true) = some h21 ∧
 Fin B h21 (Q))
def S_countermandref09_Put_J3 (B : RO) (i3 : Int) (i4 : Int) (k7 : Nat) (k9 : Nat) (s13 : ByteArray) (i14 : Int) (m16 : Nat) (J19 : ByteArray → Int → Nat → Heap → Prop) (i27 : Int) (h28 : Heap) (Q : Bool → ByteArray → Heap → Prop) : Prop :=
 ∀ k29 : Nat, h28 k29 = none → B k29 = none → ∀ h30 : Heap, h30 = Heap.set h28 k29 (.vec 5 (plains [(.int .u8 (IntKind.wrap .u8 (i27)))]) 1) →
 semH PG B (convert 226 9 (.slice (some ⟨k29, 0, none⟩) 1 1)) h30 (fun v h32 => ∃ s31 : ByteArray, v = (.string s31) ∧
 ByteArray.size s13 + ByteArray.size s31 ≤ 4611686018427387904 ∧
 Fin B h32 (fun h' => ∃ m', m' < m16 ∧ J19 (s13 ++ s31) (IntKind.wrap .i64 ((i14) + (1))) m' h'))
def S_countermandref09_Put_J2 (B : RO) (i3 : Int) (i4 : Int) (k7 : Nat) (k9 : Nat) (s13 : ByteArray) (i14 : Int) (m16 : Nat) (J19 : ByteArray → Int → Nat → Heap → Prop) (h21 : Heap) (Q : Bool → ByteArray → Heap → Prop) : Prop :=
 ∃ b22 : Bool, ∃ s23 : ByteArray, CellsAt B h21 ⟨k7, 0, none⟩ 0 [(.bool b22), (.string s23)] ∧
 C_countermandref09_At B (b22) s23 (i14) h21 (fun i25 h24 =>
 ((i14 : Int) = i3 →
 Fin B h24 (fun h' => S_countermandref09_Put_J3 B i3 i4 k7 k9 s13 i14 m16 J19 (IntKind.wrap .i64 (i4)) h' Q)) ∧ (¬ ((i14 : Int) = i3) →
 Fin B h24 (fun h' => S_countermandref09_Put_J3 B i3 i4 k7 k9 s13 i14 m16 J19 (if (0 : Int) > (i25) then (0 : Int) else (i25)) h' Q)))
def S_countermandref09_Put_J1 (B : RO) (i3 : Int) (i4 : Int) (k7 : Nat) (k9 : Nat) (h12 : Heap) (Q : Bool → ByteArray → Heap → Prop) : Prop :=
 ∃ (J19 : ByteArray → Int → Nat → Heap → Prop) (m17 : Nat), Fin B h12 (J19 (ByteArray.mk #[]) (0) m17) ∧
 ∀ (s13 : ByteArray) (i14 : Int) (m16 : Nat) (h15 : Heap), J19 s13 i14 m16 h15 →
 ∃ s33 : ByteArray, cellH B h15 ⟨k7, 1, none⟩ = some (.string s33) ∧
 ((i14 : Int) < ((ByteArray.size s33 : Nat)) →
 Fin B h15 (fun h' => S_countermandref09_Put_J2 B i3 i4 k7 k9 s13 i14 m16 J19 h' Q)) ∧ (¬ ((i14 : Int) < ((ByteArray.size s33 : Nat))) →
 ((i14 : Int) ≤ (i3) →
 Fin B h15 (fun h' => S_countermandref09_Put_J2 B i3 i4 k7 k9 s13 i14 m16 J19 h' Q)) ∧ (¬ ((i14 : Int) ≤ (i3)) →
 ∃ h34 : Heap, StoresAt ⟨k9, 0, none⟩ h15 0 [(.bool true), (.string s13)] h34 ∧
 ∃ b35 : Bool, ∃ s36 : ByteArray, CellsAt B h34 ⟨k9, 0, none⟩ 0 [(.bool b35), (.string s36)] ∧ Fin B h34 (Q (b35) s36)))
def S_countermandref09_Put (B : RO) (b1 : Bool) (s2 : ByteArray) (i3 : Int) (i4 : Int) (h : Heap) (Q : Bool → ByteArray → Heap → Prop) : Prop :=
 ∀ k7 : Nat, h k7 = none → B k7 = none → ∀ h8 : Heap, h8 = Heap.set h k7 (.vec 51 (plains [(.bool b1), (.string s2)]) 2) →
 ∀ k9 : Nat, h8 k9 = none → B k9 = none → ∀ h10 : Heap, h10 = Heap.set h8 k9 (.vec 51 (plains [(.bool false), (.string ByteArray.empty)]) 2) →
 ((i3 : Int) < (0) →
 ∃ b37 : Bool, ∃ s38 : ByteArray, CellsAt B h10 ⟨k7, 0, none⟩ 0 [(.bool b37), (.string s38)] ∧
 ∃ h39 : Heap, StoresAt ⟨k9, 0, none⟩ h10 0 [(.bool b37), (.string s38)] h39 ∧
 ∃ b40 : Bool, ∃ s41 : ByteArray, CellsAt B h39 ⟨k9, 0, none⟩ 0 [(.bool b40), (.string s41)] ∧ Fin B h39 (Q (b40) s41)) ∧ (¬ ((i3 : Int) < (0)) →
 ((i3 : Int) > (31) →
 ∃ b42 : Bool, ∃ s43 : ByteArray, CellsAt B h10 ⟨k7, 0, none⟩ 0 [(.bool b42), (.string s43)] ∧
 ∃ h44 : Heap, StoresAt ⟨k9, 0, none⟩ h10 0 [(.bool b42), (.string s43)] h44 ∧
 ∃ b45 : Bool, ∃ s46 : ByteArray, CellsAt B h44 ⟨k9, 0, none⟩ 0 [(.bool b45), (.string s46)] ∧ Fin B h44 (Q (b45) s46)) ∧ (¬ ((i3 : Int) > (31)) →
 Fin B h10 (fun h' => S_countermandref09_Put_J1 B i3 i4 k7 k9 h' Q)))
def S_countermandref09_Cut_J1 (B : RO) (i3 : Int) (k6 : Nat) (k8 : Nat) (h11 : Heap) (Q : Bool → ByteArray → Heap → Prop) : Prop :=
 ∃ (J18 : ByteArray → Int → Nat → Heap → Prop) (m16 : Nat), Fin B h11 (J18 (ByteArray.mk #[]) (0) m16) ∧
 ∀ (s12 : ByteArray) (i13 : Int) (m15 : Nat) (h14 : Heap), J18 s12 i13 m15 h14 →
 ((i13 : Int) < (i3) →
 ∃ b19 : Bool, ∃ s20 : ByteArray, CellsAt B h14 ⟨k6, 0, none⟩ 0 [(.bool b19), (.string s20)] ∧
 C_countermandref09_At B (b19) s20 (i13) h14 (fun i22 h21 =>
 ∀ k23 : Nat, h21 k23 = none → B k23 = none → ∀ h24 : Heap, h24 = Heap.set h21 k23 (.vec 5 (plains [(.int .u8 (IntKind.wrap .u8 (if (0 : Int) > (i22) then (0 : Int) else (i22))))]) 1) →
 semH PG B (convert 226 9 (.slice (some ⟨k23, 0, none⟩) 1 1)) h24 (fun v h26 => ∃ s25 : ByteArray, v = (.string s25) ∧
 ByteArray.size s12 + ByteArray.size s25 ≤ 4611686018427387904 ∧
 Fin B h26 (fun h' => ∃ m', m' < m15 ∧ J18 (s12 ++ s25) (IntKind.wrap .i64 ((i13) + (1))) m' h')))) ∧ (¬ ((i13 : Int) < (i3)) →
 ∃ h27 : Heap, StoresAt ⟨k8, 0, none⟩ h14 0 [(.bool true), (.string s12)] h27 ∧
 ∃ b28 : Bool, ∃ s29 : ByteArray, CellsAt B h27 ⟨k8, 0, none⟩ 0 [(.bool b28), (.string s29)] ∧ Fin B h27 (Q (b28) s29))
def S_countermandref09_Cut (B : RO) (b1 : Bool) (s2 : ByteArray) (i3 : Int) (h : Heap) (Q : Bool → ByteArray → Heap → Prop) : Prop :=
 ∀ k6 : Nat, h k6 = none → B k6 = none → ∀ h7 : Heap, h7 = Heap.set h k6 (.vec 51 (plains [(.bool b1), (.string s2)]) 2) →
 ∀ k8 : Nat, h7 k8 = none → B k8 = none → ∀ h9 : Heap, h9 = Heap.set h7 k8 (.vec 51 (plains [(.bool false), (.string ByteArray.empty)]) 2) →
 ∃ b30 : Bool, cellH B h9 ⟨k6, 0, none⟩ = some (.bool b30) ∧ (b30 = true →
 ((i3 : Int) < (0) →
 ∃ b36 : Bool, ∃ s37 : ByteArray, CellsAt B h9 ⟨k6, 0, none⟩ 0 [(.bool b36), (.string s37)] ∧
 ∃ h38 : Heap, StoresAt ⟨k8, 0, none⟩ h9 0 [(.bool b36), (.string s37)] h38 ∧
 ∃ b39 : Bool, ∃ s40 : ByteArray, CellsAt B h38 ⟨k8, 0, none⟩ 0 [(.bool b39), (.string s40)] ∧ Fin B h38 (Q (b39) s40)) ∧ (¬ ((i3 : Int) < (0)) →
 ((i3 : Int) > (32) →
 ∃ b41 : Bool, ∃ s42 : ByteArray, CellsAt B h9 ⟨k6, 0, none⟩ 0 [(.bool b41), (.string s42)] ∧
 ∃ h43 : Heap, StoresAt ⟨k8, 0, none⟩ h9 0 [(.bool b41), (.string s42)] h43 ∧
 ∃ b44 : Bool, ∃ s45 : ByteArray, CellsAt B h43 ⟨k8, 0, none⟩ 0 [(.bool b44), (.string s45)] ∧ Fin B h43 (Q (b44) s45)) ∧ (¬ ((i3 : Int) > (32)) →
 Fin B h9 (fun h' => S_countermandref09_Cut_J1 B i3 k6 k8 h' Q)))) ∧ (b30 = false →
 ∃ b31 : Bool, ∃ s32 : ByteArray, CellsAt B h9 ⟨k6, 0, none⟩ 0 [(.bool b31), (.string s32)] ∧
 ∃ h33 : Heap, StoresAt ⟨k8, 0, none⟩ h9 0 [(.bool b31), (.string s32)] h33 ∧
 ∃ b34 : Bool, ∃ s35 : ByteArray, CellsAt B h33 ⟨k8, 0, none⟩ 0 [(.bool b34), (.string s35)] ∧ Fin B h33 (Q (b34) s35))
def S_slices_Insert_s_draft_entry_int_draft_entry_int (B : RO) (a1 : Option Addr) (n2 : Nat) (c3 : Nat) (i4 : Int) (a5 : Option Addr) (n6 : Nat) (c7 : Nat) (h : Heap) (Q : Option Addr → Nat → Nat → Heap → Prop) : Prop :=
 0 ≤ (i4 : Int) ∧ (i4 : Int) ≤ ((n2 : Nat) : Int) ∧ ((n2 : Nat) : Int) ≤ (c3 : Nat) ∧
 (((n6 : Nat) : Int) = 0 →
 Fin B h (Q a1 n2 c3)) ∧ (¬ (((n6 : Nat) : Int) = 0) →
 ((i4 : Int) = (n2 : Nat) →
 semH PG B (Builtin.append_ #[164, 164] 164 #[(.slice a1 n2 c3), (.slice a5 n6 c7)]) h (fun v h11 => ∃ a12 : Option Addr, ∃ n13 : Nat, ∃ c14 : Nat, v = (.slice a12 n13 c14) ∧
 Fin B h11 (Q a12 n13 c14))) ∧ (¬ ((i4 : Int) = (n2 : Nat)) →
 ((IntKind.wrap .i64 (((n2 : Nat)) + ((n6 : Nat))) : Int) > ((c3 : Nat)) →
 0 ≤ (0 : Int) ∧ (0 : Int) ≤ (i4 : Int) ∧ (i4 : Int) ≤ (c3 : Nat) ∧
 semH PG B (Builtin.append_ #[164, 3] 164 #[(.slice (if c3 = Int.toNat (0) then a1 else Option.map (·.add (Int.toNat (0) * 2)) a1) (Int.toNat (i4) - Int.toNat (0)) (c3 - Int.toNat (0))), (.int .i64 (IntKind.wrap .i64 ((IntKind.wrap .i64 (((n2 : Nat)) + ((n6 : Nat)))) - (i4))))]) h (fun v h15 => ∃ a16 : Option Addr, ∃ n17 : Nat, ∃ c18 : Nat, v = (.slice a16 n17 c18) ∧
 0 ≤ (i4 : Int) ∧ (i4 : Int) ≤ ((n17 : Nat) : Int) ∧ ((n17 : Nat) : Int) ≤ (c18 : Nat) ∧
 semH PG B (Builtin.copy_ #[164, 164] 3 #[(.slice (if c18 = Int.toNat (i4) then a16 else Option.map (·.add (Int.toNat (i4) * 2)) a16) (Int.toNat ((n17 : Nat)) - Int.toNat (i4)) (c18 - Int.toNat (i4))), (.slice a5 n6 c7)]) h15 (fun v h19 => ∃ i20 : Int, v = (.int .i64 (i20)) ∧
 0 ≤ (IntKind.wrap .i64 ((i4) + ((n6 : Nat))) : Int) ∧ (IntKind.wrap .i64 ((i4) + ((n6 : Nat))) : Int) ≤ ((n17 : Nat) : Int) ∧ ((n17 : Nat) : Int) ≤ (c18 : Nat) ∧
 0 ≤ (i4 : Int) ∧ (i4 : Int) ≤ ((n2 : Nat) : Int) ∧ ((n2 : Nat) : Int) ≤ (c3 : Nat) ∧
 semH PG B (Builtin.copy_ #[164, 164] 3 #[(.slice (if c18 = Int.toNat (IntKind.wrap .i64 ((i4) + ((n6 : Nat)))) then a16 else Option.map (·.add (Int.toNat (IntKind.wrap .i64 ((i4) + ((n6 : Nat)))) * 2)) a16) (Int.toNat ((n17 : Nat)) - Int.toNat (IntKind.wrap .i64 ((i4) + ((n6 : Nat))))) (c18 - Int.toNat (IntKind.wrap .i64 ((i4) + ((n6 : Nat)))))), (.slice (if c3 = Int.toNat (i4) then a1 else Option.map (·.add (Int.toNat (i4) * 2)) a1) (Int.toNat ((n2 : Nat)) - Int.toNat (i4)) (c3 - Int.toNat (i4)))]) h19 (fun v h21 => ∃ i22 : Int, v = (.int .i64 (i22)) ∧
 Fin B h21 (Q a16 n17 c18))))) ∧ (¬ ((IntKind.wrap .i64 (((n2 : Nat)) + ((n6 : Nat))) : Int) > ((c3 : Nat))) →
 0 ≤ (0 : Int) ∧ (0 : Int) ≤ (IntKind.wrap .i64 (((n2 : Nat)) + ((n6 : Nat))) : Int) ∧ (IntKind.wrap .i64 (((n2 : Nat)) + ((n6 : Nat))) : Int) ≤ (c3 : Nat) ∧
 0 ≤ (IntKind.wrap .i64 ((i4) + ((n6 : Nat))) : Int) ∧ (IntKind.wrap .i64 ((i4) + ((n6 : Nat))) : Int) ≤ (((Int.toNat (IntKind.wrap .i64 (((n2 : Nat)) + ((n6 : Nat)))) - Int.toNat (0)) : Nat) : Int) ∧ (((Int.toNat (IntKind.wrap .i64 (((n2 : Nat)) + ((n6 : Nat)))) - Int.toNat (0)) : Nat) : Int) ≤ ((c3 - Int.toNat (0)) : Nat) ∧
 semH PG B (Extern.SlicesOverlaps.overlaps #[164, 164] #[4] #[(.slice a5 n6 c7), (.slice (if (c3 - Int.toNat (0)) = Int.toNat (IntKind.wrap .i64 ((i4) + ((n6 : Nat)))) then (if c3 = Int.toNat (0) then a1 else Option.map (·.add (Int.toNat (0) * 2)) a1) else Option.map (·.add (Int.toNat (IntKind.wrap .i64 ((i4) + ((n6 : Nat)))) * 2)) (if c3 = Int.toNat (0) then a1 else Option.map (·.add (Int.toNat (0) * 2)) a1)) (Int.toNat (((Int.toNat (IntKind.wrap .i64 (((n2 : Nat)) + ((n6 : Nat)))) - Int.toNat (0)) : Nat)) - Int.toNat (IntKind.wrap .i64 ((i4) + ((n6 : Nat))))) ((c3 - Int.toNat (0)) - Int.toNat (IntKind.wrap .i64 ((i4) + ((n6 : Nat))))))]) h (fun v h23 => ∃ b24 : Bool, v = (.bool b24) ∧
 (b24 = true →
 0 ≤ ((n2 : Nat) : Int) ∧ ((n2 : Nat) : Int) ≤ (((Int.toNat (IntKind.wrap .i64 (((n2 : Nat)) + ((n6 : Nat)))) - Int.toNat (0)) : Nat) : Int) ∧ (((Int.toNat (IntKind.wrap .i64 (((n2 : Nat)) + ((n6 : Nat)))) - Int.toNat (0)) : Nat) : Int) ≤ ((c3 - Int.toNat (0)) : Nat) ∧
 semH PG B (Builtin.copy_ #[164, 164] 3 #[(.slice (if (c3 - Int.toNat (0)) = Int.toNat ((n2 : Nat)) then (if c3 = Int.toNat (0) then a1 else Option.map (·.add (Int.toNat (0) * 2)) a1) else Option.map (·.add (Int.toNat ((n2 : Nat)) * 2)) (if c3 = Int.toNat (0) then a1 else Option.map (·.add (Int.toNat (0) * 2)) a1)) (Int.toNat (((Int.toNat (IntKind.wrap .i64 (((n2 : Nat)) + ((n6 : Nat)))) - Int.toNat (0)) : Nat)) - Int.toNat ((n2 : Nat))) ((c3 - Int.toNat (0)) - Int.toNat ((n2 : Nat)))), (.slice a5 n6 c7)]) h23 (fun v h29 => ∃ i30 : Int, v = (.int .i64 (i30)) ∧
 0 ≤ (i4 : Int) ∧ (i4 : Int) ≤ (((Int.toNat (IntKind.wrap .i64 (((n2 : Nat)) + ((n6 : Nat)))) - Int.toNat (0)) : Nat) : Int) ∧ (((Int.toNat (IntKind.wrap .i64 (((n2 : Nat)) + ((n6 : Nat)))) - Int.toNat (0)) : Nat) : Int) ≤ ((c3 - Int.toNat (0)) : Nat) ∧
 C_slices_rotateRight_draft_entry_int B (if (c3 - Int.toNat (0)) = Int.toNat (i4) then (if c3 = Int.toNat (0) then a1 else Option.map (·.add (Int.toNat (0) * 2)) a1) else Option.map (·.add (Int.toNat (i4) * 2)) (if c3 = Int.toNat (0) then a1 else Option.map (·.add (Int.toNat (0) * 2)) a1)) (Int.toNat (((Int.toNat (IntKind.wrap .i64 (((n2 : Nat)) + ((n6 : Nat)))) - Int.toNat (0)) : Nat)) - Int.toNat (i4)) ((c3 - Int.toNat (0)) - Int.toNat (i4)) ((n6 : Nat)) h29 (fun h31 =>
 Fin B h31 (Q (if c3 = Int.toNat (0) then a1 else Option.map (·.add (Int.toNat (0) * 2)) a1) (Int.toNat (IntKind.wrap .i64 (((n2 : Nat)) + ((n6 : Nat)))) - Int.toNat (0)) (c3 - Int.toNat (0)))))) ∧ (b24 = false →
 0 ≤ (IntKind.wrap .i64 ((i4) + ((n6 : Nat))) : Int) ∧ (IntKind.wrap .i64 ((i4) + ((n6 : Nat))) : Int) ≤ (((Int.toNat (IntKind.wrap .i64 (((n2 : Nat)) + ((n6 : Nat)))) - Int.toNat (0)) : Nat) : Int) ∧ (((Int.toNat (IntKind.wrap .i64 (((n2 : Nat)) + ((n6 : Nat)))) - Int.toNat (0)) : Nat) : Int) ≤ ((c3 - Int.toNat (0)) : Nat) ∧
 0 ≤ (i4 : Int) ∧ (i4 : Int) ≤ (((Int.toNat (IntKind.wrap .i64 (((n2 : Nat)) + ((n6 : Nat)))) - Int.toNat (0)) : Nat) : Int) ∧ (((Int.toNat (IntKind.wrap .i64 (((n2 : Nat)) + ((n6 : Nat)))) - Int.toNat (0)) : Nat) : Int) ≤ ((c3 - Int.toNat (0)) : Nat) ∧
 semH PG B (Builtin.copy_ #[164, 164] 3 #[(.slice (if (c3 - Int.toNat (0)) = Int.toNat (IntKind.wrap .i64 ((i4) + ((n6 : Nat)))) then (if c3 = Int.toNat (0) then a1 else Option.map (·.add (Int.toNat (0) * 2)) a1) else Option.map (·.add (Int.toNat (IntKind.wrap .i64 ((i4) + ((n6 : Nat)))) * 2)) (if c3 = Int.toNat (0) then a1 else Option.map (·.add (Int.toNat (0) * 2)) a1)) (Int.toNat (((Int.toNat (IntKind.wrap .i64 (((n2 : Nat)) + ((n6 : Nat)))) - Int.toNat (0)) : Nat)) - Int.toNat (IntKind.wrap .i64 ((i4) + ((n6 : Nat))))) ((c3 - Int.toNat (0)) - Int.toNat (IntKind.wrap .i64 ((i4) + ((n6 : Nat)))))), (.slice (if (c3 - Int.toNat (0)) = Int.toNat (i4) then (if c3 = Int.toNat (0) then a1 else Option.map (·.add (Int.toNat (0) * 2)) a1) else Option.map (·.add (Int.toNat (i4) * 2)) (if c3 = Int.toNat (0) then a1 else Option.map (·.add (Int.toNat (0) * 2)) a1)) (Int.toNat (((Int.toNat (IntKind.wrap .i64 (((n2 : Nat)) + ((n6 : Nat)))) - Int.toNat (0)) : Nat)) - Int.toNat (i4)) ((c3 - Int.toNat (0)) - Int.toNat (i4)))]) h23 (fun v h25 => ∃ i26 : Int, v = (.int .i64 (i26)) ∧
 0 ≤ (i4 : Int) ∧ (i4 : Int) ≤ (((Int.toNat (IntKind.wrap .i64 (((n2 : Nat)) + ((n6 : Nat)))) - Int.toNat (0)) : Nat) : Int) ∧ (((Int.toNat (IntKind.wrap .i64 (((n2 : Nat)) + ((n6 : Nat)))) - Int.toNat (0)) : Nat) : Int) ≤ ((c3 - Int.toNat (0)) : Nat) ∧
 semH PG B (Builtin.copy_ #[164, 164] 3 #[(.slice (if (c3 - Int.toNat (0)) = Int.toNat (i4) then (if c3 = Int.toNat (0) then a1 else Option.map (·.add (Int.toNat (0) * 2)) a1) else Option.map (·.add (Int.toNat (i4) * 2)) (if c3 = Int.toNat (0) then a1 else Option.map (·.add (Int.toNat (0) * 2)) a1)) (Int.toNat (((Int.toNat (IntKind.wrap .i64 (((n2 : Nat)) + ((n6 : Nat)))) - Int.toNat (0)) : Nat)) - Int.toNat (i4)) ((c3 - Int.toNat (0)) - Int.toNat (i4))), (.slice a5 n6 c7)]) h25 (fun v h27 => ∃ i28 : Int, v = (.int .i64 (i28)) ∧
 Fin B h27 (Q (if c3 = Int.toNat (0) then a1 else Option.map (·.add (Int.toNat (0) * 2)) a1) (Int.toNat (IntKind.wrap .i64 (((n2 : Nat)) + ((n6 : Nat)))) - Int.toNat (0)) (c3 - Int.toNat (0))))))))))
def S_cell_New_file_File (B : RO) (i1 : Int) (b2 : Bool) (s3 : ByteArray) (h : Heap) (Q : Option Addr → Heap → Prop) : Prop :=
 ∀ k5 : Nat, h k5 = none → B k5 = none → ∀ h6 : Heap, h6 = Heap.set h k5 (.vec 119 (plains [(.bool b2), (.string s3)]) 2) →
 ∀ k7 : Nat, h6 k7 = none → B k7 = none → ∀ h8 : Heap, h8 = Heap.set h6 k7 (.vec 219 (plains [(.slice none 0 0)]) 1) →
 ∃ (J14 : Int → Nat → Heap → Prop) (m12 : Nat), Fin B h8 (J14 (0) m12) ∧
 ∀ (i9 : Int) (m11 : Nat) (h10 : Heap), J14 i9 m11 h10 →
 ((i9 : Int) < (i1) →
 ∃ a19 : Option Addr, ∃ n20 : Nat, ∃ c21 : Nat, cellH B h10 ⟨k7, 0, none⟩ = some (.slice a19 n20 c21) ∧
 ∃ b23 : Bool, ∃ s24 : ByteArray, CellsAt B h10 ⟨k5, 0, none⟩ 0 [(.bool b23), (.string s24)] ∧
 ∀ k27 : Nat, h10 k27 = none → B k27 = none → ∀ h28 : Heap, h28 = Heap.set h10 k27 (.vec 216 (plains [(.bool b23), (.string s24), (.int .i64 (0))]) 3) →
 cellH B h28 ⟨k7, 0, none⟩ = some (.slice a19 n20 c21) ∧ CellsAt B h28 ⟨k5, 0, none⟩ 0 [(.bool b23), (.string s24)] ∧
 semH PG B (Builtin.append_ #[217, 217] 217 #[(.slice a19 n20 c21), (.slice (some ⟨k27, 0, none⟩) 1 1)]) h28 (fun v h31 => ∃ a32 : Option Addr, ∃ n33 : Nat, ∃ c34 : Nat, v = (.slice a32 n33 c34) ∧
 cellH B h31 ⟨k7, 0, none⟩ = some (.slice a19 n20 c21) ∧ CellsAt B h31 ⟨k5, 0, none⟩ 0 [(.bool b23), (.string s24)] ∧
 ∃ h37 : Heap, storeH h31 ⟨k7, 0, none⟩ (.slice a32 n33 c34) = some h37 ∧
 Fin B h37 (fun h' => ∃ m', m' < m11 ∧ J14 (IntKind.wrap .i64 ((i9) + (1))) m' h'))) ∧ (¬ ((i9 : Int) < (i1)) →
 Fin B h10 (Q (some ⟨k7, 0, none⟩)))
def S_sheet_New (B : RO) (h : Heap) (Q : Option Addr → Heap → Prop) : Prop :=
 ∀ k2 : Nat, h k2 = none → B k2 = none → ∀ h3 : Heap, h3 = Heap.set h k2 (.vec 207 (plains [(.slice none 0 0)]) 1) →
 ∀ k4 : Nat, h3 k4 = none → B k4 = none → ∀ h5 : Heap, h5 = Heap.set h3 k4 (.vec 204 (plains [(.pointer (some ⟨k2, 0, none⟩))]) 1) →
 Fin B h5 (Q (some ⟨k4, 0, none⟩))
def S_mark_State_Copy (B : RO) (p1 : Option Addr) (p2 : Option Addr) (p3 : Option Addr) (i4 : Int) (i5 : Int) (i6 : Int) (i7 : Int) (h : Heap) (Q : Option Addr → Option Addr → Option Addr → Int → Int → Int → Int → Heap → Prop) : Prop :=
 ∀ k15 : Nat, h k15 = none → B k15 = none → ∀ h16 : Heap, h16 = Heap.set h k15 (.vec 95 (plains [(.pointer p1), (.pointer p2), (.pointer p3), (.int .i64 (i4)), (.int .i64 (i5)), (.int .i64 (i6)), (.int .i64 (i7))]) 7) →
 ∀ k17 : Nat, h16 k17 = none → B k17 = none → ∀ h18 : Heap, h18 = Heap.set h16 k17 (.vec 95 (plains [(.pointer none), (.pointer none), (.pointer none), (.int .i64 (0)), (.int .i64 (0)), (.int .i64 (0)), (.int .i64 (0))]) 7) →
 ∃ p20 : Option Addr, cellH B h18 ⟨k15, 0, none⟩ = some (.pointer p20) ∧
 ∃ p23 : Option Addr, cellH B h18 ⟨k15, 1, none⟩ = some (.pointer p23) ∧
 ∃ p26 : Option Addr, cellH B h18 ⟨k15, 2, none⟩ = some (.pointer p26) ∧
 ∃ i29 : Int, ∃ i30 : Int, ∃ i31 : Int, ∃ i32 : Int, CellsAt B h18 ⟨k15, 3, none⟩ 0 [(.int .i64 (i29)), (.int .i64 (i30)), (.int .i64 (i31)), (.int .i64 (i32))] ∧
 C_draft_Draft_int_Copy B p20 h18 (fun p35 h34 =>
 cellH B h34 ⟨k15, 0, none⟩ = some (.pointer p20) ∧ cellH B h34 ⟨k15, 1, none⟩ = some (.pointer p23) ∧ cellH B h34 ⟨k15, 2, none⟩ = some (.pointer p26) ∧ CellsAt B h34 ⟨k15, 3, none⟩ 0 [(.int .i64 (i29)), (.int .i64 (i30)), (.int .i64 (i31)), (.int .i64 (i32))] ∧
 C_sheet_Sheet_Copy B p23 h34 (fun p41 h40 =>
 cellH B h40 ⟨k15, 0, none⟩ = some (.pointer p20) ∧ cellH B h40 ⟨k15, 1, none⟩ = some (.pointer p23) ∧ cellH B h40 ⟨k15, 2, none⟩ = some (.pointer p26) ∧ CellsAt B h40 ⟨k15, 3, none⟩ 0 [(.int .i64 (i29)), (.int .i64 (i30)), (.int .i64 (i31)), (.int .i64 (i32))] ∧
 C_cursor_Cursor_Copy B p26 h40 (fun p47 h46 =>
 cellH B h46 ⟨k15, 0, none⟩ = some (.pointer p20) ∧ cellH B h46 ⟨k15, 1, none⟩ = some (.pointer p23) ∧ cellH B h46 ⟨k15, 2, none⟩ = some (.pointer p26) ∧ CellsAt B h46 ⟨k15, 3, none⟩ 0 [(.int .i64 (i29)), (.int .i64 (i30)), (.int .i64 (i31)), (.int .i64 (i32))] ∧
 ∃ h52 : Heap, StoresAt ⟨k17, 0, none⟩ h46 0 [(.pointer p35), (.pointer p41), (.pointer p47), (.int .i64 (i29)), (.int .i64 (i30)), (.int .i64 (i31)), (.int .i64 (i32))] h52 ∧
 ∃ p53 : Option Addr, ∃ p54 : Option Addr, ∃ p55 : Option Addr, ∃ i56 : Int, ∃ i57 : Int, ∃ i58 : Int, ∃ i59 : Int, CellsAt B h52 ⟨k17, 0, none⟩ 0 [(.pointer p53), (.pointer p54), (.pointer p55), (.int .i64 (i56)), (.int .i64 (i57)), (.int .i64 (i58)), (.int .i64 (i59))] ∧ Fin B h52 (Q p53 p54 p55 (i56) (i57) (i58) (i59)))))
def S_slices_Delete_s_mark_Mark_mark_Mark (B : RO) (a1 : Option Addr) (n2 : Nat) (c3 : Nat) (i4 : Int) (i5 : Int) (h : Heap) (Q : Option Addr → Nat → Nat → Heap → Prop) : Prop :=
 0 ≤ (i4 : Int) ∧ (i4 : Int) ≤ (i5 : Int) ∧ (i5 : Int) ≤ ((n2 : Nat) : Int) ∧ ((n2 : Nat) : Int) ≤ (c3 : Nat) ∧
 ((i4 : Int) = i5 →
 Fin B h (Q a1 n2 c3)) ∧ (¬ ((i4 : Int) = i5) →
 0 ≤ (0 : Int) ∧ (0 : Int) ≤ (i4 : Int) ∧ (i4 : Int) ≤ (c3 : Nat) ∧
 0 ≤ (i5 : Int) ∧ (i5 : Int) ≤ ((n2 : Nat) : Int) ∧ ((n2 : Nat) : Int) ≤ (c3 : Nat) ∧
 semH PG B (Builtin.append_ #[145, 145] 145 #[(.slice (if c3 = Int.toNat (0) then a1 else Option.map (·.add (Int.toNat (0) * 12)) a1) (Int.toNat (i4) - Int.toNat (0)) (c3 - Int.toNat (0))), (.slice (if c3 = Int.toNat (i5) then a1 else Option.map (·.add (Int.toNat (i5) * 12)) a1) (Int.toNat ((n2 : Nat)) - Int.toNat (i5)) (c3 - Int.toNat (i5)))]) h (fun v h21 => ∃ a22 : Option Addr, ∃ n23 : Nat, ∃ c24 : Nat, v = (.slice a22 n23 c24) ∧
 0 ≤ ((n23 : Nat) : Int) ∧ ((n23 : Nat) : Int) ≤ ((n2 : Nat) : Int) ∧ ((n2 : Nat) : Int) ≤ (c24 : Nat) ∧
 semH PG B (Builtin.clear_ #[145] 0 #[(.slice (if c24 = Int.toNat ((n23 : Nat)) then a22 else Option.map (·.add (Int.toNat ((n23 : Nat)) * 12)) a22) (Int.toNat ((n2 : Nat)) - Int.toNat ((n23 : Nat))) (c24 - Int.toNat ((n23 : Nat))))]) h21 (fun v h25 => v = (.tuple #[]) ∧
 Fin B h25 (Q a22 n23 c24))))
def S_acts_first_acts_Out (B : RO) (a1 : Option Addr) (n2 : Nat) (c3 : Nat) (i4 : Int) (h : Heap) (Q : Option Addr → Nat → Nat → Heap → Prop) : Prop :=
 0 ≤ (if ((n2 : Nat) : Int) < (if (0 : Int) > (i4) then (0 : Int) else (i4)) then ((n2 : Nat) : Int) else (if (0 : Int) > (i4) then (0 : Int) else (i4)) : Int) ∧ (if ((n2 : Nat) : Int) < (if (0 : Int) > (i4) then (0 : Int) else (i4)) then ((n2 : Nat) : Int) else (if (0 : Int) > (i4) then (0 : Int) else (i4)) : Int) ≤ (if ((n2 : Nat) : Int) < (if (0 : Int) > (i4) then (0 : Int) else (i4)) then ((n2 : Nat) : Int) else (if (0 : Int) > (i4) then (0 : Int) else (i4)) : Int) ∧ (if ((n2 : Nat) : Int) < (if (0 : Int) > (i4) then (0 : Int) else (i4)) then ((n2 : Nat) : Int) else (if (0 : Int) > (i4) then (0 : Int) else (i4)) : Int) ≤ (c3 : Nat) ∧
 Fin B h (Q (if Int.toNat (if ((n2 : Nat) : Int) < (if (0 : Int) > (i4) then (0 : Int) else (i4)) then ((n2 : Nat) : Int) else (if (0 : Int) > (i4) then (0 : Int) else (i4))) = 0 then a1 else Option.map (·.add (0 * 2)) a1) (Int.toNat (if ((n2 : Nat) : Int) < (if (0 : Int) > (i4) then (0 : Int) else (i4)) then ((n2 : Nat) : Int) else (if (0 : Int) > (i4) then (0 : Int) else (i4)))) (Int.toNat (if ((n2 : Nat) : Int) < (if (0 : Int) > (i4) then (0 : Int) else (i4)) then ((n2 : Nat) : Int) else (if (0 : Int) > (i4) then (0 : Int) else (i4)))))
def S_acts_first_int (B : RO) (a1 : Option Addr) (n2 : Nat) (c3 : Nat) (i4 : Int) (h : Heap) (Q : Option Addr → Nat → Nat → Heap → Prop) : Prop :=
 0 ≤ (if ((n2 : Nat) : Int) < (if (0 : Int) > (i4) then (0 : Int) else (i4)) then ((n2 : Nat) : Int) else (if (0 : Int) > (i4) then (0 : Int) else (i4)) : Int) ∧ (if ((n2 : Nat) : Int) < (if (0 : Int) > (i4) then (0 : Int) else (i4)) then ((n2 : Nat) : Int) else (if (0 : Int) > (i4) then (0 : Int) else (i4)) : Int) ≤ (if ((n2 : Nat) : Int) < (if (0 : Int) > (i4) then (0 : Int) else (i4)) then ((n2 : Nat) : Int) else (if (0 : Int) > (i4) then (0 : Int) else (i4)) : Int) ∧ (if ((n2 : Nat) : Int) < (if (0 : Int) > (i4) then (0 : Int) else (i4)) then ((n2 : Nat) : Int) else (if (0 : Int) > (i4) then (0 : Int) else (i4)) : Int) ≤ (c3 : Nat) ∧
 Fin B h (Q (if Int.toNat (if ((n2 : Nat) : Int) < (if (0 : Int) > (i4) then (0 : Int) else (i4)) then ((n2 : Nat) : Int) else (if (0 : Int) > (i4) then (0 : Int) else (i4))) = 0 then a1 else Option.map (·.add (0 * 1)) a1) (Int.toNat (if ((n2 : Nat) : Int) < (if (0 : Int) > (i4) then (0 : Int) else (i4)) then ((n2 : Nat) : Int) else (if (0 : Int) > (i4) then (0 : Int) else (i4)))) (Int.toNat (if ((n2 : Nat) : Int) < (if (0 : Int) > (i4) then (0 : Int) else (i4)) then ((n2 : Nat) : Int) else (if (0 : Int) > (i4) then (0 : Int) else (i4)))))
def S_acts_first_acts_Open (B : RO) (a1 : Option Addr) (n2 : Nat) (c3 : Nat) (i4 : Int) (h : Heap) (Q : Option Addr → Nat → Nat → Heap → Prop) : Prop :=
 0 ≤ (if ((n2 : Nat) : Int) < (if (0 : Int) > (i4) then (0 : Int) else (i4)) then ((n2 : Nat) : Int) else (if (0 : Int) > (i4) then (0 : Int) else (i4)) : Int) ∧ (if ((n2 : Nat) : Int) < (if (0 : Int) > (i4) then (0 : Int) else (i4)) then ((n2 : Nat) : Int) else (if (0 : Int) > (i4) then (0 : Int) else (i4)) : Int) ≤ (if ((n2 : Nat) : Int) < (if (0 : Int) > (i4) then (0 : Int) else (i4)) then ((n2 : Nat) : Int) else (if (0 : Int) > (i4) then (0 : Int) else (i4)) : Int) ∧ (if ((n2 : Nat) : Int) < (if (0 : Int) > (i4) then (0 : Int) else (i4)) then ((n2 : Nat) : Int) else (if (0 : Int) > (i4) then (0 : Int) else (i4)) : Int) ≤ (c3 : Nat) ∧
 Fin B h (Q (if Int.toNat (if ((n2 : Nat) : Int) < (if (0 : Int) > (i4) then (0 : Int) else (i4)) then ((n2 : Nat) : Int) else (if (0 : Int) > (i4) then (0 : Int) else (i4))) = 0 then a1 else Option.map (·.add (0 * 2)) a1) (Int.toNat (if ((n2 : Nat) : Int) < (if (0 : Int) > (i4) then (0 : Int) else (i4)) then ((n2 : Nat) : Int) else (if (0 : Int) > (i4) then (0 : Int) else (i4)))) (Int.toNat (if ((n2 : Nat) : Int) < (if (0 : Int) > (i4) then (0 : Int) else (i4)) then ((n2 : Nat) : Int) else (if (0 : Int) > (i4) then (0 : Int) else (i4)))))
def S_acts_undo (B : RO) (a1 : Option Addr) (n2 : Nat) (c3 : Nat) (h : Heap) (Q : Option Addr → Nat → Nat → Heap → Prop) : Prop :=
 ∀ k7 : Nat, h k7 = none → B k7 = none → ∀ h8 : Heap, h8 = Heap.set h k7 (.vec 80 (plains [(.slice none 0 0)]) 1) →
 C_slices_Backward_s_acts_Open_acts_Open B a1 n2 c3 h8 (fun v10 h9 =>
 ∃ (xs18 : List (Int × Int × Int)) (G14 : Heap → Prop) (J17 : Nat → Heap → Prop), Iter PG B v10 (xs18.map (fun x : Int × Int × Int => [(.int .i64 (x.1)), (.agg #[(.int .i64 (x.2.1)), (.int .i64 (x.2.2))])])) G14 ∧ Ins G14 ∧ (∀ i h, J17 i h → G14 h) ∧ Fin B h9 (J17 0) ∧
 (∀ (q16 : Nat) (h15 : Heap) (i11 : Int) (i12 : Int) (i13 : Int), xs18[q16]? = some (i11, i12, i13) → J17 q16 h15 →
 ∀ k19 : Nat, h15 k19 = none → B k19 = none → ∀ h20 : Heap, h20 = Heap.set h15 k19 (.vec 100 (plains [(.int .i64 (0)), (.int .i64 (0))]) 2) →
 ∃ h21 : Heap, StoresAt ⟨k19, 0, none⟩ h20 0 [(.int .i64 (i12)), (.int .i64 (i13))] h21 ∧
 LdSl B h21 ⟨k7, 0, none⟩ fun a22 n23 c24 h25 =>
 ∃ i26 : Int, cellH B h25 ⟨k19, 0, none⟩ = some (.int .i64 (i26)) ∧
 ∃ i27 : Int, cellH B h25 ⟨k19, 1, none⟩ = some (.int .i64 (i27)) ∧
 ∀ k28 : Nat, h25 k28 = none → B k28 = none → ∀ h29 : Heap, h29 = Heap.set h25 k28 (.vec 100 (plains [(.int .i64 (i26)), (.int .i64 (IntKind.wrap .i64 (0 - (i27))))]) 2) →
 semH PG B (Builtin.append_ #[80, 80] 80 #[(.slice a22 n23 c24), (.slice (some ⟨k28, 0, none⟩) 1 1)]) h29 (fun v h30 => ∃ a31 : Option Addr, ∃ n32 : Nat, ∃ c33 : Nat, v = (.slice a31 n32 c33) ∧
 ∃ h34 : Heap, storeH h30 ⟨k7, 0, none⟩ (.slice a31 n32 c33) = some h34 ∧
 Fin B h34 (J17 (q16 + 1)))) ∧
 (∀ (h15 : Heap), J17 xs18.length h15 →
 LdSl B h15 ⟨k7, 0, none⟩ fun a35 n36 c37 h38 =>
 Fin B h38 (Q a35 n36 c37)))
def S_slices_BinarySearchFunc_s_draft_entry_int_draft_entry_int_int_J1 (B : RO) (a1 : Option Addr) (n2 : Nat) (c3 : Nat) (i4 : Int) (v5 : Value) (i9 : Int) (h10 : Heap) (Q : Int → Bool → Heap → Prop) : Prop :=
 ((i9 : Int) < ((n2 : Nat)) →
 ∃ A11 : Addr, a1 = some A11 ∧ 0 ≤ (i9 : Int) ∧ (i9 : Int) < (n2 : Nat) ∧
 ∃ i13 : Int, ∃ i14 : Int, CellsAt B h10 (Addr.add A11 (Int.toNat (i9) * 2)) 0 [(.int .i64 (i13)), (.int .i64 (i14))] ∧
 CallV PG B v5 [(.agg #[(.int .i64 (i13)), (.int .i64 (i14))]), (.int .i64 (i4))] h10 (fun v h15 => ∃ i16 : Int, v = (.int .i64 (i16)) ∧
 Fin B h15 (Q (i9) (((i16 : Int) == (0)))))) ∧ (¬ ((i9 : Int) < ((n2 : Nat))) →
 Fin B h10 (Q (i9) (false)))
def S_slices_BinarySearchFunc_s_draft_entry_int_draft_entry_int_int (B : RO) (a1 : Option Addr) (n2 : Nat) (c3 : Nat) (i4 : Int) (v5 : Value) (h : Heap) (Q : Int → Bool → Heap → Prop) : Prop :=
 ∃ (J23 : Int → Int → Nat → Heap → Prop) (m21 : Nat), Fin B h (J23 (0) ((n2 : Nat)) m21) ∧
 ∀ (i17 : Int) (i18 : Int) (m20 : Nat) (h19 : Heap), J23 i17 i18 m20 h19 →
 ((i17 : Int) < (i18) →
 ¬ ((1 : Int) < 0) ∧
 ∃ A24 : Addr, a1 = some A24 ∧ 0 ≤ (IntKind.wrap .i64 (Int.fdiv (IntKind.wrap .u64 (IntKind.wrap .i64 ((i17) + (i18)))) (2 ^ (min (Int.toNat (1)) (IntKind.bits .u64)))) : Int) ∧ (IntKind.wrap .i64 (Int.fdiv (IntKind.wrap .u64 (IntKind.wrap .i64 ((i17) + (i18)))) (2 ^ (min (Int.toNat (1)) (IntKind.bits .u64)))) : Int) < (n2 : Nat) ∧
 ∃ i26 : Int, ∃ i27 : Int, CellsAt B h19 (Addr.add A24 (Int.toNat (IntKind.wrap .i64 (Int.fdiv (IntKind.wrap .u64 (IntKind.wrap .i64 ((i17) + (i18)))) (2 ^ (min (Int.toNat (1)) (IntKind.bits .u64))))) * 2)) 0 [(.int .i64 (i26)), (.int .i64 (i27))] ∧
 CallV PG B v5 [(.agg #[(.int .i64 (i26)), (.int .i64 (i27))]), (.int .i64 (i4))] h19 (fun v h28 => ∃ i29 : Int, v = (.int .i64 (i29)) ∧
 ((i29 : Int) < (0) →
 Fin B h28 (fun h' => ∃ m', m' < m20 ∧ J23 (IntKind.wrap .i64 ((IntKind.wrap .i64 (Int.fdiv (IntKind.wrap .u64 (IntKind.wrap .i64 ((i17) + (i18)))) (2 ^ (min (Int.toNat (1)) (IntKind.bits .u64))))) + (1))) (i18) m' h')) ∧ (¬ ((i29 : Int) < (0)) →
 Fin B h28 (fun h' => ∃ m', m' < m20 ∧ J23 (i17) (IntKind.wrap .i64 (Int.fdiv (IntKind.wrap .u64 (IntKind.wrap .i64 ((i17) + (i18)))) (2 ^ (min (Int.toNat (1)) (IntKind.bits .u64))))) m' h')))) ∧ (¬ ((i17 : Int) < (i18)) →
 Fin B h19 (fun h' => S_slices_BinarySearchFunc_s_draft_entry_int_draft_entry_int_int_J1 B a1 n2 c3 i4 v5 (i17) h' Q))
def S_draft_by_int (B : RO) (i1 : Int) (i2 : Int) (i3 : Int) (h : Heap) (Q : Int → Heap → Prop) : Prop :=
 ∀ k5 : Nat, h k5 = none → B k5 = none → ∀ h6 : Heap, h6 = Heap.set h k5 (.vec 163 (plains [(.int .i64 (i1)), (.int .i64 (i2))]) 2) →
 ∃ i7 : Int, cellH B h6 ⟨k5, 0, none⟩ = some (.int .i64 (i7)) ∧
 ((i7 : Int) < (i3) →
 Fin B h6 (Q ((-1)))) ∧ (¬ ((i7 : Int) < (i3)) →
 ∃ i8 : Int, cellH B h6 ⟨k5, 0, none⟩ = some (.int .i64 (i8)) ∧
 ((i8 : Int) > (i3) →
 Fin B h6 (Q (1))) ∧ (¬ ((i8 : Int) > (i3)) →
 Fin B h6 (Q (0))))
def S_reads_Set_place (B : RO) (p1 : Option Addr) (i2 : Int) (i3 : Int) (h : Heap) (Q : Int → Heap → Prop) : Prop :=
 ∀ k5 : Nat, h k5 = none → B k5 = none → ∀ h6 : Heap, h6 = Heap.set h k5 (.vec 110 [.plain (.int .i64 (i2))] 1) →
 ∀ k7 : Nat, h6 k7 = none → B k7 = none → ∀ h8 : Heap, h8 = Heap.set h6 k7 (.vec 3 [.plain (.int .i64 (i3))] 1) →
 ∃ A9 : Addr, p1 = some A9 ∧
 LdSl B h8 A9 fun a11 n12 c13 h14 =>
 C_slices_IndexFunc_s_reads_Entry_reads_Entry B a11 n12 c13 (Value.func (.func 133) #[] #[(.pointer (some ⟨k5, 0, none⟩)), (.pointer (some ⟨k7, 0, none⟩))]) h14 (fun i16 h15 =>
 Fin B h15 (Q (i16)))
def S_draft_Draft_file_File_All_1 (B : RO) (v1 : Value) (A2 : Addr) (h : Heap) (Q : Heap → Prop) : Prop :=
 ∃ p3 : Option Addr, cellH B h A2 = some (.pointer p3) ∧
 (p3 = none →
 Fin B h (Q)) ∧ (¬ (p3 = none) →
 ∃ p5 : Option Addr, cellH B h A2 = some (.pointer p5) ∧
 ∃ A6 : Addr, p5 = some A6 ∧
 LdSl B h A6 fun a8 n9 c10 h11 =>
 ∃ (J17 : Int → Nat → Heap → Prop) (m15 : Nat), Fin B h11 (J17 (0) m15) ∧
 ∀ (i12 : Int) (m14 : Nat) (h13 : Heap), J17 i12 m14 h13 →
 ((i12 : Int) < ((n9 : Nat)) →
 ∃ A18 : Addr, a8 = some A18 ∧ 0 ≤ (i12 : Int) ∧ (i12 : Int) < (n9 : Nat) ∧
 ∃ i20 : Int, ∃ b21 : Bool, ∃ s22 : ByteArray, CellsAt B h13 (Addr.add A18 (Int.toNat (i12) * 3)) 0 [(.int .i64 (i20)), (.bool b21), (.string s22)] ∧
 ∀ k23 : Nat, h13 k23 = none → B k23 = none → ∀ h24 : Heap, h24 = Heap.set h13 k23 (.vec 213 (plains [(.int .i64 (0)), (.bool false), (.string ByteArray.empty)]) 3) →
 ∃ h25 : Heap, StoresAt ⟨k23, 0, none⟩ h24 0 [(.int .i64 (i20)), (.bool b21), (.string s22)] h25 ∧
 ∃ i26 : Int, cellH B h25 ⟨k23, 0, none⟩ = some (.int .i64 (i26)) ∧
 ∃ b27 : Bool, ∃ s28 : ByteArray, CellsAt B h25 ⟨k23, 1, none⟩ 0 [(.bool b27), (.string s28)] ∧
 CallV PG B v1 [(.int .i64 (i26)), (.agg #[(.bool b27), (.string s28)])] h25 (fun v h29 => ∃ b30 : Bool, v = (.bool b30) ∧
 (b30 = true →
 Fin B h29 (fun h' => ∃ m', m' < m14 ∧ J17 (IntKind.wrap .i64 ((i12) + (1))) m' h')) ∧ (b30 = false →
 Fin B h29 (Q)))) ∧ (¬ ((i12 : Int) < ((n9 : Nat))) →
 Fin B h13 (Q)))
def S_file_Good (B : RO) (b1 : Bool) (s2 : ByteArray) (h : Heap) (Q : Bool → Heap → Prop) : Prop :=
 ∀ k4 : Nat, h k4 = none → B k4 = none → ∀ h5 : Heap, h5 = Heap.set h k4 (.vec 119 (plains [(.bool b1), (.string s2)]) 2) →
 ∃ s6 : ByteArray, cellH B h5 ⟨k4, 1, none⟩ = some (.string s6) ∧
 (((ByteArray.size s6 : Nat) : Int) ≤ (32) →
 ∃ b7 : Bool, cellH B h5 ⟨k4, 0, none⟩ = some (.bool b7) ∧ (b7 = true →
 Fin B h5 (Q (true))) ∧ (b7 = false →
 ∃ s8 : ByteArray, cellH B h5 ⟨k4, 1, none⟩ = some (.string s8) ∧
 Fin B h5 (Q ((decide (s8 = (ByteArray.mk #[]))))))) ∧ (¬ (((ByteArray.size s6 : Nat) : Int) ≤ (32)) →
 Fin B h5 (Q (false)))
def S_cell_Row_file_File_Set (B : RO) (p1 : Option Addr) (i2 : Int) (b3 : Bool) (s4 : ByteArray) (i5 : Int) (h : Heap) (Q : Bool → Heap → Prop) : Prop :=
 ∀ k7 : Nat, h k7 = none → B k7 = none → ∀ h8 : Heap, h8 = Heap.set h k7 (.vec 119 (plains [(.bool b3), (.string s4)]) 2) →
 C_cell_Row_file_File_is B p1 (i2) h8 (fun b10 h9 =>
 (b10 = true →
 ∃ A11 : Addr, p1 = some A11 ∧
 ∃ a13 : Option Addr, ∃ n14 : Nat, ∃ c15 : Nat, cellH B h9 A11 = some (.slice a13 n14 c15) ∧
 ∃ b16 : Bool, ∃ s17 : ByteArray, CellsAt B h9 ⟨k7, 0, none⟩ 0 [(.bool b16), (.string s17)] ∧
 ∃ A18 : Addr, a13 = some A18 ∧ 0 ≤ (i2 : Int) ∧ (i2 : Int) < (n14 : Nat) ∧
 ∃ h20 : Heap, StoresAt (Addr.add A18 (Int.toNat (i2) * 3)) h9 0 [(.bool b16), (.string s17), (.int .i64 (i5))] h20 ∧
 Fin B h20 (Q (true))) ∧ (b10 = false →
 Fin B h9 (Q (false))))
def S_cell_Row_file_File_is (B : RO) (p1 : Option Addr) (i2 : Int) (h : Heap) (Q : Bool → Heap → Prop) : Prop :=
 (p1 = none →
 Fin B h (Q (false))) ∧ (¬ (p1 = none) →
 ((i2 : Int) ≥ (0) →
 ∃ A5 : Addr, p1 = some A5 ∧
 LdSl B h A5 fun a7 n8 c9 h10 =>
 Fin B h10 (Q ((decide ((i2 : Int) < ((n8 : Nat))))))) ∧ (¬ ((i2 : Int) ≥ (0)) →
 Fin B h (Q (false))))
def S_sheet_Sheet_Get_J1 (B : RO) (p2 : Option Addr) (i3 : Int) (k7 : Nat) (h10 : Heap) (Q : Bool → ByteArray → Bool → Heap → Prop) : Prop :=
 C_tome_Tome_Get B p2 (i3) h10 (fun b12 s13 i14 h11 =>
 ∀ k15 : Nat, h11 k15 = none → B k15 = none → ∀ h16 : Heap, h16 = Heap.set h11 k15 (.vec 119 (plains [(.bool false), (.string ByteArray.empty)]) 2) →
 ∃ h17 : Heap, StoresAt ⟨k15, 0, none⟩ h16 0 [(.bool b12), (.string s13)] h17 ∧
 ∃ b18 : Bool, ∃ s19 : ByteArray, CellsAt B h17 ⟨k15, 0, none⟩ 0 [(.bool b18), (.string s19)] ∧
 ∃ h20 : Heap, StoresAt ⟨k7, 0, none⟩ h17 0 [(.bool b18), (.string s19)] h20 ∧
 ∃ b21 : Bool, ∃ s22 : ByteArray, CellsAt B h20 ⟨k7, 0, none⟩ 0 [(.bool b21), (.string s22)] ∧ Fin B h20 (Q (b21) s22 (false)))
def S_sheet_Sheet_Get (B : RO) (p1 : Option Addr) (p2 : Option Addr) (i3 : Int) (h : Heap) (Q : Bool → ByteArray → Bool → Heap → Prop) : Prop :=
 ∀ k7 : Nat, h k7 = none → B k7 = none → ∀ h8 : Heap, h8 = Heap.set h k7 (.vec 119 (plains [(.bool false), (.string ByteArray.empty)]) 2) →
 (p1 = none →
 Fin B h8 (fun h' => S_sheet_Sheet_Get_J1 B p2 i3 k7 h' Q)) ∧ (¬ (p1 = none) →
 ∃ A24 : Addr, p1 = some A24 ∧
 ∃ p26 : Option Addr, cellH B h8 A24 = some (.pointer p26) ∧
 C_draft_Draft_file_File_Get B p26 (i3) h8 (fun b28 s29 b30 h27 =>
 (b30 = true →
 ∀ k34 : Nat, h27 k34 = none → B k34 = none → ∀ h35 : Heap, h35 = Heap.set h27 k34 (.vec 119 (plains [(.bool false), (.string ByteArray.empty)]) 2) →
 ∃ h36 : Heap, StoresAt ⟨k34, 0, none⟩ h35 0 [(.bool b28), (.string s29)] h36 ∧
 ∃ b37 : Bool, ∃ s38 : ByteArray, CellsAt B h36 ⟨k34, 0, none⟩ 0 [(.bool b37), (.string s38)] ∧
 ∃ h39 : Heap, StoresAt ⟨k7, 0, none⟩ h36 0 [(.bool b37), (.string s38)] h39 ∧
 ∃ b40 : Bool, ∃ s41 : ByteArray, CellsAt B h39 ⟨k7, 0, none⟩ 0 [(.bool b40), (.string s41)] ∧ Fin B h39 (Q (b40) s41 (true))) ∧ (b30 = false →
 ∀ k31 : Nat, h27 k31 = none → B k31 = none → ∀ h32 : Heap, h32 = Heap.set h27 k31 (.vec 119 (plains [(.bool false), (.string ByteArray.empty)]) 2) →
 ∃ h33 : Heap, StoresAt ⟨k31, 0, none⟩ h32 0 [(.bool b28), (.string s29)] h33 ∧
 Fin B h33 (fun h' => S_sheet_Sheet_Get_J1 B p2 i3 k7 h' Q))))
def S_sheet_Sheet_put_J1 (B : RO) (p1 : Option Addr) (p2 : Option Addr) (i3 : Int) (k7 : Nat) (h10 : Heap) (Q : Bool → Heap → Prop) : Prop :=
 C_sheet_Sheet_Get B p1 p2 (i3) h10 (fun b12 s13 b14 h11 =>
 ∀ k15 : Nat, h11 k15 = none → B k15 = none → ∀ h16 : Heap, h16 = Heap.set h11 k15 (.vec 119 (plains [(.bool false), (.string ByteArray.empty)]) 2) →
 ∃ h17 : Heap, StoresAt ⟨k15, 0, none⟩ h16 0 [(.bool b12), (.string s13)] h17 ∧
 ∃ b18 : Bool, ∃ s19 : ByteArray, CellsAt B h17 ⟨k15, 0, none⟩ 0 [(.bool b18), (.string s19)] ∧
 ∃ b20 : Bool, ∃ s21 : ByteArray, CellsAt B h17 ⟨k7, 0, none⟩ 0 [(.bool b20), (.string s21)] ∧
 (eqL [(.bool b18), (.string s19)] [(.bool b20), (.string s21)] = true →
 Fin B h17 (Q (true))) ∧ (¬ (eqL [(.bool b18), (.string s19)] [(.bool b20), (.string s21)] = true) →
 ∃ A24 : Addr, p1 = some A24 ∧
 ∃ p28 : Option Addr, cellH B h17 A24 = some (.pointer p28) ∧
 ∃ b31 : Bool, ∃ s32 : ByteArray, CellsAt B h17 ⟨k7, 0, none⟩ 0 [(.bool b31), (.string s32)] ∧
 C_draft_Draft_file_File_Put B p28 (i3) (b31) s32 h17 (fun b35 h34 =>
 cellH B h34 A24 = some (.pointer p28) ∧ CellsAt B h34 ⟨k7, 0, none⟩ 0 [(.bool b31), (.string s32)] ∧
 Fin B h34 (Q (b35)))))
def S_sheet_Sheet_put (B : RO) (p1 : Option Addr) (p2 : Option Addr) (i3 : Int) (b4 : Bool) (s5 : ByteArray) (h : Heap) (Q : Bool → Heap → Prop) : Prop :=
 ∀ k7 : Nat, h k7 = none → B k7 = none → ∀ h8 : Heap, h8 = Heap.set h k7 (.vec 119 (plains [(.bool b4), (.string s5)]) 2) →
 (p1 = none →
 Fin B h8 (Q (false))) ∧ (¬ (p1 = none) →
 ((i3 : Int) < (0) →
 Fin B h8 (Q (false))) ∧ (¬ ((i3 : Int) < (0)) →
 ((i3 : Int) ≥ (6) →
 Fin B h8 (Q (false))) ∧ (¬ ((i3 : Int) ≥ (6)) →
 Fin B h8 (fun h' => S_sheet_Sheet_put_J1 B p1 p2 i3 k7 h' Q))))
def S_file_Put_J2 (B : RO) (i3 : Int) (i4 : Int) (k9 : Nat) (a19 : Option Addr) (n20 : Nat) (c21 : Nat) (h22 : Heap) (Q : Bool → ByteArray → Heap → Prop) : Prop :=
 ∃ A23 : Addr, a19 = some A23 ∧ 0 ≤ (i3 : Int) ∧ (i3 : Int) < (n20 : Nat) ∧
 ∃ h25 : Heap, storeH h22 (Addr.add A23 (Int.toNat (i3) * 1)) (.int .u8 (i4)) = some h25 ∧
 semH PG B (convert 226 9 (.slice a19 n20 c21)) h25 (fun v h27 => ∃ s26 : ByteArray, v = (.string s26) ∧
 ∃ h28 : Heap, StoresAt ⟨k9, 0, none⟩ h27 0 [(.bool true), (.string s26)] h28 ∧
 ∃ b29 : Bool, ∃ s30 : ByteArray, CellsAt B h28 ⟨k9, 0, none⟩ 0 [(.bool b29), (.string s30)] ∧ Fin B h28 (Q (b29) s30))
def S_file_Put_J1 (B : RO) (i3 : Int) (i4 : Int) (k7 : Nat) (k9 : Nat) (h12 : Heap) (Q : Bool → ByteArray → Heap → Prop) : Prop :=
 ∃ s13 : ByteArray, cellH B h12 ⟨k7, 1, none⟩ = some (.string s13) ∧
 semH PG B (convert 9 226 (.string s13)) h12 (fun v h17 => ∃ a14 : Option Addr, ∃ n15 : Nat, ∃ c16 : Nat, v = (.slice a14 n15 c16) ∧
 ∃ (J38 : Option Addr → Nat → Nat → Nat → Heap → Prop) (m36 : Nat), Fin B h17 (J38 a14 n15 c16 m36) ∧
 ∀ (a31 : Option Addr) (n32 : Nat) (c33 : Nat) (m35 : Nat) (h34 : Heap), J38 a31 n32 c33 m35 h34 →
 (((n32 : Nat) : Int) ≤ (i3) →
 ∀ k39 : Nat, h34 k39 = none → B k39 = none → ∀ h40 : Heap, h40 = Heap.set h34 k39 (.vec 5 (plains [(.int .u8 (0))]) 1) →
 semH PG B (Builtin.append_ #[226, 226] 226 #[(.slice a31 n32 c33), (.slice (some ⟨k39, 0, none⟩) 1 1)]) h40 (fun v h41 => ∃ a42 : Option Addr, ∃ n43 : Nat, ∃ c44 : Nat, v = (.slice a42 n43 c44) ∧
 Fin B h41 (fun h' => ∃ m', m' < m35 ∧ J38 a42 n43 c44 m' h'))) ∧ (¬ (((n32 : Nat) : Int) ≤ (i3)) →
 Fin B h34 (fun h' => S_file_Put_J2 B i3 i4 k9 a31 n32 c33 h' Q)))
def S_file_Put (B : RO) (b1 : Bool) (s2 : ByteArray) (i3 : Int) (i4 : Int) (h : Heap) (Q : Bool → ByteArray → Heap → Prop) : Prop :=
 ∀ k7 : Nat, h k7 = none → B k7 = none → ∀ h8 : Heap, h8 = Heap.set h k7 (.vec 119 (plains [(.bool b1), (.string s2)]) 2) →
 ∀ k9 : Nat, h8 k9 = none → B k9 = none → ∀ h10 : Heap, h10 = Heap.set h8 k9 (.vec 119 (plains [(.bool false), (.string ByteArray.empty)]) 2) →
 ((i3 : Int) < (0) →
 ∃ b45 : Bool, ∃ s46 : ByteArray, CellsAt B h10 ⟨k7, 0, none⟩ 0 [(.bool b45), (.string s46)] ∧
 ∃ h47 : Heap, StoresAt ⟨k9, 0, none⟩ h10 0 [(.bool b45), (.string s46)] h47 ∧
 ∃ b48 : Bool, ∃ s49 : ByteArray, CellsAt B h47 ⟨k9, 0, none⟩ 0 [(.bool b48), (.string s49)] ∧ Fin B h47 (Q (b48) s49)) ∧ (¬ ((i3 : Int) < (0)) →
 ((i3 : Int) ≥ (32) →
 ∃ b50 : Bool, ∃ s51 : ByteArray, CellsAt B h10 ⟨k7, 0, none⟩ 0 [(.bool b50), (.string s51)] ∧
 ∃ h52 : Heap, StoresAt ⟨k9, 0, none⟩ h10 0 [(.bool b50), (.string s51)] h52 ∧
 ∃ b53 : Bool, ∃ s54 : ByteArray, CellsAt B h52 ⟨k9, 0, none⟩ 0 [(.bool b53), (.string s54)] ∧ Fin B h52 (Q (b53) s54)) ∧ (¬ ((i3 : Int) ≥ (32)) →
 Fin B h10 (fun h' => S_file_Put_J1 B i3 i4 k7 k9 h' Q)))
def S_file_Make (B : RO) (b1 : Bool) (s2 : ByteArray) (h : Heap) (Q : Bool → ByteArray → Heap → Prop) : Prop :=
 ∀ k5 : Nat, h k5 = none → B k5 = none → ∀ h6 : Heap, h6 = Heap.set h k5 (.vec 119 (plains [(.bool b1), (.string s2)]) 2) →
 ∀ k7 : Nat, h6 k7 = none → B k7 = none → ∀ h8 : Heap, h8 = Heap.set h6 k7 (.vec 119 (plains [(.bool false), (.string ByteArray.empty)]) 2) →
 ∃ s9 : ByteArray, cellH B h8 ⟨k5, 1, none⟩ = some (.string s9) ∧
 ∃ h10 : Heap, StoresAt ⟨k7, 0, none⟩ h8 0 [(.bool true), (.string s9)] h10 ∧
 ∃ b11 : Bool, ∃ s12 : ByteArray, CellsAt B h10 ⟨k7, 0, none⟩ 0 [(.bool b11), (.string s12)] ∧ Fin B h10 (Q (b11) s12)
def S_file_Cut_J1 (B : RO) (i3 : Int) (k6 : Nat) (k8 : Nat) (h11 : Heap) (Q : Bool → ByteArray → Heap → Prop) : Prop :=
 ∃ s12 : ByteArray, cellH B h11 ⟨k6, 1, none⟩ = some (.string s12) ∧
 ((i3 : Int) ≤ ((ByteArray.size s12 : Nat)) →
 ∃ s13 : ByteArray, cellH B h11 ⟨k6, 1, none⟩ = some (.string s13) ∧
 0 ≤ (0 : Int) ∧ (0 : Int) ≤ (i3 : Int) ∧ (i3 : Int) ≤ (ByteArray.size s13 : Nat) ∧
 ∃ h14 : Heap, StoresAt ⟨k8, 0, none⟩ h11 0 [(.bool true), (.string (ByteArray.extract s13 (Int.toNat (0)) (Int.toNat (i3))))] h14 ∧
 ∃ b15 : Bool, ∃ s16 : ByteArray, CellsAt B h14 ⟨k8, 0, none⟩ 0 [(.bool b15), (.string s16)] ∧ Fin B h14 (Q (b15) s16)) ∧ (¬ ((i3 : Int) ≤ ((ByteArray.size s12 : Nat))) →
 ∃ s18 : ByteArray, cellH B h11 ⟨k6, 1, none⟩ = some (.string s18) ∧
 ∃ s22 : ByteArray, cellH B h11 ⟨k6, 1, none⟩ = some (.string s22) ∧
 C_strings_Repeat B (ByteArray.mk #[0]) (IntKind.wrap .i64 ((i3) - ((ByteArray.size s22 : Nat)))) h11 (fun s27 h26 =>
 cellH B h26 ⟨k6, 1, none⟩ = some (.string s18) ∧ cellH B h26 ⟨k6, 1, none⟩ = some (.string s22) ∧
 ByteArray.size s18 + ByteArray.size s27 ≤ 4611686018427387904 ∧
 ∃ h30 : Heap, StoresAt ⟨k8, 0, none⟩ h26 0 [(.bool true), (.string (s18 ++ s27))] h30 ∧
 ∃ b31 : Bool, ∃ s32 : ByteArray, CellsAt B h30 ⟨k8, 0, none⟩ 0 [(.bool b31), (.string s32)] ∧ Fin B h30 (Q (b31) s32)))
def S_file_Cut (B : RO) (b1 : Bool) (s2 : ByteArray) (i3 : Int) (h : Heap) (Q : Bool → ByteArray → Heap → Prop) : Prop :=
 ∀ k6 : Nat, h k6 = none → B k6 = none → ∀ h7 : Heap, h7 = Heap.set h k6 (.vec 119 (plains [(.bool b1), (.string s2)]) 2) →
 ∀ k8 : Nat, h7 k8 = none → B k8 = none → ∀ h9 : Heap, h9 = Heap.set h7 k8 (.vec 119 (plains [(.bool false), (.string ByteArray.empty)]) 2) →
 ∃ b33 : Bool, cellH B h9 ⟨k6, 0, none⟩ = some (.bool b33) ∧ (b33 = true →
 ((i3 : Int) < (0) →
 ∃ b39 : Bool, ∃ s40 : ByteArray, CellsAt B h9 ⟨k6, 0, none⟩ 0 [(.bool b39), (.string s40)] ∧
 ∃ h41 : Heap, StoresAt ⟨k8, 0, none⟩ h9 0 [(.bool b39), (.string s40)] h41 ∧
 ∃ b42 : Bool, ∃ s43 : ByteArray, CellsAt B h41 ⟨k8, 0, none⟩ 0 [(.bool b42), (.string s43)] ∧ Fin B h41 (Q (b42) s43)) ∧ (¬ ((i3 : Int) < (0)) →
 ((i3 : Int) > (32) →
 ∃ b44 : Bool, ∃ s45 : ByteArray, CellsAt B h9 ⟨k6, 0, none⟩ 0 [(.bool b44), (.string s45)] ∧
 ∃ h46 : Heap, StoresAt ⟨k8, 0, none⟩ h9 0 [(.bool b44), (.string s45)] h46 ∧
 ∃ b47 : Bool, ∃ s48 : ByteArray, CellsAt B h46 ⟨k8, 0, none⟩ 0 [(.bool b47), (.string s48)] ∧ Fin B h46 (Q (b47) s48)) ∧ (¬ ((i3 : Int) > (32)) →
 Fin B h9 (fun h' => S_file_Cut_J1 B i3 k6 k8 h' Q)))) ∧ (b33 = false →
 ∃ b34 : Bool, ∃ s35 : ByteArray, CellsAt B h9 ⟨k6, 0, none⟩ 0 [(.bool b34), (.string s35)] ∧
 ∃ h36 : Heap, StoresAt ⟨k8, 0, none⟩ h9 0 [(.bool b34), (.string s35)] h36 ∧
 ∃ b37 : Bool, ∃ s38 : ByteArray, CellsAt B h36 ⟨k8, 0, none⟩ 0 [(.bool b37), (.string s38)] ∧ Fin B h36 (Q (b37) s38))
def S_draft_Draft_int_Copy (B : RO) (p1 : Option Addr) (h : Heap) (Q : Option Addr → Heap → Prop) : Prop :=
 (p1 = none →
 Fin B h (Q none)) ∧ (¬ (p1 = none) →
 ∃ A4 : Addr, p1 = some A4 ∧
 LdSl B h A4 fun a6 n7 c8 h9 =>
 C_slices_Clone_s_draft_entry_int_draft_entry_int B a6 n7 c8 h9 (fun a11 n12 c13 h10 =>
 ∀ k14 : Nat, h10 k14 = none → B k14 = none → ∀ h15 : Heap, h15 = Heap.set h10 k14 (.vec 166 (plains [(.slice a11 n12 c13)]) 1) →
 Fin B h15 (Q (some ⟨k14, 0, none⟩))))
def S_sheet_Sheet_Copy (B : RO) (p1 : Option Addr) (h : Heap) (Q : Option Addr → Heap → Prop) : Prop :=
 (p1 = none →
 Fin B h (Q none)) ∧ (¬ (p1 = none) →
 ∃ A4 : Addr, p1 = some A4 ∧
 ∃ p6 : Option Addr, cellH B h A4 = some (.pointer p6) ∧
 C_draft_Draft_file_File_Copy B p6 h (fun p8 h7 =>
 ∀ k9 : Nat, h7 k9 = none → B k9 = none → ∀ h10 : Heap, h10 = Heap.set h7 k9 (.vec 204 (plains [(.pointer p8)]) 1) →
 Fin B h10 (Q (some ⟨k9, 0, none⟩))))
def S_cursor_Cursor_Copy (B : RO) (p1 : Option Addr) (h : Heap) (Q : Option Addr → Heap → Prop) : Prop :=
 (p1 = none →
 Fin B h (Q none)) ∧ (¬ (p1 = none) →
 ∃ A4 : Addr, p1 = some A4 ∧
 ∃ i6 : Int, ∃ i7 : Int, ∃ i8 : Int, CellsAt B h A4 0 [(.int .i64 (i6)), (.int .i64 (i7)), (.int .i64 (i8))] ∧
 ∀ k9 : Nat, h k9 = none → B k9 = none → ∀ h10 : Heap, h10 = Heap.set h k9 (.vec 181 (plains [(.int .i64 (0)), (.int .i64 (0)), (.int .i64 (0))]) 3) →
 ∃ h11 : Heap, StoresAt ⟨k9, 0, none⟩ h10 0 [(.int .i64 (i6)), (.int .i64 (i7)), (.int .i64 (i8))] h11 ∧
 Fin B h11 (Q (some ⟨k9, 0, none⟩)))
def S_slices_Backward_s_acts_Open_acts_Open (B : RO) (a1 : Option Addr) (n2 : Nat) (c3 : Nat) (h : Heap) (Q : Value → Heap → Prop) : Prop :=
 ∀ k5 : Nat, h k5 = none → B k5 = none → ∀ h6 : Heap, h6 = Heap.set h k5 (.vec 80 [.plain (.slice a1 n2 c3)] 1) →
 Fin B h6 (Q (Value.func (.func 140) #[] #[(.pointer (some ⟨k5, 0, none⟩))]))
def S_slices_IndexFunc_s_reads_Entry_reads_Entry (B : RO) (a1 : Option Addr) (n2 : Nat) (c3 : Nat) (v4 : Value) (h : Heap) (Q : Int → Heap → Prop) : Prop :=
 ∃ (J11 : Int → Nat → Heap → Prop) (m9 : Nat), Fin B h (J11 (0) m9) ∧
 ∀ (i6 : Int) (m8 : Nat) (h7 : Heap), J11 i6 m8 h7 →
 ((i6 : Int) < ((n2 : Nat)) →
 ∃ A12 : Addr, a1 = some A12 ∧ 0 ≤ (i6 : Int) ∧ (i6 : Int) < (n2 : Nat) ∧
 ∃ i14 : Int, ∃ i15 : Int, ∃ i16 : Int, CellsAt B h7 (Addr.add A12 (Int.toNat (i6) * 3)) 0 [(.int .i64 (i14)), (.int .i64 (i15)), (.int .i64 (i16))] ∧
 CallV PG B v4 [(.agg #[(.int .i64 (i14)), (.int .i64 (i15)), (.int .i64 (i16))])] h7 (fun v h17 => ∃ b18 : Bool, v = (.bool b18) ∧
 (b18 = true →
 Fin B h17 (Q (i6))) ∧ (b18 = false →
 Fin B h17 (fun h' => ∃ m', m' < m8 ∧ J11 (IntKind.wrap .i64 ((i6) + (1))) m' h')))) ∧ (¬ ((i6 : Int) < ((n2 : Nat))) →
 Fin B h7 (Q ((-1))))
def S_reads_Set_place_1 (B : RO) (i1 : Int) (i2 : Int) (i3 : Int) (A4 : Addr) (A5 : Addr) (h : Heap) (Q : Bool → Heap → Prop) : Prop :=
 ∀ k7 : Nat, h k7 = none → B k7 = none → ∀ h8 : Heap, h8 = Heap.set h k7 (.vec 174 (plains [(.int .i64 (i1)), (.int .i64 (i2)), (.int .i64 (i3))]) 3) →
 ∃ i9 : Int, cellH B h8 ⟨k7, 0, none⟩ = some (.int .i64 (i9)) ∧
 ∃ i10 : Int, cellH B h8 A4 = some (.int .i64 (i10)) ∧
 ((i9 : Int) = i10 →
 ∃ i11 : Int, cellH B h8 ⟨k7, 1, none⟩ = some (.int .i64 (i11)) ∧
 ∃ i12 : Int, cellH B h8 A5 = some (.int .i64 (i12)) ∧
 Fin B h8 (Q (((i11 : Int) == (i12))))) ∧ (¬ ((i9 : Int) = i10) →
 Fin B h8 (Q (false)))
def S_draft_Draft_file_File_Get (B : RO) (p1 : Option Addr) (i2 : Int) (h : Heap) (Q : Bool → ByteArray → Bool → Heap → Prop) : Prop :=
 ∀ k6 : Nat, h k6 = none → B k6 = none → ∀ h7 : Heap, h7 = Heap.set h k6 (.vec 119 (plains [(.bool false), (.string ByteArray.empty)]) 2) →
 ∀ k8 : Nat, h7 k8 = none → B k8 = none → ∀ h9 : Heap, h9 = Heap.set h7 k8 (.vec 119 (plains [(.bool false), (.string ByteArray.empty)]) 2) →
 (p1 = none →
 ∃ b11 : Bool, ∃ s12 : ByteArray, CellsAt B h9 ⟨k8, 0, none⟩ 0 [(.bool b11), (.string s12)] ∧
 ∃ h13 : Heap, StoresAt ⟨k6, 0, none⟩ h9 0 [(.bool b11), (.string s12)] h13 ∧
 ∃ b14 : Bool, ∃ s15 : ByteArray, CellsAt B h13 ⟨k6, 0, none⟩ 0 [(.bool b14), (.string s15)] ∧ Fin B h13 (Q (b14) s15 (false))) ∧ (¬ (p1 = none) →
 C_draft_Draft_file_File_find B p1 (i2) h9 (fun i17 b18 h16 =>
 (b18 = true →
 ∃ A24 : Addr, p1 = some A24 ∧
 LdSl B h16 A24 fun a26 n27 c28 h29 =>
 ∃ A30 : Addr, a26 = some A30 ∧ 0 ≤ (i17 : Int) ∧ (i17 : Int) < (n27 : Nat) ∧
 ∃ b32 : Bool, ∃ s33 : ByteArray, CellsAt B h29 (Addr.add (Addr.add A30 (Int.toNat (i17) * 3)) 1) 0 [(.bool b32), (.string s33)] ∧
 ∃ h34 : Heap, StoresAt ⟨k6, 0, none⟩ h29 0 [(.bool b32), (.string s33)] h34 ∧
 ∃ b35 : Bool, ∃ s36 : ByteArray, CellsAt B h34 ⟨k6, 0, none⟩ 0 [(.bool b35), (.string s36)] ∧ Fin B h34 (Q (b35) s36 (true))) ∧ (b18 = false →
 ∃ b19 : Bool, ∃ s20 : ByteArray, CellsAt B h16 ⟨k8, 0, none⟩ 0 [(.bool b19), (.string s20)] ∧
 ∃ h21 : Heap, StoresAt ⟨k6, 0, none⟩ h16 0 [(.bool b19), (.string s20)] h21 ∧
 ∃ b22 : Bool, ∃ s23 : ByteArray, CellsAt B h21 ⟨k6, 0, none⟩ 0 [(.bool b22), (.string s23)] ∧ Fin B h21 (Q (b22) s23 (false)))))
def S_draft_Draft_file_File_Put (B : RO) (p1 : Option Addr) (i2 : Int) (b3 : Bool) (s4 : ByteArray) (h : Heap) (Q : Bool → Heap → Prop) : Prop :=
 ∀ k6 : Nat, h k6 = none → B k6 = none → ∀ h7 : Heap, h7 = Heap.set h k6 (.vec 119 (plains [(.bool b3), (.string s4)]) 2) →
 (p1 = none →
 Fin B h7 (Q (false))) ∧ (¬ (p1 = none) →
 C_draft_Draft_file_File_find B p1 (i2) h7 (fun i10 b11 h9 =>
 (b11 = true →
 ∃ A41 : Addr, p1 = some A41 ∧
 ∃ a43 : Option Addr, ∃ n44 : Nat, ∃ c45 : Nat, cellH B h9 A41 = some (.slice a43 n44 c45) ∧
 ∃ b46 : Bool, ∃ s47 : ByteArray, CellsAt B h9 ⟨k6, 0, none⟩ 0 [(.bool b46), (.string s47)] ∧
 ∃ A48 : Addr, a43 = some A48 ∧ 0 ≤ (i10 : Int) ∧ (i10 : Int) < (n44 : Nat) ∧
 ∃ h50 : Heap, StoresAt (Addr.add (Addr.add A48 (Int.toNat (i10) * 3)) 1) h9 0 [(.bool b46), (.string s47)] h50 ∧
 Fin B h50 (Q (true))) ∧ (b11 = false →
 ∃ A14 : Addr, p1 = some A14 ∧
 ∃ a18 : Option Addr, ∃ n19 : Nat, ∃ c20 : Nat, cellH B h9 A14 = some (.slice a18 n19 c20) ∧
 ∃ b24 : Bool, ∃ s25 : ByteArray, CellsAt B h9 ⟨k6, 0, none⟩ 0 [(.bool b24), (.string s25)] ∧
 ∀ k28 : Nat, h9 k28 = none → B k28 = none → ∀ h29 : Heap, h29 = Heap.set h9 k28 (.vec 213 (plains [(.int .i64 (i2)), (.bool b24), (.string s25)]) 3) →
 cellH B h29 A14 = some (.slice a18 n19 c20) ∧ CellsAt B h29 ⟨k6, 0, none⟩ 0 [(.bool b24), (.string s25)] ∧
 C_slices_Insert_s_draft_entry_file_File_draft_entry_file_File B a18 n19 c20 (i10) (some ⟨k28, 0, none⟩) 1 1 h29 (fun a33 n34 c35 h32 =>
 cellH B h32 A14 = some (.slice a18 n19 c20) ∧ CellsAt B h32 ⟨k6, 0, none⟩ 0 [(.bool b24), (.string s25)] ∧
 ∃ A38 : Addr, p1 = some A38 ∧
 ∃ h40 : Heap, storeH h32 A38 (.slice a33 n34 c35) = some h40 ∧
 Fin B h40 (Q (true))))))
def S_slices_Clone_s_draft_entry_int_draft_entry_int (B : RO) (a1 : Option Addr) (n2 : Nat) (c3 : Nat) (h : Heap) (Q : Option Addr → Nat → Nat → Heap → Prop) : Prop :=
 (a1 = none →
 Fin B h (Q none 0 0)) ∧ (¬ (a1 = none) →
 ∀ k8 : Nat, h k8 = none → B k8 = none → ∀ h9 : Heap, h9 = Heap.set h k8 (.vec 163 [] 0) →
 semH PG B (Builtin.append_ #[164, 164] 164 #[(.slice (some ⟨k8, 0, none⟩) 0 0), (.slice a1 n2 c3)]) h9 (fun v h10 => ∃ a11 : Option Addr, ∃ n12 : Nat, ∃ c13 : Nat, v = (.slice a11 n12 c13) ∧
 Fin B h10 (Q a11 n12 c13)))
def S_draft_Draft_file_File_Copy (B : RO) (p1 : Option Addr) (h : Heap) (Q : Option Addr → Heap → Prop) : Prop :=
 (p1 = none →
 Fin B h (Q none)) ∧ (¬ (p1 = none) →
 ∃ A4 : Addr, p1 = some A4 ∧
 LdSl B h A4 fun a6 n7 c8 h9 =>
 C_slices_Clone_s_draft_entry_file_File_draft_entry_file_File B a6 n7 c8 h9 (fun a11 n12 c13 h10 =>
 ∀ k14 : Nat, h10 k14 = none → B k14 = none → ∀ h15 : Heap, h15 = Heap.set h10 k14 (.vec 207 (plains [(.slice a11 n12 c13)]) 1) →
 Fin B h15 (Q (some ⟨k14, 0, none⟩))))
def S_slices_Backward_s_acts_Open_acts_Open_1 (B : RO) (v1 : Value) (A2 : Addr) (h : Heap) (Q : Heap → Prop) : Prop :=
 LdSl B h A2 fun a3 n4 c5 h6 =>
 ∃ (J12 : Int → Nat → Heap → Prop) (m10 : Nat), Fin B h6 (J12 (IntKind.wrap .i64 (((n4 : Nat)) - (1))) m10) ∧
 ∀ (i7 : Int) (m9 : Nat) (h8 : Heap), J12 i7 m9 h8 →
 ((i7 : Int) ≥ (0) →
 LdSl B h8 A2 fun a13 n14 c15 h16 =>
 ∃ A17 : Addr, a13 = some A17 ∧ 0 ≤ (i7 : Int) ∧ (i7 : Int) < (n14 : Nat) ∧
 ∃ i19 : Int, ∃ i20 : Int, CellsAt B h16 (Addr.add A17 (Int.toNat (i7) * 2)) 0 [(.int .i64 (i19)), (.int .i64 (i20))] ∧
 CallV PG B v1 [(.int .i64 (i7)), (.agg #[(.int .i64 (i19)), (.int .i64 (i20))])] h16 (fun v h21 => ∃ b22 : Bool, v = (.bool b22) ∧
 (b22 = true →
 Fin B h21 (fun h' => ∃ m', m' < m9 ∧ J12 (IntKind.wrap .i64 ((i7) - (1))) m' h')) ∧ (b22 = false →
 Fin B h21 (Q)))) ∧ (¬ ((i7 : Int) ≥ (0)) →
 Fin B h8 (Q))
def S_draft_Draft_file_File_find (B : RO) (p1 : Option Addr) (i2 : Int) (h : Heap) (Q : Int → Bool → Heap → Prop) : Prop :=
 ∃ A5 : Addr, p1 = some A5 ∧
 LdSl B h A5 fun a7 n8 c9 h10 =>
 C_slices_BinarySearchFunc_s_draft_entry_file_File_draft_entry_file_File_int B a7 n8 c9 (i2) (Value.func (.func 152) #[] #[]) h10 (fun i12 b13 h11 =>
 Fin B h11 (Q (i12) (b13)))
def S_slices_Insert_s_draft_entry_file_File_draft_entry_file_File (B : RO) (a1 : Option Addr) (n2 : Nat) (c3 : Nat) (i4 : Int) (a5 : Option Addr) (n6 : Nat) (c7 : Nat) (h : Heap) (Q : Option Addr → Nat → Nat → Heap → Prop) : Prop :=
 0 ≤ (i4 : Int) ∧ (i4 : Int) ≤ ((n2 : Nat) : Int) ∧ ((n2 : Nat) : Int) ≤ (c3 : Nat) ∧
 (((n6 : Nat) : Int) = 0 →
 Fin B h (Q a1 n2 c3)) ∧ (¬ (((n6 : Nat) : Int) = 0) →
 ((i4 : Int) = (n2 : Nat) →
 semH PG B (Builtin.append_ #[205, 205] 205 #[(.slice a1 n2 c3), (.slice a5 n6 c7)]) h (fun v h11 => ∃ a12 : Option Addr, ∃ n13 : Nat, ∃ c14 : Nat, v = (.slice a12 n13 c14) ∧
 Fin B h11 (Q a12 n13 c14))) ∧ (¬ ((i4 : Int) = (n2 : Nat)) →
 ((IntKind.wrap .i64 (((n2 : Nat)) + ((n6 : Nat))) : Int) > ((c3 : Nat)) →
 0 ≤ (0 : Int) ∧ (0 : Int) ≤ (i4 : Int) ∧ (i4 : Int) ≤ (c3 : Nat) ∧
 semH PG B (Builtin.append_ #[205, 3] 205 #[(.slice (if c3 = Int.toNat (0) then a1 else Option.map (·.add (Int.toNat (0) * 3)) a1) (Int.toNat (i4) - Int.toNat (0)) (c3 - Int.toNat (0))), (.int .i64 (IntKind.wrap .i64 ((IntKind.wrap .i64 (((n2 : Nat)) + ((n6 : Nat)))) - (i4))))]) h (fun v h15 => ∃ a16 : Option Addr, ∃ n17 : Nat, ∃ c18 : Nat, v = (.slice a16 n17 c18) ∧
 0 ≤ (i4 : Int) ∧ (i4 : Int) ≤ ((n17 : Nat) : Int) ∧ ((n17 : Nat) : Int) ≤ (c18 : Nat) ∧
 semH PG B (Builtin.copy_ #[205, 205] 3 #[(.slice (if c18 = Int.toNat (i4) then a16 else Option.map (·.add (Int.toNat (i4) * 3)) a16) (Int.toNat ((n17 : Nat)) - Int.toNat (i4)) (c18 - Int.toNat (i4))), (.slice a5 n6 c7)]) h15 (fun v h19 => ∃ i20 : Int, v = (.int .i64 (i20)) ∧
 0 ≤ (IntKind.wrap .i64 ((i4) + ((n6 : Nat))) : Int) ∧ (IntKind.wrap .i64 ((i4) + ((n6 : Nat))) : Int) ≤ ((n17 : Nat) : Int) ∧ ((n17 : Nat) : Int) ≤ (c18 : Nat) ∧
 0 ≤ (i4 : Int) ∧ (i4 : Int) ≤ ((n2 : Nat) : Int) ∧ ((n2 : Nat) : Int) ≤ (c3 : Nat) ∧
 semH PG B (Builtin.copy_ #[205, 205] 3 #[(.slice (if c18 = Int.toNat (IntKind.wrap .i64 ((i4) + ((n6 : Nat)))) then a16 else Option.map (·.add (Int.toNat (IntKind.wrap .i64 ((i4) + ((n6 : Nat)))) * 3)) a16) (Int.toNat ((n17 : Nat)) - Int.toNat (IntKind.wrap .i64 ((i4) + ((n6 : Nat))))) (c18 - Int.toNat (IntKind.wrap .i64 ((i4) + ((n6 : Nat)))))), (.slice (if c3 = Int.toNat (i4) then a1 else Option.map (·.add (Int.toNat (i4) * 3)) a1) (Int.toNat ((n2 : Nat)) - Int.toNat (i4)) (c3 - Int.toNat (i4)))]) h19 (fun v h21 => ∃ i22 : Int, v = (.int .i64 (i22)) ∧
 Fin B h21 (Q a16 n17 c18))))) ∧ (¬ ((IntKind.wrap .i64 (((n2 : Nat)) + ((n6 : Nat))) : Int) > ((c3 : Nat))) →
 0 ≤ (0 : Int) ∧ (0 : Int) ≤ (IntKind.wrap .i64 (((n2 : Nat)) + ((n6 : Nat))) : Int) ∧ (IntKind.wrap .i64 (((n2 : Nat)) + ((n6 : Nat))) : Int) ≤ (c3 : Nat) ∧
 0 ≤ (IntKind.wrap .i64 ((i4) + ((n6 : Nat))) : Int) ∧ (IntKind.wrap .i64 ((i4) + ((n6 : Nat))) : Int) ≤ (((Int.toNat (IntKind.wrap .i64 (((n2 : Nat)) + ((n6 : Nat)))) - Int.toNat (0)) : Nat) : Int) ∧ (((Int.toNat (IntKind.wrap .i64 (((n2 : Nat)) + ((n6 : Nat)))) - Int.toNat (0)) : Nat) : Int) ≤ ((c3 - Int.toNat (0)) : Nat) ∧
 semH PG B (Extern.SlicesOverlaps.overlaps #[205, 205] #[4] #[(.slice a5 n6 c7), (.slice (if (c3 - Int.toNat (0)) = Int.toNat (IntKind.wrap .i64 ((i4) + ((n6 : Nat)))) then (if c3 = Int.toNat (0) then a1 else Option.map (·.add (Int.toNat (0) * 3)) a1) else Option.map (·.add (Int.toNat (IntKind.wrap .i64 ((i4) + ((n6 : Nat)))) * 3)) (if c3 = Int.toNat (0) then a1 else Option.map (·.add (Int.toNat (0) * 3)) a1)) (Int.toNat (((Int.toNat (IntKind.wrap .i64 (((n2 : Nat)) + ((n6 : Nat)))) - Int.toNat (0)) : Nat)) - Int.toNat (IntKind.wrap .i64 ((i4) + ((n6 : Nat))))) ((c3 - Int.toNat (0)) - Int.toNat (IntKind.wrap .i64 ((i4) + ((n6 : Nat))))))]) h (fun v h23 => ∃ b24 : Bool, v = (.bool b24) ∧
 (b24 = true →
 0 ≤ ((n2 : Nat) : Int) ∧ ((n2 : Nat) : Int) ≤ (((Int.toNat (IntKind.wrap .i64 (((n2 : Nat)) + ((n6 : Nat)))) - Int.toNat (0)) : Nat) : Int) ∧ (((Int.toNat (IntKind.wrap .i64 (((n2 : Nat)) + ((n6 : Nat)))) - Int.toNat (0)) : Nat) : Int) ≤ ((c3 - Int.toNat (0)) : Nat) ∧
 semH PG B (Builtin.copy_ #[205, 205] 3 #[(.slice (if (c3 - Int.toNat (0)) = Int.toNat ((n2 : Nat)) then (if c3 = Int.toNat (0) then a1 else Option.map (·.add (Int.toNat (0) * 3)) a1) else Option.map (·.add (Int.toNat ((n2 : Nat)) * 3)) (if c3 = Int.toNat (0) then a1 else Option.map (·.add (Int.toNat (0) * 3)) a1)) (Int.toNat (((Int.toNat (IntKind.wrap .i64 (((n2 : Nat)) + ((n6 : Nat)))) - Int.toNat (0)) : Nat)) - Int.toNat ((n2 : Nat))) ((c3 - Int.toNat (0)) - Int.toNat ((n2 : Nat)))), (.slice a5 n6 c7)]) h23 (fun v h29 => ∃ i30 : Int, v = (.int .i64 (i30)) ∧
 0 ≤ (i4 : Int) ∧ (i4 : Int) ≤ (((Int.toNat (IntKind.wrap .i64 (((n2 : Nat)) + ((n6 : Nat)))) - Int.toNat (0)) : Nat) : Int) ∧ (((Int.toNat (IntKind.wrap .i64 (((n2 : Nat)) + ((n6 : Nat)))) - Int.toNat (0)) : Nat) : Int) ≤ ((c3 - Int.toNat (0)) : Nat) ∧
 C_slices_rotateRight_draft_entry_file_File B (if (c3 - Int.toNat (0)) = Int.toNat (i4) then (if c3 = Int.toNat (0) then a1 else Option.map (·.add (Int.toNat (0) * 3)) a1) else Option.map (·.add (Int.toNat (i4) * 3)) (if c3 = Int.toNat (0) then a1 else Option.map (·.add (Int.toNat (0) * 3)) a1)) (Int.toNat (((Int.toNat (IntKind.wrap .i64 (((n2 : Nat)) + ((n6 : Nat)))) - Int.toNat (0)) : Nat)) - Int.toNat (i4)) ((c3 - Int.toNat (0)) - Int.toNat (i4)) ((n6 : Nat)) h29 (fun h31 =>
 Fin B h31 (Q (if c3 = Int.toNat (0) then a1 else Option.map (·.add (Int.toNat (0) * 3)) a1) (Int.toNat (IntKind.wrap .i64 (((n2 : Nat)) + ((n6 : Nat)))) - Int.toNat (0)) (c3 - Int.toNat (0)))))) ∧ (b24 = false →
 0 ≤ (IntKind.wrap .i64 ((i4) + ((n6 : Nat))) : Int) ∧ (IntKind.wrap .i64 ((i4) + ((n6 : Nat))) : Int) ≤ (((Int.toNat (IntKind.wrap .i64 (((n2 : Nat)) + ((n6 : Nat)))) - Int.toNat (0)) : Nat) : Int) ∧ (((Int.toNat (IntKind.wrap .i64 (((n2 : Nat)) + ((n6 : Nat)))) - Int.toNat (0)) : Nat) : Int) ≤ ((c3 - Int.toNat (0)) : Nat) ∧
 0 ≤ (i4 : Int) ∧ (i4 : Int) ≤ (((Int.toNat (IntKind.wrap .i64 (((n2 : Nat)) + ((n6 : Nat)))) - Int.toNat (0)) : Nat) : Int) ∧ (((Int.toNat (IntKind.wrap .i64 (((n2 : Nat)) + ((n6 : Nat)))) - Int.toNat (0)) : Nat) : Int) ≤ ((c3 - Int.toNat (0)) : Nat) ∧
 semH PG B (Builtin.copy_ #[205, 205] 3 #[(.slice (if (c3 - Int.toNat (0)) = Int.toNat (IntKind.wrap .i64 ((i4) + ((n6 : Nat)))) then (if c3 = Int.toNat (0) then a1 else Option.map (·.add (Int.toNat (0) * 3)) a1) else Option.map (·.add (Int.toNat (IntKind.wrap .i64 ((i4) + ((n6 : Nat)))) * 3)) (if c3 = Int.toNat (0) then a1 else Option.map (·.add (Int.toNat (0) * 3)) a1)) (Int.toNat (((Int.toNat (IntKind.wrap .i64 (((n2 : Nat)) + ((n6 : Nat)))) - Int.toNat (0)) : Nat)) - Int.toNat (IntKind.wrap .i64 ((i4) + ((n6 : Nat))))) ((c3 - Int.toNat (0)) - Int.toNat (IntKind.wrap .i64 ((i4) + ((n6 : Nat)))))), (.slice (if (c3 - Int.toNat (0)) = Int.toNat (i4) then (if c3 = Int.toNat (0) then a1 else Option.map (·.add (Int.toNat (0) * 3)) a1) else Option.map (·.add (Int.toNat (i4) * 3)) (if c3 = Int.toNat (0) then a1 else Option.map (·.add (Int.toNat (0) * 3)) a1)) (Int.toNat (((Int.toNat (IntKind.wrap .i64 (((n2 : Nat)) + ((n6 : Nat)))) - Int.toNat (0)) : Nat)) - Int.toNat (i4)) ((c3 - Int.toNat (0)) - Int.toNat (i4)))]) h23 (fun v h25 => ∃ i26 : Int, v = (.int .i64 (i26)) ∧
 0 ≤ (i4 : Int) ∧ (i4 : Int) ≤ (((Int.toNat (IntKind.wrap .i64 (((n2 : Nat)) + ((n6 : Nat)))) - Int.toNat (0)) : Nat) : Int) ∧ (((Int.toNat (IntKind.wrap .i64 (((n2 : Nat)) + ((n6 : Nat)))) - Int.toNat (0)) : Nat) : Int) ≤ ((c3 - Int.toNat (0)) : Nat) ∧
 semH PG B (Builtin.copy_ #[205, 205] 3 #[(.slice (if (c3 - Int.toNat (0)) = Int.toNat (i4) then (if c3 = Int.toNat (0) then a1 else Option.map (·.add (Int.toNat (0) * 3)) a1) else Option.map (·.add (Int.toNat (i4) * 3)) (if c3 = Int.toNat (0) then a1 else Option.map (·.add (Int.toNat (0) * 3)) a1)) (Int.toNat (((Int.toNat (IntKind.wrap .i64 (((n2 : Nat)) + ((n6 : Nat)))) - Int.toNat (0)) : Nat)) - Int.toNat (i4)) ((c3 - Int.toNat (0)) - Int.toNat (i4))), (.slice a5 n6 c7)]) h25 (fun v h27 => ∃ i28 : Int, v = (.int .i64 (i28)) ∧
 Fin B h27 (Q (if c3 = Int.toNat (0) then a1 else Option.map (·.add (Int.toNat (0) * 3)) a1) (Int.toNat (IntKind.wrap .i64 (((n2 : Nat)) + ((n6 : Nat)))) - Int.toNat (0)) (c3 - Int.toNat (0))))))))))
def S_slices_Clone_s_draft_entry_file_File_draft_entry_file_File (B : RO) (a1 : Option Addr) (n2 : Nat) (c3 : Nat) (h : Heap) (Q : Option Addr → Nat → Nat → Heap → Prop) : Prop :=
 (a1 = none →
 Fin B h (Q none 0 0)) ∧ (¬ (a1 = none) →
 ∀ k8 : Nat, h k8 = none → B k8 = none → ∀ h9 : Heap, h9 = Heap.set h k8 (.vec 213 [] 0) →
 semH PG B (Builtin.append_ #[205, 205] 205 #[(.slice (some ⟨k8, 0, none⟩) 0 0), (.slice a1 n2 c3)]) h9 (fun v h10 => ∃ a11 : Option Addr, ∃ n12 : Nat, ∃ c13 : Nat, v = (.slice a11 n12 c13) ∧
 Fin B h10 (Q a11 n12 c13)))
def S_slices_BinarySearchFunc_s_draft_entry_file_File_draft_entry_file_File_int_J1 (B : RO) (a1 : Option Addr) (n2 : Nat) (c3 : Nat) (i4 : Int) (v5 : Value) (i9 : Int) (h10 : Heap) (Q : Int → Bool → Heap → Prop) : Prop :=
 ((i9 : Int) < ((n2 : Nat)) →
 ∃ A11 : Addr, a1 = some A11 ∧ 0 ≤ (i9 : Int) ∧ (i9 : Int) < (n2 : Nat) ∧
 ∃ i13 : Int, ∃ b14 : Bool, ∃ s15 : ByteArray, CellsAt B h10 (Addr.add A11 (Int.toNat (i9) * 3)) 0 [(.int .i64 (i13)), (.bool b14), (.string s15)] ∧
 CallV PG B v5 [(.agg #[(.int .i64 (i13)), (.bool b14), (.string s15)]), (.int .i64 (i4))] h10 (fun v h16 => ∃ i17 : Int, v = (.int .i64 (i17)) ∧
 Fin B h16 (Q (i9) (((i17 : Int) == (0)))))) ∧ (¬ ((i9 : Int) < ((n2 : Nat))) →
 Fin B h10 (Q (i9) (false)))
def S_slices_BinarySearchFunc_s_draft_entry_file_File_draft_entry_file_File_int (B : RO) (a1 : Option Addr) (n2 : Nat) (c3 : Nat) (i4 : Int) (v5 : Value) (h : Heap) (Q : Int → Bool → Heap → Prop) : Prop :=
 ∃ (J24 : Int → Int → Nat → Heap → Prop) (m22 : Nat), Fin B h (J24 (0) ((n2 : Nat)) m22) ∧
 ∀ (i18 : Int) (i19 : Int) (m21 : Nat) (h20 : Heap), J24 i18 i19 m21 h20 →
 ((i18 : Int) < (i19) →
 ¬ ((1 : Int) < 0) ∧
 ∃ A25 : Addr, a1 = some A25 ∧ 0 ≤ (IntKind.wrap .i64 (Int.fdiv (IntKind.wrap .u64 (IntKind.wrap .i64 ((i18) + (i19)))) (2 ^ (min (Int.toNat (1)) (IntKind.bits .u64)))) : Int) ∧ (IntKind.wrap .i64 (Int.fdiv (IntKind.wrap .u64 (IntKind.wrap .i64 ((i18) + (i19)))) (2 ^ (min (Int.toNat (1)) (IntKind.bits .u64)))) : Int) < (n2 : Nat) ∧
 ∃ i27 : Int, ∃ b28 : Bool, ∃ s29 : ByteArray, CellsAt B h20 (Addr.add A25 (Int.toNat (IntKind.wrap .i64 (Int.fdiv (IntKind.wrap .u64 (IntKind.wrap .i64 ((i18) + (i19)))) (2 ^ (min (Int.toNat (1)) (IntKind.bits .u64))))) * 3)) 0 [(.int .i64 (i27)), (.bool b28), (.string s29)] ∧
 CallV PG B v5 [(.agg #[(.int .i64 (i27)), (.bool b28), (.string s29)]), (.int .i64 (i4))] h20 (fun v h30 => ∃ i31 : Int, v = (.int .i64 (i31)) ∧
 ((i31 : Int) < (0) →
 Fin B h30 (fun h' => ∃ m', m' < m21 ∧ J24 (IntKind.wrap .i64 ((IntKind.wrap .i64 (Int.fdiv (IntKind.wrap .u64 (IntKind.wrap .i64 ((i18) + (i19)))) (2 ^ (min (Int.toNat (1)) (IntKind.bits .u64))))) + (1))) (i19) m' h')) ∧ (¬ ((i31 : Int) < (0)) →
 Fin B h30 (fun h' => ∃ m', m' < m21 ∧ J24 (i18) (IntKind.wrap .i64 (Int.fdiv (IntKind.wrap .u64 (IntKind.wrap .i64 ((i18) + (i19)))) (2 ^ (min (Int.toNat (1)) (IntKind.bits .u64))))) m' h')))) ∧ (¬ ((i18 : Int) < (i19)) →
 Fin B h20 (fun h' => S_slices_BinarySearchFunc_s_draft_entry_file_File_draft_entry_file_File_int_J1 B a1 n2 c3 i4 v5 (i18) h' Q))
def S_draft_by_file_File (B : RO) (i1 : Int) (b2 : Bool) (s3 : ByteArray) (i4 : Int) (h : Heap) (Q : Int → Heap → Prop) : Prop :=
 ∀ k6 : Nat, h k6 = none → B k6 = none → ∀ h7 : Heap, h7 = Heap.set h k6 (.vec 213 (plains [(.int .i64 (i1)), (.bool b2), (.string s3)]) 3) →
 ∃ i8 : Int, cellH B h7 ⟨k6, 0, none⟩ = some (.int .i64 (i8)) ∧
 ((i8 : Int) < (i4) →
 Fin B h7 (Q ((-1)))) ∧ (¬ ((i8 : Int) < (i4)) →
 ∃ i9 : Int, cellH B h7 ⟨k6, 0, none⟩ = some (.int .i64 (i9)) ∧
 ((i9 : Int) > (i4) →
 Fin B h7 (Q (1))) ∧ (¬ ((i9 : Int) > (i4)) →
 Fin B h7 (Q (0))))
end Go.Proofs.YtgldgabefiialaaGreat.H
namespace Go.Proofs.YtgldgabefiialaaGreat.H
open Go
set_option linter.unusedVariables false
set_option maxRecDepth 100000
set_option maxHeartbeats 4000000
theorem C_countermandlaw20_AttemptWays.of {B : RO} {a1 : Option Addr} {n2 : Nat} {c3 : Nat} {s4 : ByteArray} {s5 : ByteArray} {s6 : ByteArray} {h : Heap} {Q : Bool → Heap → Prop} (s : S_countermandlaw20_AttemptWays B a1 n2 c3 s4 s5 s6 h Q) : C_countermandlaw20_AttemptWays B a1 n2 c3 s4 s5 s6 h Q := by
 refine zspec Tryz.func6 [ResultVar.tmp 4] rfl rfl rfl rfl rfl ?_
 refine au 2 rfl ?_
 refine zbn s rfl rfl rfl fun k8 h9 s => ?_
 refine au 5 rfl ?_
 refine zcall s rfl rfl TF.goes_9 ?_
 rintro _ h10 ⟨b11, rfl, s⟩
 cases b11
 ·replace s := s.2 rfl
  refine au 7 rfl ?_
  exact zr (s.imp fun _ q => ⟨_, rfl, q⟩)
 ·replace s := s.1 rfl
  refine au 4 rfl ?_
  refine Run.seqJ (fun e h13 => Agree [(0, (.slice a1 n2 c3)), (3, (.pointer (some ⟨k8, 0, none⟩)))] e ∧ S_countermandlaw20_AttemptWays_J1 B a1 n2 c3 k8 h13 Q) ?_ fun j12 => ?_
  ·rintro e h13 ⟨hag, s⟩
   refine Run.env hag ?_; clear hag
   refine au 2 rfl ?_
   refine zcall s rfl rfl TF.goes_24 ?_
   rintro _ h14 ⟨p15, rfl, s⟩
   refine au 2 rfl ?_
   refine Run.seqJ (fun e h17 => Agree [(0, (.slice a1 n2 c3)), (5, (.pointer p15))] e ∧ S_countermandlaw20_AttemptWays_J2 B a1 n2 c3 p15 h17 Q) ?_ fun j16 => ?_
   ·rintro e h17 ⟨hag, s⟩
    refine Run.env hag ?_; clear hag
    refine au 3 rfl ?_
    refine zg rfl (sem_buildAL [] [(.int .i64 (0)), (.int .i64 (0)), (.int .i64 (0)), (.int .i64 (0))] TF.zero_26 TF.arr_26 rfl rfl ?_)
    refine zcall s rfl rfl TF.goes_25 ?_
    rintro _ h18 ⟨p19, rfl, s⟩
    refine au 5 rfl ?_
    refine zcall s rfl rfl TF.goes_16 ?_
    rintro _ h20 ⟨l21, s22, s23, s24, rfl, s⟩
    refine au 3 rfl ?_
    refine zal s rfl TF.zero_55 rfl fun k25 h26 s => ?_
    refine zal s rfl TF.zero_56 rfl fun k27 h28 s => ?_
    obtain ⟨hln, h29, hst, s⟩ := s
    refine zg0 rfl (sem_storeN ⟨k25, 0, none⟩ l21 h29 rfl rfl (TF.sz_55.trans (congrArg some hln.symm)) hst ?_)
    refine zsn s rfl rfl rfl TF.sz_56 rfl fun h30 s => ?_
    refine au 10 rfl ?_
    refine Run.seqJ (fun e h35 => ∃ a32 : Option Addr, ∃ n33 : Nat, ∃ c34 : Nat, Agree [(5, (.pointer p15)), (8, (.pointer p19)), (9, (.pointer (some ⟨k25, 0, none⟩))), (10, (.pointer (some ⟨k27, 0, none⟩))), (11, (.slice a32 n33 c34))] e ∧ S_countermandlaw20_AttemptWays_J3 B p15 p19 k25 k27 a32 n33 c34 h35 Q) ?_ fun j31 => ?_
    ·rintro e h35 ⟨a32, n33, c34, hag, s⟩
     refine Run.env hag ?_; clear hag
     refine au 2 rfl ?_
     obtain ⟨l36, nl36, hl, s⟩ := s
     refine zg rfl (sem_loadN ⟨k25, 0, none⟩ l36 rfl TF.agg_55 (TF.sz_55.trans (congrArg some nl36.symm)) hl ?_)
     obtain ⟨s37, s38, s39, hl, s⟩ := s
     refine zn hl rfl rfl TF.agg_56 TF.sz_56 rfl ?_
     refine au 1 rfl ?_
     refine zcall s rfl rfl TF.goes_19 ?_
     rintro _ h40 ⟨i41, l42, rfl, s⟩
     refine au 3 rfl ?_
     refine zal s rfl TF.zero_55 rfl fun k43 h44 s => ?_
     refine au 1 rfl ?_
     obtain ⟨hln, h45, hst, s⟩ := s
     refine zg0 rfl (sem_storeN ⟨k43, 0, none⟩ l42 h45 rfl rfl (TF.sz_55.trans (congrArg some hln.symm)) hst ?_)
     refine au 5 rfl ?_
     refine zcall s rfl rfl TF.goes_14 ?_
     rintro _ h46 ⟨b47, rfl, s⟩
     cases b47
     ·replace s := s.2 rfl
      refine au 7 rfl ?_
      exact zr (s.imp fun _ q => ⟨_, rfl, q⟩)
     ·replace s := s.1 rfl
      refine au 7 rfl ?_
      refine zcall s rfl rfl TF.goes_16 ?_
      rintro _ h48 ⟨l49, s50, s51, s52, rfl, s⟩
      refine au 3 rfl ?_
      refine zal s rfl TF.zero_55 rfl fun k53 h54 s => ?_
      refine zal s rfl TF.zero_56 rfl fun k55 h56 s => ?_
      obtain ⟨hln, h57, hst, s⟩ := s
      refine zg0 rfl (sem_storeN ⟨k53, 0, none⟩ l49 h57 rfl rfl (TF.sz_55.trans (congrArg some hln.symm)) hst ?_)
      refine zsn s rfl rfl rfl TF.sz_56 rfl fun h58 s => ?_
      refine au 3 rfl ?_
      obtain ⟨l59, nl59, hl, s⟩ := s
      refine zg rfl (sem_loadN ⟨k53, 0, none⟩ l59 rfl TF.agg_55 (TF.sz_55.trans (congrArg some nl59.symm)) hl ?_)
      obtain ⟨l60, nl60, hl, s⟩ := s
      refine zg rfl (sem_loadN ⟨k43, 0, none⟩ l60 rfl TF.agg_55 (TF.sz_55.trans (congrArg some nl60.symm)) hl ?_)
      obtain ⟨hi0, hi1, s⟩ := s
      refine zg rfl (sem_aggEq l59 l60 _ ((decide (eqL l59 l60 = true))) (.inl rfl) rfl rfl TF.agg_55 TF.flat_55 TF.eqg_55 hi0 hi1 eqLV_eql ?_)
      refine au 2 rfl ?_
      exact zr (s.imp fun _ q => ⟨_, rfl, q⟩)
    refine au 3 rfl ?_
    refine zg rfl (sem_lenSl a1 n2 c3 rfl TF.sl_73 ?_)
    refine au 3 rfl ?_
    obtain ⟨J75, m73, h0, s⟩ := s
    refine Run.of_fin (h0.imp fun h' h0 => ?_)
    refine Run.loop (σ := (Option Addr) × Nat × Nat × (Option Addr) × Nat × Nat × (Option Addr) × Nat × Nat × Int × Nat) (fun x e h => J75 x.1 x.2.1 x.2.2.1 x.2.2.2.1 x.2.2.2.2.1 x.2.2.2.2.2.1 x.2.2.2.2.2.2.1 x.2.2.2.2.2.2.2.1 x.2.2.2.2.2.2.2.2.1 x.2.2.2.2.2.2.2.2.2.1 x.2.2.2.2.2.2.2.2.2.2 h ∧ Agree [(5, (.pointer p15)), (8, (.pointer p19)), (9, (.pointer (some ⟨k25, 0, none⟩))), (10, (.pointer (some ⟨k27, 0, none⟩))), (11, (.slice x.1 x.2.1 x.2.2.1)), (12, (.slice x.2.2.2.1 x.2.2.2.2.1 x.2.2.2.2.2.1)), (13, (.slice x.2.2.2.2.2.2.1 x.2.2.2.2.2.2.2.1 x.2.2.2.2.2.2.2.2.1)), (71, (.slice a1 n2 c3)), (72, (.int .i64 ((n2 : Nat)))), (73, (.int .i64 (x.2.2.2.2.2.2.2.2.2.1)))] e) (fun x => x.2.2.2.2.2.2.2.2.2.2) (none, 0, 0, none, 0, 0, none, 0, 0, (0), m73) ⟨h0, ⟨rfl, rfl, rfl, rfl, rfl, rfl, rfl, rfl, rfl, rfl, trivial⟩⟩ ?_; clear h0
    rintro ⟨a61, n62, c63, a64, n65, c66, a67, n68, c69, i70, m72⟩ e h71 ⟨hJ, hag⟩ ih74
    have s := s a61 n62 c63 a64 n65 c66 a67 n68 c69 i70 m72 h71 hJ; clear hJ
    refine Run.env hag ?_; clear hag
    refine au 2 rfl ?_
    refine zt s rfl rfl rfl binI_lss_t binI_lss_f (fun s => ?_) fun s => ?_
    ·refine au 8 rfl ?_
     obtain ⟨A76, e77, hi0, hi1, s⟩ := s
     refine zg rfl (sem_indexAddrS A76 n2 c3 .i64 (i70) (congrArg (fun a => Value.slice a n2 c3) e77) rfl TF.slc_73 hi0 hi1 ?_)
     obtain ⟨i78, i79, i80, i81, i82, i83, hl, s⟩ := s
     refine zn hl rfl rfl TF.agg_78 TF.sz_78 rfl ?_
     refine zal s rfl TF.zero_78 rfl fun k84 h85 s => ?_
     refine zsn s rfl rfl rfl TF.sz_78 rfl fun h86 s => ?_
     refine au 4 rfl ?_
     refine zl s rfl rfl TF.agg_3 fun i87 s => ?_
     refine au 4 rfl ?_
     refine zt s rfl rfl rfl binI_eql_t binI_eql_f (fun s => ?_) fun s => ?_
     ·refine au 7 rfl ?_
      obtain ⟨i88, i89, i90, i91, hl, s⟩ := s
      refine zn hl rfl rfl TF.agg_38 TF.sz_38 rfl ?_
      refine zcall s rfl rfl TF.goes_17 ?_
      rintro _ h92 ⟨i93, i94, rfl, s⟩
      refine au 9 rfl ?_
      refine zt s rfl rfl rfl binI_eql_t binI_eql_f (fun s => ?_) fun s => ?_
      ·refine au 2 rfl ?_
       obtain ⟨i97, i98, i99, i100, hl, s⟩ := s
       have f101 := hl
       refine Run.drawM (fun h' => CellsAt B h' ⟨k84, 1, none⟩ 0 [(.int .i64 (i97)), (.int .i64 (i98)), (.int .i64 (i99)), (.int .u8 (i100))] ∧ True) [] ⟨[0, 0, 3, 0, 8, 16, 36, 127], [255, 255, 252, 255, 247, 239, 219, 189], [0, 0, 0, 0, 0, 0, 0, 0], 0⟩ (.q 1 (.q 3 (.q 4 (.x 0 (.x 2 (.x 5 (.x 6 (.q 7 .nil) .no) .no) (.x 5 (.x 2 (.x 6 (.q 7 .nil) .no) .no) .no)) (.x 5 (.x 0 (.x 2 (.x 6 (.q 7 .nil) .no) .no) .no) .no))))) TF.mixed (by kernel_rfl) ⟨f101, trivial⟩ ?_
       refine auT 2 rfl ?_
       refine zq rfl (fun _ hC => sem_loadN ⟨k84, 1, none⟩ [(.int .i64 (i97)), (.int .i64 (i98)), (.int .i64 (i99)), (.int .u8 (i100))] rfl TF.agg_38 TF.sz_38 hC.1 ⟨rfl, rfl⟩) ?_
       refine RunT.joinJ (t := (.x 6 (.q 7 .nil) .no)) (fun e h139 => ∃ a133 : Option Addr, ∃ n134 : Nat, ∃ c135 : Nat, ∃ a136 : Option Addr, ∃ n137 : Nat, ∃ c138 : Nat, Agree [(5, (.pointer p15)), (8, (.pointer p19)), (9, (.pointer (some ⟨k25, 0, none⟩))), (10, (.pointer (some ⟨k27, 0, none⟩))), (11, (.slice a61 n62 c63)), (12, (.slice a64 n65 c66)), (13, (.slice a67 n68 c69)), (71, (.slice a1 n2 c3)), (72, (.int .i64 ((n2 : Nat)))), (73, (.int .i64 (i70))), (92, (.slice a133 n134 c135)), (95, (.slice a136 n137 c138))] e ∧ CellsAt B h139 ⟨k84, 1, none⟩ 0 [(.int .i64 (i97)), (.int .i64 (i98)), (.int .i64 (i99)), (.int .u8 (i100))] ∧ S_countermandlaw20_AttemptWays_J4 B a1 n2 c3 p15 p19 k25 k27 a61 n62 c63 a64 n65 c66 a67 n68 c69 i70 m72 J75 k84 i97 i98 i99 i100 a133 n134 c135 a136 n137 c138 h139 Q) ?_ fun j132 => ?_
       ·rintro e h139 ⟨a133, n134, c135, a136, n137, c138, hag, g140, s⟩
        refine RunT.env hag ?_; clear hag
        refine ⟨zo rfl (sem_appendL [(.slice a133 n134 c135), (.slice a136 n137 c138)] rfl (semH_mono (fun v h141 hv => ?_) s)), trivial⟩
        obtain ⟨a142, n143, c144, rfl, s⟩ := hv
        obtain ⟨g145, s⟩ := s
        refine ⟨fun _ => ⟨g145, trivial⟩, ?_⟩
        refine auT 1 rfl ?_
        refine au 6 rfl ?_
        exact Run.of_fin (s.imp fun h' ⟨m', hm, s⟩ => ih74 (a142, n143, c144, a64, n65, c66, a67, n68, c69, (IntKind.wrap .i64 ((i70) + (1))), m') _ _ ⟨s, ⟨rfl, rfl, rfl, rfl, rfl, rfl, rfl, rfl, rfl, rfl, trivial⟩⟩ hm)
       refine ⟨?_, ?_, trivial⟩
       ·have s := s.1
        refine zo rfl (sem_buildSlice0N TF.slc_31 (fun k146 hb1 hb2 h147 hb3 => ?_))
        have s := s k146 hb1 hb2 h147 hb3
        obtain ⟨g148, s⟩ := s
        refine ⟨fun _ => ⟨g148, trivial⟩, ?_⟩
        refine ⟨?_, ?_, trivial⟩
        ·have s := s.1
         refine zo rfl (sem_appendL [(.slice (some ⟨k146, 0, none⟩) 0 0), (.slice a61 n62 c63)] rfl (semH_mono (fun v h149 hv => ?_) s))
         obtain ⟨a150, n151, c152, rfl, s⟩ := hv
         obtain ⟨g153, s⟩ := s
         refine ⟨fun _ => ⟨g153, trivial⟩, ?_⟩
         refine ⟨zo rfl (sem_buildSliceL [(0, (.agg #[(.int .i64 (i97)), (.int .i64 (i98)), (.int .i64 (i99)), (.int .u8 (i100))]))] [(.int .i64 (i97)), (.int .i64 (i98)), (.int .i64 (i99)), (.int .u8 (i100))] TF.slc_31 TF.zero_38 rfl (by decide) (by decide) rfl rfl (fun k154 hb1 hb2 h155 hb3 => ?_)), trivial⟩
         have s := s k154 hb1 hb2 h155 hb3
         obtain ⟨g156, s⟩ := s
         refine ⟨fun _ => ⟨g156, trivial⟩, ?_⟩
         exact j132 _ _ ⟨a150, n151, c152, (some ⟨k154, 0, none⟩), 1, 1, ⟨rfl, rfl, rfl, rfl, rfl, rfl, rfl, rfl, rfl, rfl, rfl, rfl, trivial⟩, g156, s⟩
        ·have s := s.2
         refine zo rfl (sem_buildSliceL [(0, (.agg #[(.int .i64 (i97)), (.int .i64 (i98)), (.int .i64 (i99)), (.int .u8 (i100))]))] [(.int .i64 (i97)), (.int .i64 (i98)), (.int .i64 (i99)), (.int .u8 (i100))] TF.slc_31 TF.zero_38 rfl (by decide) (by decide) rfl rfl (fun k157 hb1 hb2 h158 hb3 => ?_))
         have s := s k157 hb1 hb2 h158 hb3
         obtain ⟨g159, s⟩ := s
         refine ⟨fun _ => ⟨g159, trivial⟩, ?_⟩
         refine ⟨zo rfl (sem_appendL [(.slice (some ⟨k146, 0, none⟩) 0 0), (.slice a61 n62 c63)] rfl (semH_mono (fun v h160 hv => ?_) s)), trivial⟩
         obtain ⟨a161, n162, c163, rfl, s⟩ := hv
         obtain ⟨g164, s⟩ := s
         refine ⟨fun _ => ⟨g164, trivial⟩, ?_⟩
         exact j132 _ _ ⟨a161, n162, c163, (some ⟨k157, 0, none⟩), 1, 1, ⟨rfl, rfl, rfl, rfl, rfl, rfl, rfl, rfl, rfl, rfl, rfl, rfl, trivial⟩, g164, s⟩
       ·have s := s.2
        refine zo rfl (sem_buildSliceL [(0, (.agg #[(.int .i64 (i97)), (.int .i64 (i98)), (.int .i64 (i99)), (.int .u8 (i100))]))] [(.int .i64 (i97)), (.int .i64 (i98)), (.int .i64 (i99)), (.int .u8 (i100))] TF.slc_31 TF.zero_38 rfl (by decide) (by decide) rfl rfl (fun k165 hb1 hb2 h166 hb3 => ?_))
        have s := s k165 hb1 hb2 h166 hb3
        obtain ⟨g167, s⟩ := s
        refine ⟨fun _ => ⟨g167, trivial⟩, ?_⟩
        refine ⟨zo rfl (sem_buildSlice0N TF.slc_31 (fun k168 hb1 hb2 h169 hb3 => ?_)), trivial⟩
        have s := s k168 hb1 hb2 h169 hb3
        obtain ⟨g170, s⟩ := s
        refine ⟨fun _ => ⟨g170, trivial⟩, ?_⟩
        refine ⟨zo rfl (sem_appendL [(.slice (some ⟨k168, 0, none⟩) 0 0), (.slice a61 n62 c63)] rfl (semH_mono (fun v h171 hv => ?_) s)), trivial⟩
        obtain ⟨a172, n173, c174, rfl, s⟩ := hv
        obtain ⟨g175, s⟩ := s
        refine ⟨fun _ => ⟨g175, trivial⟩, ?_⟩
        exact j132 _ _ ⟨a172, n173, c174, (some ⟨k165, 0, none⟩), 1, 1, ⟨rfl, rfl, rfl, rfl, rfl, rfl, rfl, rfl, rfl, rfl, rfl, rfl, trivial⟩, g175, s⟩
      ·refine au 9 rfl ?_
       exact Run.of_fin (s.imp fun h' ⟨m', hm, s⟩ => ih74 (a61, n62, c63, a64, n65, c66, a67, n68, c69, (IntKind.wrap .i64 ((i70) + (1))), m') _ _ ⟨s, ⟨rfl, rfl, rfl, rfl, rfl, rfl, rfl, rfl, rfl, rfl, trivial⟩⟩ hm)
     ·refine au 5 rfl ?_
      refine zt s rfl rfl rfl binI_eql_t binI_eql_f (fun s => ?_) fun s => ?_
      ·refine au 7 rfl ?_
       refine zl s rfl rfl TF.agg_3 fun i176 s => ?_
       refine zcall s rfl rfl TF.goes_26 ?_
       rintro _ h177 ⟨rfl, s⟩
       refine au 5 rfl ?_
       refine zg rfl (sem_lenSl a61 n62 c63 rfl TF.sl_31 ?_)
       refine zg rfl (sem_buildSliceL [(0, (.int .i64 ((n62 : Nat))))] [(.int .i64 ((n62 : Nat)))] TF.slc_76 TF.zero_3 rfl (by decide) (by decide) rfl rfl (fun k178 hb1 hb2 h179 hb3 => ?_))
       have s := s k178 hb1 hb2 h179 hb3
       refine zg rfl (sem_appendL [(.slice a64 n65 c66), (.slice (some ⟨k178, 0, none⟩) 1 1)] rfl (semH_mono (fun v h180 hv => ?_) s))
       obtain ⟨a181, n182, c183, rfl, s⟩ := hv
       refine au 5 rfl ?_
       refine zl s rfl rfl TF.agg_3 fun i184 s => ?_
       refine zg rfl (sem_buildSliceL [(0, (.int .i64 (i184)))] [(.int .i64 (i184))] TF.slc_76 TF.zero_3 rfl (by decide) (by decide) rfl rfl (fun k185 hb1 hb2 h186 hb3 => ?_))
       have s := s k185 hb1 hb2 h186 hb3
       refine zg rfl (sem_appendL [(.slice a67 n68 c69), (.slice (some ⟨k185, 0, none⟩) 1 1)] rfl (semH_mono (fun v h187 hv => ?_) s))
       obtain ⟨a188, n189, c190, rfl, s⟩ := hv
       refine au 8 rfl ?_
       exact Run.of_fin (s.imp fun h' ⟨m', hm, s⟩ => ih74 (a61, n62, c63, a181, n182, c183, a188, n189, c190, (IntKind.wrap .i64 ((i70) + (1))), m') _ _ ⟨s, ⟨rfl, rfl, rfl, rfl, rfl, rfl, rfl, rfl, rfl, rfl, trivial⟩⟩ hm)
      ·refine au 5 rfl ?_
       refine zt s rfl rfl rfl binI_eql_t binI_eql_f (fun s => ?_) fun s => ?_
       ·refine au 6 rfl ?_
        refine zcall s rfl rfl TF.goes_27 ?_
        rintro _ h191 ⟨i192, a193, n194, c195, b196, rfl, s⟩
        refine au 11 rfl ?_
        refine zg rfl (sem_lenSl a64 n65 c66 rfl TF.sl_76 ?_)
        refine au 3 rfl ?_
        refine Run.seqJ (fun e h198 => Agree [(5, (.pointer p15)), (8, (.pointer p19)), (9, (.pointer (some ⟨k25, 0, none⟩))), (10, (.pointer (some ⟨k27, 0, none⟩))), (11, (.slice a61 n62 c63)), (12, (.slice a64 n65 c66)), (13, (.slice a67 n68 c69)), (18, (.int .i64 (i192))), (21, (.int .i64 (IntKind.wrap .i64 (((n65 : Nat)) - (1))))), (71, (.slice a1 n2 c3)), (72, (.int .i64 ((n2 : Nat)))), (73, (.int .i64 (i70)))] e ∧ S_countermandlaw20_AttemptWays_J5 B a1 n2 c3 p15 p19 k25 k27 a61 n62 c63 a64 n65 c66 a67 n68 c69 i70 m72 J75 i192 h198 Q) ?_ fun j197 => ?_
        ·rintro e h198 ⟨hag, s⟩
         refine Run.env hag ?_; clear hag
         refine au 3 rfl ?_
         refine zt s rfl rfl rfl binI_geq_t binI_geq_f (fun s => ?_) fun s => ?_
         ·refine au 8 rfl ?_
          obtain ⟨A199, e200, hi0, hi1, s⟩ := s
          refine zg rfl (sem_indexAddrS A199 n68 c69 .i64 (IntKind.wrap .i64 (((n65 : Nat)) - (1))) (congrArg (fun a => Value.slice a n68 c69) e200) rfl TF.slc_76 hi0 hi1 ?_)
          refine zl s rfl rfl TF.agg_3 fun i201 s => ?_
          refine zu s rfl rfl rfl binI_neq_t binI_neq_f (fun s => ?_) fun s => ?_
          ·refine au 8 rfl ?_
           obtain ⟨A202, e203, hi0, hi1, s⟩ := s
           refine zg rfl (sem_indexAddrS A202 n65 c66 .i64 (IntKind.wrap .i64 (((n65 : Nat)) - (1))) (congrArg (fun a => Value.slice a n65 c66) e203) rfl TF.slc_76 hi0 hi1 ?_)
           refine zl s rfl rfl TF.agg_3 fun i204 s => ?_
           obtain ⟨hi0, hi1, hi2, s⟩ := s
           refine zg rfl (sem_sliceSlI a61 n62 c63 (0) (i204) rfl TF.slc_31 rfl ⟨_, rfl⟩ hi0 hi1 hi2 ?_)
           refine au 6 rfl ?_
           obtain ⟨hi0, hi1, hi2, s⟩ := s
           refine zg rfl (sem_sliceSlI a64 n65 c66 (0) (IntKind.wrap .i64 (((n65 : Nat)) - (1))) rfl TF.slc_76 rfl ⟨_, rfl⟩ hi0 hi1 hi2 ?_)
           refine au 5 rfl ?_
           obtain ⟨hi0, hi1, hi2, s⟩ := s
           refine zg rfl (sem_sliceSlI a67 n68 c69 (0) (IntKind.wrap .i64 (((n65 : Nat)) - (1))) rfl TF.slc_76 rfl ⟨_, rfl⟩ hi0 hi1 hi2 ?_)
           refine au 8 rfl ?_
           exact Run.of_fin (s.imp fun h' ⟨m', hm, s⟩ => ih74 ((if c63 = Int.toNat (0) then a61 else Option.map (·.add (Int.toNat (0) * 4)) a61), (Int.toNat (i204) - Int.toNat (0)), (c63 - Int.toNat (0)), (if c66 = Int.toNat (0) then a64 else Option.map (·.add (Int.toNat (0) * 1)) a64), (Int.toNat (IntKind.wrap .i64 (((n65 : Nat)) - (1))) - Int.toNat (0)), (c66 - Int.toNat (0)), (if c69 = Int.toNat (0) then a67 else Option.map (·.add (Int.toNat (0) * 1)) a67), (Int.toNat (IntKind.wrap .i64 (((n65 : Nat)) - (1))) - Int.toNat (0)), (c69 - Int.toNat (0)), (IntKind.wrap .i64 ((i70) + (1))), m') _ _ ⟨s, ⟨rfl, rfl, rfl, rfl, rfl, rfl, rfl, rfl, rfl, rfl, trivial⟩⟩ hm)
          ·refine au 6 rfl ?_
           exact zr (s.imp fun _ q => ⟨_, rfl, q⟩)
         ·refine au 9 rfl ?_
          exact Run.of_fin (s.imp fun h' ⟨m', hm, s⟩ => ih74 (a61, n62, c63, a64, n65, c66, a67, n68, c69, (IntKind.wrap .i64 ((i70) + (1))), m') _ _ ⟨s, ⟨rfl, rfl, rfl, rfl, rfl, rfl, rfl, rfl, rfl, rfl, trivial⟩⟩ hm)
        refine au 5 rfl ?_
        by_cases hb205 : b196 = (decide ((IntKind.wrap .i64 (((n65 : Nat)) - (1)) : Int) ≥ (0)))
        ·replace s := s.1 hb205
         refine zg rfl (sem_boolEqT b196 (decide ((IntKind.wrap .i64 (((n65 : Nat)) - (1)) : Int) ≥ (0))) (.inr rfl) false rfl rfl TF.bool_4 hb205 rfl ?_)
         refine au 2 rfl ?_
         refine zg rfl (sem_lenSl a193 n194 c195 rfl TF.sl_80 ?_)
         refine zu s rfl rfl rfl binI_neq_t binI_neq_f (fun s => ?_) fun s => ?_
         ·refine au 3 rfl ?_
          refine zt s rfl rfl rfl binI_lss_t binI_lss_f (fun s => ?_) fun s => ?_
          ·refine au 2 rfl ?_
           refine zu s rfl rfl rfl binI_neq_t binI_neq_f (fun s => ?_) fun s => ?_
           ·refine au 5 rfl ?_
            exact Run.of_fin (s.imp fun h' s => j197 _ _ ⟨⟨rfl, rfl, rfl, rfl, rfl, rfl, rfl, rfl, rfl, rfl, rfl, rfl, trivial⟩, s⟩)
           ·refine au 8 rfl ?_
            exact zr (s.imp fun _ q => ⟨_, rfl, q⟩)
          ·refine au 8 rfl ?_
           exact Run.of_fin (s.imp fun h' s => j197 _ _ ⟨⟨rfl, rfl, rfl, rfl, rfl, rfl, rfl, rfl, rfl, rfl, rfl, rfl, trivial⟩, s⟩)
         ·refine au 15 rfl ?_
          exact zr (s.imp fun _ q => ⟨_, rfl, q⟩)
        ·replace s := s.2 hb205
         refine zg rfl (sem_boolEqF b196 (decide ((IntKind.wrap .i64 (((n65 : Nat)) - (1)) : Int) ≥ (0))) (.inr rfl) true rfl rfl TF.bool_4 hb205 rfl ?_)
         refine au 19 rfl ?_
         exact zr (s.imp fun _ q => ⟨_, rfl, q⟩)
       ·refine au 10 rfl ?_
        exact Run.of_fin (s.imp fun h' ⟨m', hm, s⟩ => ih74 (a61, n62, c63, a64, n65, c66, a67, n68, c69, (IntKind.wrap .i64 ((i70) + (1))), m') _ _ ⟨s, ⟨rfl, rfl, rfl, rfl, rfl, rfl, rfl, rfl, rfl, rfl, trivial⟩⟩ hm)
    ·refine au 4 rfl ?_
     exact Run.of_fin (s.imp fun h' s => j31 _ _ ⟨a61, n62, c63, ⟨rfl, rfl, rfl, rfl, rfl, trivial⟩, s⟩)
   refine au 2 rfl ?_
   obtain ⟨s206, s207, s208, hl, s⟩ := s
   refine zn hl rfl rfl TF.agg_56 TF.sz_56 rfl ?_
   refine au 3 rfl ?_
   obtain ⟨J214, m212, h0, s⟩ := s
   refine Run.of_fin (h0.imp fun h' h0 => ?_)
   refine Run.loop (σ := Int × Nat) (fun x e h => J214 x.1 x.2 h ∧ Agree [(0, (.slice a1 n2 c3)), (5, (.pointer p15)), (50, (.agg #[(.string s206), (.string s207), (.string s208)])), (51, (.int .i64 (x.1)))] e) (fun x => x.2) ((0), m212) ⟨h0, ⟨rfl, rfl, rfl, rfl, trivial⟩⟩ ?_; clear h0
   rintro ⟨i209, m211⟩ e h210 ⟨hJ, hag⟩ ih213
   have s := s i209 m211 h210 hJ; clear hJ
   refine Run.env hag ?_; clear hag
   refine au 2 rfl ?_
   refine zt s rfl rfl rfl binI_lss_t binI_lss_f (fun s => ?_) fun s => ?_
   ·refine au 9 rfl ?_
    obtain ⟨hi0, hi1, s215, hix, s⟩ := s
    refine zg rfl (sem_indexArr #[(.string s206), (.string s207), (.string s208)] (.string s215) .i64 (i209) rfl rfl TF.arr_56 hi0 hi1 hix ?_)
    refine au 5 rfl ?_
    refine znil s rfl rfl fun A216 s => ?_
    refine au 1 rfl ?_
    refine zl s rfl rfl TF.agg_41 fun p218 s => ?_
    refine au 2 rfl ?_
    refine zcall s rfl rfl TF.goes_18 ?_
    rintro _ h219 ⟨i220, rfl, s⟩
    refine au 6 rfl ?_
    exact Run.of_fin (s.imp fun h' ⟨m', hm, s⟩ => ih213 ((IntKind.wrap .i64 ((i209) + (1))), m') _ _ ⟨s, ⟨rfl, rfl, rfl, rfl, trivial⟩⟩ hm)
   ·refine au 4 rfl ?_
    exact Run.of_fin (s.imp fun h' s => j16 _ _ ⟨⟨rfl, rfl, trivial⟩, s⟩)
  refine au 3 rfl ?_
  refine zg rfl (sem_lenSl a1 n2 c3 rfl TF.sl_73 ?_)
  refine zt s rfl rfl rfl binI_gtr_t binI_gtr_f (fun s => ?_) fun s => ?_
  ·refine au 24 rfl ?_
   exact zr (s.imp fun _ q => ⟨_, rfl, q⟩)
  ·refine au 1 rfl ?_
   obtain ⟨hi0, hi1, s⟩ := s
   refine zg rfl (sem_indexAddrA ⟨k8, 0, none⟩ .i64 (0) rfl rfl TF.arr_56 hi0 hi1 ?_)
   refine zl s rfl rfl TF.agg_9 fun s221 s => ?_
   refine zg rfl (sem_lenStr s221 rfl TF.isStr_9 ?_)
   refine zt s rfl rfl rfl binI_gtr_t binI_gtr_f (fun s => ?_) fun s => ?_
   ·refine au 19 rfl ?_
    exact zr (s.imp fun _ q => ⟨_, rfl, q⟩)
   ·refine au 2 rfl ?_
    obtain ⟨hi0, hi1, s⟩ := s
    refine zg rfl (sem_indexAddrA ⟨k8, 0, none⟩ .i64 (1) rfl rfl TF.arr_56 hi0 hi1 ?_)
    refine zl s rfl rfl TF.agg_9 fun s222 s => ?_
    refine zg rfl (sem_lenStr s222 rfl TF.isStr_9 ?_)
    refine zt s rfl rfl rfl binI_gtr_t binI_gtr_f (fun s => ?_) fun s => ?_
    ·refine au 13 rfl ?_
     exact zr (s.imp fun _ q => ⟨_, rfl, q⟩)
    ·refine au 2 rfl ?_
     obtain ⟨hi0, hi1, s⟩ := s
     refine zg rfl (sem_indexAddrA ⟨k8, 0, none⟩ .i64 (2) rfl rfl TF.arr_56 hi0 hi1 ?_)
     refine zl s rfl rfl TF.agg_9 fun s223 s => ?_
     refine zg rfl (sem_lenStr s223 rfl TF.isStr_9 ?_)
     refine zt s rfl rfl rfl binI_gtr_t binI_gtr_f (fun s => ?_) fun s => ?_
     ·refine au 7 rfl ?_
      exact zr (s.imp fun _ q => ⟨_, rfl, q⟩)
     ·refine au 4 rfl ?_
      exact Run.of_fin (s.imp fun h' s => j12 _ _ ⟨⟨rfl, rfl, trivial⟩, s⟩)
end Go.Proofs.YtgldgabefiialaaGreat.H
