/- What each function asks. No condition. -/
import Derived.Test.YtoajfmmomgpjcaaXfF
namespace Go.Proofs.Ytoajfmmomgpjcaa.H
open Go
set_option linter.unusedVariables false
set_option maxRecDepth 100000

def S_countermandlaw13_DraftOrder_J3 (B : RO) (k6 : Nat) (k14 : Nat) (k18 : Nat) (h28 : Heap) (Q : Bool → Heap → Prop) : Prop :=
 ∃ p30 : Option Addr, cellH B h28 ⟨k18, 0, none⟩ = some (Value.pointer p30) ∧
 C_draft_Draft_int_Len B (some ⟨k14, 0, none⟩) h28 (fun i33 h32 =>
 cellH B h32 ⟨k18, 0, none⟩ = some (Value.pointer p30) ∧
 C_draft_Draft_int_Len B p30 h32 (fun i36 h35 =>
 cellH B h35 ⟨k18, 0, none⟩ = some (Value.pointer p30) ∧
 ((i33 : Int) = i36 →
 C_draft_Draft_int_All B (some ⟨k14, 0, none⟩) h35 (fun v40 h39 =>
 ∃ (xs47 : List (Int × Int)) (G43 : Heap → Prop) (J46 : Nat → Heap → Prop), Iter PG B v40 (xs47.map (fun x : Int × Int => [(Value.int .i64 (x.1)), (Value.int .i64 (x.2))])) G43 ∧ Ins G43 ∧ (∀ i h, J46 i h → G43 h) ∧ Fin B h39 (J46 0) ∧
 (∀ (q45 : Nat) (h44 : Heap) (i41 : Int) (i42 : Int), xs47[q45]? = some (i41, i42) → J46 q45 h44 →
 ∃ p48 : Option Addr, cellH B h44 ⟨k18, 0, none⟩ = some (Value.pointer p48) ∧
 C_draft_Draft_int_Get B p48 (i41) h44 (fun i50 b51 h49 =>
 (b51 = true →
 ((i50 : Int) = i42 →
 Fin B h49 (J46 (q45 + 1))) ∧ (¬ ((i50 : Int) = i42) →
 ∃ h55 : Heap, storeH h49 ⟨k6, 0, none⟩ (Value.bool false) = some h55 ∧
 ∃ b56 : Bool, cellH B h55 ⟨k6, 0, none⟩ = some (Value.bool b56) ∧ Fin B h55 (Q (b56)))) ∧ (b51 = false →
 ∃ h52 : Heap, storeH h49 ⟨k6, 0, none⟩ (Value.bool false) = some h52 ∧
 ∃ b53 : Bool, cellH B h52 ⟨k6, 0, none⟩ = some (Value.bool b53) ∧ Fin B h52 (Q (b53))))) ∧
 (∀ (h44 : Heap), J46 xs47.length h44 →
 ∃ h57 : Heap, storeH h44 ⟨k6, 0, none⟩ (Value.bool true) = some h57 ∧
 ∃ b58 : Bool, cellH B h57 ⟨k6, 0, none⟩ = some (Value.bool b58) ∧ Fin B h57 (Q (b58))))) ∧ (¬ ((i33 : Int) = i36) →
 ∃ h59 : Heap, storeH h35 ⟨k6, 0, none⟩ (Value.bool false) = some h59 ∧
 ∃ b60 : Bool, cellH B h59 ⟨k6, 0, none⟩ = some (Value.bool b60) ∧ Fin B h59 (Q (b60)))))
def S_countermandlaw13_DraftOrder_J2 (B : RO) (a1 : Option Addr) (n2 : Nat) (c3 : Nat) (i4 : Int) (k6 : Nat) (k14 : Nat) (k18 : Nat) (h22 : Heap) (Q : Bool → Heap → Prop) : Prop :=
 C_countermandref13_Numbers B a1 n2 c3 h22 (fun a24 n25 c26 h23 =>
 ∃ (J66 : Int → Nat → Heap → Prop) (m64 : Nat), Fin B h23 (J66 (0) m64) ∧
 ∀ (i61 : Int) (m63 : Nat) (h62 : Heap), J66 i61 m63 h62 →
 ((i61 : Int) < ((n25 : Nat)) →
 ¬ (((n25 : Nat) : Int) = 0) ∧
 ∃ A68 : Addr, a24 = some A68 ∧ 0 ≤ (Int.tmod (IntKind.wrap .i64 ((IntKind.wrap .i64 ((IntKind.wrap .i64 (((n25 : Nat)) - (1))) - (i61))) + (i4))) ((n25 : Nat)) : Int) ∧ (Int.tmod (IntKind.wrap .i64 ((IntKind.wrap .i64 ((IntKind.wrap .i64 (((n25 : Nat)) - (1))) - (i61))) + (i4))) ((n25 : Nat)) : Int) < (n25 : Nat) ∧
 ∃ i70 : Int, cellH B h62 (Addr.add A68 (Int.toNat (Int.tmod (IntKind.wrap .i64 ((IntKind.wrap .i64 ((IntKind.wrap .i64 (((n25 : Nat)) - (1))) - (i61))) + (i4))) ((n25 : Nat))) * 1)) = some (Value.int .i64 (i70)) ∧
 C_countermandref13_Get B a1 n2 c3 (i70) h62 (fun i72 b73 h71 =>
 ∃ p74 : Option Addr, cellH B h71 ⟨k18, 0, none⟩ = some (Value.pointer p74) ∧
 C_draft_Draft_int_Put B p74 (i70) (i72) h71 (fun b76 h75 =>
 Fin B h75 (fun h' => ∃ m', m' < m63 ∧ J66 (IntKind.wrap .i64 ((i61) + (1))) m' h')))) ∧ (¬ ((i61 : Int) < ((n25 : Nat))) →
 Fin B h62 (fun h' => S_countermandlaw13_DraftOrder_J3 B k6 k14 k18 h' Q)))
def S_countermandlaw13_DraftOrder_J1 (B : RO) (a1 : Option Addr) (n2 : Nat) (c3 : Nat) (i4 : Int) (k6 : Nat) (h13 : Heap) (Q : Bool → Heap → Prop) : Prop :=
 ∀ k14 : Nat, h13 k14 = none → B k14 = none → ∀ h15 : Heap, h15 = Heap.set h13 k14 (.vec 122 (plains [(Value.slice none 0 0)]) 1) →
 ∀ k16 : Nat, h15 k16 = none → B k16 = none → ∀ h17 : Heap, h17 = Heap.set h15 k16 (.vec 122 (plains [(Value.slice none 0 0)]) 1) →
 ∀ k18 : Nat, h17 k18 = none → B k18 = none → ∀ h19 : Heap, h19 = Heap.set h17 k18 (.vec 119 (plains [(Value.pointer none)]) 1) →
 ∃ h20 : Heap, storeH h19 ⟨k18, 0, none⟩ (Value.pointer (some ⟨k16, 0, none⟩)) = some h20 ∧
 C_countermandref13_Numbers B a1 n2 c3 h20 (fun a78 n79 c80 h77 =>
 ∃ (J86 : Int → Nat → Heap → Prop) (m84 : Nat), Fin B h77 (J86 (0) m84) ∧
 ∀ (i81 : Int) (m83 : Nat) (h82 : Heap), J86 i81 m83 h82 →
 ((i81 : Int) < ((n79 : Nat)) →
 ∃ A88 : Addr, a78 = some A88 ∧ 0 ≤ (i81 : Int) ∧ (i81 : Int) < (n79 : Nat) ∧
 ∃ i90 : Int, cellH B h82 (Addr.add A88 (Int.toNat (i81) * 1)) = some (Value.int .i64 (i90)) ∧
 C_countermandref13_Get B a1 n2 c3 (i90) h82 (fun i92 b93 h91 =>
 C_draft_Draft_int_Put B (some ⟨k14, 0, none⟩) (i90) (i92) h91 (fun b95 h94 =>
 Fin B h94 (fun h' => ∃ m', m' < m83 ∧ J86 (IntKind.wrap .i64 ((i81) + (1))) m' h')))) ∧ (¬ ((i81 : Int) < ((n79 : Nat))) →
 Fin B h82 (fun h' => S_countermandlaw13_DraftOrder_J2 B a1 n2 c3 i4 k6 k14 k18 h' Q)))
def S_countermandlaw13_DraftOrder (B : RO) (a1 : Option Addr) (n2 : Nat) (c3 : Nat) (i4 : Int) (h : Heap) (Q : Bool → Heap → Prop) : Prop :=
 ∀ k6 : Nat, h k6 = none → B k6 = none → ∀ h7 : Heap, h7 = Heap.set h k6 (.vec 4 (plains [(Value.bool false)]) 1) →
 C_countermandlaw13_alive B h7 (fun b9 h8 =>
 (b9 = true →
 (((n2 : Nat) : Int) > (80) →
 ∃ h97 : Heap, storeH h8 ⟨k6, 0, none⟩ (Value.bool true) = some h97 ∧
 ∃ b98 : Bool, cellH B h97 ⟨k6, 0, none⟩ = some (Value.bool b98) ∧ Fin B h97 (Q (b98))) ∧ (¬ (((n2 : Nat) : Int) > (80)) →
 ((i4 : Int) < (0) →
 ∃ h100 : Heap, storeH h8 ⟨k6, 0, none⟩ (Value.bool true) = some h100 ∧
 ∃ b101 : Bool, cellH B h100 ⟨k6, 0, none⟩ = some (Value.bool b101) ∧ Fin B h100 (Q (b101))) ∧ (¬ ((i4 : Int) < (0)) →
 ((i4 : Int) > ((n2 : Nat)) →
 ∃ h103 : Heap, storeH h8 ⟨k6, 0, none⟩ (Value.bool true) = some h103 ∧
 ∃ b104 : Bool, cellH B h103 ⟨k6, 0, none⟩ = some (Value.bool b104) ∧ Fin B h103 (Q (b104))) ∧ (¬ ((i4 : Int) > ((n2 : Nat))) →
 Fin B h8 (fun h' => S_countermandlaw13_DraftOrder_J1 B a1 n2 c3 i4 k6 h' Q))))) ∧ (b9 = false →
 ∃ h10 : Heap, storeH h8 ⟨k6, 0, none⟩ (Value.bool false) = some h10 ∧
 ∃ b11 : Bool, cellH B h10 ⟨k6, 0, none⟩ = some (Value.bool b11) ∧ Fin B h10 (Q (b11))))
def S_countermandlaw13_DraftPuts_J3 (B : RO) (k8 : Nat) (k21 : Nat) (k33 : Nat) (k36 : Nat) (h42 : Heap) (Q : Bool → Heap → Prop) : Prop :=
 C_draft_Draft_int_Get B none (0) h42 (fun i44 b45 h43 =>
 (b45 = true →
 ∃ i96 : Int, cellH B h43 ⟨k36, 0, none⟩ = some (Value.int .i64 (i96)) ∧
 ∃ a98 : Option Addr, ∃ n99 : Nat, ∃ c100 : Nat, cellH B h43 ⟨k33, 0, none⟩ = some (Value.slice a98 n99 c100) ∧
 ((i96 : Int) = (n99 : Nat) →
 ∃ i107 : Int, cellH B h43 ⟨k36, 0, none⟩ = some (Value.int .i64 (i107)) ∧
 C_draft_Draft_int_Len B (some ⟨k21, 0, none⟩) h43 (fun i110 h109 =>
 cellH B h109 ⟨k36, 0, none⟩ = some (Value.int .i64 (i96)) ∧ cellH B h109 ⟨k33, 0, none⟩ = some (Value.slice a98 n99 c100) ∧ cellH B h109 ⟨k36, 0, none⟩ = some (Value.int .i64 (i107)) ∧
 ((i110 : Int) = i107 →
 C_draft_Draft_int_Put B none (1) (1) h109 (fun b116 h115 =>
 (b116 = true →
 cellH B h115 ⟨k36, 0, none⟩ = some (Value.int .i64 (i96)) ∧ cellH B h115 ⟨k33, 0, none⟩ = some (Value.slice a98 n99 c100) ∧ cellH B h115 ⟨k36, 0, none⟩ = some (Value.int .i64 (i107)) ∧
 ∃ h125 : Heap, storeH h115 ⟨k8, 0, none⟩ (Value.bool false) = some h125 ∧
 ∃ b126 : Bool, cellH B h125 ⟨k8, 0, none⟩ = some (Value.bool b126) ∧ Fin B h125 (Q (b126))) ∧ (b116 = false →
 cellH B h115 ⟨k36, 0, none⟩ = some (Value.int .i64 (i96)) ∧ cellH B h115 ⟨k33, 0, none⟩ = some (Value.slice a98 n99 c100) ∧ cellH B h115 ⟨k36, 0, none⟩ = some (Value.int .i64 (i107)) ∧
 ∃ h120 : Heap, storeH h115 ⟨k8, 0, none⟩ (Value.bool false) = some h120 ∧
 ∃ b121 : Bool, cellH B h120 ⟨k8, 0, none⟩ = some (Value.bool b121) ∧ Fin B h120 (Q (b121))))) ∧ (¬ ((i110 : Int) = i107) →
 ∃ h127 : Heap, storeH h109 ⟨k8, 0, none⟩ (Value.bool false) = some h127 ∧
 ∃ b128 : Bool, cellH B h127 ⟨k8, 0, none⟩ = some (Value.bool b128) ∧ Fin B h127 (Q (b128))))) ∧ (¬ ((i96 : Int) = (n99 : Nat)) →
 ∃ h131 : Heap, storeH h43 ⟨k8, 0, none⟩ (Value.bool false) = some h131 ∧
 ∃ b132 : Bool, cellH B h131 ⟨k8, 0, none⟩ = some (Value.bool b132) ∧ Fin B h131 (Q (b132)))) ∧ (b45 = false →
 ∃ i46 : Int, cellH B h43 ⟨k36, 0, none⟩ = some (Value.int .i64 (i46)) ∧
 ∃ a48 : Option Addr, ∃ n49 : Nat, ∃ c50 : Nat, cellH B h43 ⟨k33, 0, none⟩ = some (Value.slice a48 n49 c50) ∧
 ((i46 : Int) = (n49 : Nat) →
 ∃ i57 : Int, cellH B h43 ⟨k36, 0, none⟩ = some (Value.int .i64 (i57)) ∧
 C_draft_Draft_int_Len B (some ⟨k21, 0, none⟩) h43 (fun i60 h59 =>
 cellH B h59 ⟨k36, 0, none⟩ = some (Value.int .i64 (i46)) ∧ cellH B h59 ⟨k33, 0, none⟩ = some (Value.slice a48 n49 c50) ∧ cellH B h59 ⟨k36, 0, none⟩ = some (Value.int .i64 (i57)) ∧
 ((i60 : Int) = i57 →
 C_draft_Draft_int_Put B none (1) (1) h59 (fun b66 h65 =>
 (b66 = true →
 cellH B h65 ⟨k36, 0, none⟩ = some (Value.int .i64 (i46)) ∧ cellH B h65 ⟨k33, 0, none⟩ = some (Value.slice a48 n49 c50) ∧ cellH B h65 ⟨k36, 0, none⟩ = some (Value.int .i64 (i57)) ∧
 ∃ h88 : Heap, storeH h65 ⟨k8, 0, none⟩ (Value.bool false) = some h88 ∧
 ∃ b89 : Bool, cellH B h88 ⟨k8, 0, none⟩ = some (Value.bool b89) ∧ Fin B h88 (Q (b89))) ∧ (b66 = false →
 cellH B h65 ⟨k36, 0, none⟩ = some (Value.int .i64 (i46)) ∧ cellH B h65 ⟨k33, 0, none⟩ = some (Value.slice a48 n49 c50) ∧ cellH B h65 ⟨k36, 0, none⟩ = some (Value.int .i64 (i57)) ∧
 C_draft_Draft_int_Len B none h65 (fun i71 h70 =>
 cellH B h70 ⟨k36, 0, none⟩ = some (Value.int .i64 (i46)) ∧ cellH B h70 ⟨k33, 0, none⟩ = some (Value.slice a48 n49 c50) ∧ cellH B h70 ⟨k36, 0, none⟩ = some (Value.int .i64 (i57)) ∧
 ((i71 : Int) = 0 →
 C_draft_Draft_int_Copy B none h70 (fun p77 h76 =>
 cellH B h76 ⟨k36, 0, none⟩ = some (Value.int .i64 (i46)) ∧ cellH B h76 ⟨k33, 0, none⟩ = some (Value.slice a48 n49 c50) ∧ cellH B h76 ⟨k36, 0, none⟩ = some (Value.int .i64 (i57)) ∧
 ∃ h81 : Heap, storeH h76 ⟨k8, 0, none⟩ (Value.bool (decide (p77 = none))) = some h81 ∧
 ∃ b82 : Bool, cellH B h81 ⟨k8, 0, none⟩ = some (Value.bool b82) ∧ Fin B h81 (Q (b82)))) ∧ (¬ ((i71 : Int) = 0) →
 ∃ h83 : Heap, storeH h70 ⟨k8, 0, none⟩ (Value.bool false) = some h83 ∧
 ∃ b84 : Bool, cellH B h83 ⟨k8, 0, none⟩ = some (Value.bool b84) ∧ Fin B h83 (Q (b84))))))) ∧ (¬ ((i60 : Int) = i57) →
 ∃ h90 : Heap, storeH h59 ⟨k8, 0, none⟩ (Value.bool false) = some h90 ∧
 ∃ b91 : Bool, cellH B h90 ⟨k8, 0, none⟩ = some (Value.bool b91) ∧ Fin B h90 (Q (b91))))) ∧ (¬ ((i46 : Int) = (n49 : Nat)) →
 ∃ h94 : Heap, storeH h43 ⟨k8, 0, none⟩ (Value.bool false) = some h94 ∧
 ∃ b95 : Bool, cellH B h94 ⟨k8, 0, none⟩ = some (Value.bool b95) ∧ Fin B h94 (Q (b95)))))
def S_countermandlaw13_DraftPuts_J2 (B : RO) (k8 : Nat) (k21 : Nat) (k33 : Nat) (k36 : Nat) (h40 : Heap) (Q : Bool → Heap → Prop) : Prop :=
 C_draft_Draft_int_All B none h40 (fun v134 h133 =>
 ∃ (xs141 : List (Int × Int)) (G137 : Heap → Prop) (J140 : Nat → Heap → Prop), Iter PG B v134 (xs141.map (fun x : Int × Int => [(Value.int .i64 (x.1)), (Value.int .i64 (x.2))])) G137 ∧ Ins G137 ∧ (∀ i h, J140 i h → G137 h) ∧ Fin B h133 (J140 0) ∧
 (∀ (q139 : Nat) (h138 : Heap) (i135 : Int) (i136 : Int), xs141[q139]? = some (i135, i136) → J140 q139 h138 →
 ∃ h142 : Heap, storeH h138 ⟨k8, 0, none⟩ (Value.bool false) = some h142 ∧
 ∃ b143 : Bool, cellH B h142 ⟨k8, 0, none⟩ = some (Value.bool b143) ∧ Fin B h142 (Q (b143))) ∧
 (∀ (h138 : Heap), J140 xs141.length h138 →
 Fin B h138 (fun h' => S_countermandlaw13_DraftPuts_J3 B k8 k21 k33 k36 h' Q)))
def S_countermandlaw13_DraftPuts_J1 (B : RO) (k6 : Nat) (k8 : Nat) (k21 : Nat) (h24 : Heap) (Q : Bool → Heap → Prop) : Prop :=
 LdSl B h24 ⟨k6, 0, none⟩ fun a25 n26 c27 h28 =>
 C_countermandref13_Numbers B a25 n26 c27 h28 (fun a30 n31 c32 h29 =>
 ∀ k33 : Nat, h29 k33 = none → B k33 = none → ∀ h34 : Heap, h34 = Heap.set h29 k33 (.vec 84 (plains [(Value.slice none 0 0)]) 1) →
 ∃ h35 : Heap, storeH h34 ⟨k33, 0, none⟩ (Value.slice a30 n31 c32) = some h35 ∧
 ∀ k36 : Nat, h35 k36 = none → B k36 = none → ∀ h37 : Heap, h37 = Heap.set h35 k36 (.vec 3 (plains [(Value.int .i64 (0))]) 1) →
 ∃ h38 : Heap, storeH h37 ⟨k36, 0, none⟩ (Value.int .i64 (0)) = some h38 ∧
 C_draft_Draft_int_All B (some ⟨k21, 0, none⟩) h38 (fun v145 h144 =>
 ∃ (xs152 : List (Int × Int)) (G148 : Heap → Prop) (J151 : Nat → Heap → Prop), Iter PG B v145 (xs152.map (fun x : Int × Int => [(Value.int .i64 (x.1)), (Value.int .i64 (x.2))])) G148 ∧ Ins G148 ∧ (∀ i h, J151 i h → G148 h) ∧ Fin B h144 (J151 0) ∧
 (∀ (q150 : Nat) (h149 : Heap) (i146 : Int) (i147 : Int), xs152[q150]? = some (i146, i147) → J151 q150 h149 →
 LdSl B h149 ⟨k6, 0, none⟩ fun a153 n154 c155 h156 =>
 C_countermandref13_Get B a153 n154 c155 (i146) h156 (fun i158 b159 h157 =>
 ∃ i160 : Int, cellH B h157 ⟨k36, 0, none⟩ = some (Value.int .i64 (i160)) ∧
 LdSl B h157 ⟨k33, 0, none⟩ fun a161 n162 c163 h164 =>
 ((i160 : Int) ≥ ((n162 : Nat)) →
 ∃ h166 : Heap, storeH h164 ⟨k8, 0, none⟩ (Value.bool false) = some h166 ∧
 ∃ b167 : Bool, cellH B h166 ⟨k8, 0, none⟩ = some (Value.bool b167) ∧ Fin B h166 (Q (b167))) ∧ (¬ ((i160 : Int) ≥ ((n162 : Nat))) →
 LdSl B h164 ⟨k33, 0, none⟩ fun a168 n169 c170 h171 =>
 ∃ i172 : Int, cellH B h171 ⟨k36, 0, none⟩ = some (Value.int .i64 (i172)) ∧
 ∃ A173 : Addr, a168 = some A173 ∧ 0 ≤ (i172 : Int) ∧ (i172 : Int) < (n169 : Nat) ∧
 ∃ i175 : Int, cellH B h171 (Addr.add A173 (Int.toNat (i172) * 1)) = some (Value.int .i64 (i175)) ∧
 ((i146 : Int) = i175 →
 ((i147 : Int) = i158 →
 ∃ i178 : Int, cellH B h171 ⟨k36, 0, none⟩ = some (Value.int .i64 (i178)) ∧
 ∃ h179 : Heap, storeH h171 ⟨k36, 0, none⟩ (Value.int .i64 (IntKind.wrap .i64 ((i178) + (1)))) = some h179 ∧
 Fin B h179 (J151 (q150 + 1))) ∧ (¬ ((i147 : Int) = i158) →
 ∃ h180 : Heap, storeH h171 ⟨k8, 0, none⟩ (Value.bool false) = some h180 ∧
 ∃ b181 : Bool, cellH B h180 ⟨k8, 0, none⟩ = some (Value.bool b181) ∧ Fin B h180 (Q (b181)))) ∧ (¬ ((i146 : Int) = i175) →
 ∃ h182 : Heap, storeH h171 ⟨k8, 0, none⟩ (Value.bool false) = some h182 ∧
 ∃ b183 : Bool, cellH B h182 ⟨k8, 0, none⟩ = some (Value.bool b183) ∧ Fin B h182 (Q (b183)))))) ∧
 (∀ (h149 : Heap), J151 xs152.length h149 →
 Fin B h149 (fun h' => S_countermandlaw13_DraftPuts_J2 B k8 k21 k33 k36 h' Q))))
def S_countermandlaw13_DraftPuts (B : RO) (a1 : Option Addr) (n2 : Nat) (c3 : Nat) (i4 : Int) (h : Heap) (Q : Bool → Heap → Prop) : Prop :=
 ∀ k6 : Nat, h k6 = none → B k6 = none → ∀ h7 : Heap, h7 = Heap.set h k6 (.vec 118 [.plain (Value.slice a1 n2 c3)] 1) →
 ∀ k8 : Nat, h7 k8 = none → B k8 = none → ∀ h9 : Heap, h9 = Heap.set h7 k8 (.vec 4 (plains [(Value.bool false)]) 1) →
 C_countermandlaw13_alive B h9 (fun b11 h10 =>
 (b11 = true →
 LdSl B h10 ⟨k6, 0, none⟩ fun a14 n15 c16 h17 =>
 (((n15 : Nat) : Int) > (80) →
 ∃ h19 : Heap, storeH h17 ⟨k8, 0, none⟩ (Value.bool true) = some h19 ∧
 ∃ b20 : Bool, cellH B h19 ⟨k8, 0, none⟩ = some (Value.bool b20) ∧ Fin B h19 (Q (b20))) ∧ (¬ (((n15 : Nat) : Int) > (80)) →
 ∀ k21 : Nat, h17 k21 = none → B k21 = none → ∀ h22 : Heap, h22 = Heap.set h17 k21 (.vec 122 (plains [(Value.slice none 0 0)]) 1) →
 LdSl B h22 ⟨k6, 0, none⟩ fun a184 n185 c186 h187 =>
 ∃ (J193 : Int → Nat → Heap → Prop) (m191 : Nat), Fin B h187 (J193 (0) m191) ∧
 ∀ (i188 : Int) (m190 : Nat) (h189 : Heap), J193 i188 m190 h189 →
 ((i188 : Int) < ((n185 : Nat)) →
 ∃ A195 : Addr, a184 = some A195 ∧ 0 ≤ (i188 : Int) ∧ (i188 : Int) < (n185 : Nat) ∧
 ∃ i197 : Int, ∃ i198 : Int, CellsAt B h189 (Addr.add A195 (Int.toNat (i188) * 2)) 0 [(Value.int .i64 (i197)), (Value.int .i64 (i198))] ∧
 ∀ k199 : Nat, h189 k199 = none → B k199 = none → ∀ h200 : Heap, h200 = Heap.set h189 k199 (.vec 132 (plains [(Value.int .i64 (0)), (Value.int .i64 (0))]) 2) →
 ∃ h201 : Heap, StoresAt ⟨k199, 0, none⟩ h200 0 [(Value.int .i64 (i197)), (Value.int .i64 (i198))] h201 ∧
 ∃ i202 : Int, cellH B h201 ⟨k199, 0, none⟩ = some (Value.int .i64 (i202)) ∧
 ∃ i203 : Int, cellH B h201 ⟨k199, 1, none⟩ = some (Value.int .i64 (i203)) ∧
 C_draft_Draft_int_Put B (some ⟨k21, 0, none⟩) (i202) (i203) h201 (fun b205 h204 =>
 (b205 = true →
 C_draft_Draft_int_Get B (some ⟨k21, 0, none⟩) (i4) h204 (fun i209 b210 h208 =>
 LdSl B h208 ⟨k6, 0, none⟩ fun a211 n212 c213 h214 =>
 0 ≤ (0 : Int) ∧ (0 : Int) ≤ (IntKind.wrap .i64 ((i188) + (1)) : Int) ∧ (IntKind.wrap .i64 ((i188) + (1)) : Int) ≤ (c213 : Nat) ∧
 C_countermandref13_Get B (if c213 = Int.toNat (0) then a211 else Option.map (·.add (Int.toNat (0) * 2)) a211) (Int.toNat (IntKind.wrap .i64 ((i188) + (1))) - Int.toNat (0)) (c213 - Int.toNat (0)) (i4) h214 (fun i216 b217 h215 =>
 ((i209 : Int) = i216 →
 (b210 = b217 →
 Fin B h215 (fun h' => ∃ m', m' < m190 ∧ J193 (IntKind.wrap .i64 ((i188) + (1))) m' h')) ∧ (¬ (b210 = b217) →
 ∃ h220 : Heap, storeH h215 ⟨k8, 0, none⟩ (Value.bool false) = some h220 ∧
 ∃ b221 : Bool, cellH B h220 ⟨k8, 0, none⟩ = some (Value.bool b221) ∧ Fin B h220 (Q (b221)))) ∧ (¬ ((i209 : Int) = i216) →
 ∃ h222 : Heap, storeH h215 ⟨k8, 0, none⟩ (Value.bool false) = some h222 ∧
 ∃ b223 : Bool, cellH B h222 ⟨k8, 0, none⟩ = some (Value.bool b223) ∧ Fin B h222 (Q (b223)))))) ∧ (b205 = false →
 ∃ h206 : Heap, storeH h204 ⟨k8, 0, none⟩ (Value.bool false) = some h206 ∧
 ∃ b207 : Bool, cellH B h206 ⟨k8, 0, none⟩ = some (Value.bool b207) ∧ Fin B h206 (Q (b207))))) ∧ (¬ ((i188 : Int) < ((n185 : Nat))) →
 Fin B h189 (fun h' => S_countermandlaw13_DraftPuts_J1 B k6 k8 k21 h' Q)))) ∧ (b11 = false →
 ∃ h12 : Heap, storeH h10 ⟨k8, 0, none⟩ (Value.bool false) = some h12 ∧
 ∃ b13 : Bool, cellH B h12 ⟨k8, 0, none⟩ = some (Value.bool b13) ∧ Fin B h12 (Q (b13))))
def S_countermandlaw13_DraftCopies_J3 (B : RO) (k10 : Nat) (k12 : Nat) (k23 : Nat) (k50 : Nat) (h54 : Heap) (Q : Bool → Heap → Prop) : Prop :=
 ∃ i55 : Int, cellH B h54 ⟨k50, 0, none⟩ = some (Value.int .i64 (i55)) ∧
 ∃ i57 : Int, cellH B h54 ⟨k10, 0, none⟩ = some (Value.int .i64 (i57)) ∧
 ((i55 : Int) = i57 →
 ∃ h62 : Heap, storeH h54 ⟨k12, 0, none⟩ (Value.bool true) = some h62 ∧
 ∃ b63 : Bool, cellH B h62 ⟨k12, 0, none⟩ = some (Value.bool b63) ∧ Fin B h62 (Q (b63))) ∧ (¬ ((i55 : Int) = i57) →
 ∃ i66 : Int, cellH B h54 ⟨k50, 0, none⟩ = some (Value.int .i64 (i66)) ∧
 ∃ p68 : Option Addr, cellH B h54 ⟨k23, 0, none⟩ = some (Value.pointer p68) ∧
 C_draft_Draft_int_Len B p68 h54 (fun i71 h70 =>
 cellH B h70 ⟨k50, 0, none⟩ = some (Value.int .i64 (i55)) ∧ cellH B h70 ⟨k10, 0, none⟩ = some (Value.int .i64 (i57)) ∧ cellH B h70 ⟨k50, 0, none⟩ = some (Value.int .i64 (i66)) ∧ cellH B h70 ⟨k23, 0, none⟩ = some (Value.pointer p68) ∧
 ∃ h76 : Heap, storeH h70 ⟨k12, 0, none⟩ (Value.bool ((i66 : Int) == (i71))) = some h76 ∧
 ∃ b77 : Bool, cellH B h76 ⟨k12, 0, none⟩ = some (Value.bool b77) ∧ Fin B h76 (Q (b77))))
def S_countermandlaw13_DraftCopies_J2 (B : RO) (k10 : Nat) (k12 : Nat) (k23 : Nat) (h49 : Heap) (Q : Bool → Heap → Prop) : Prop :=
 ∀ k50 : Nat, h49 k50 = none → B k50 = none → ∀ h51 : Heap, h51 = Heap.set h49 k50 (.vec 3 (plains [(Value.int .i64 (0))]) 1) →
 ∃ h52 : Heap, storeH h51 ⟨k50, 0, none⟩ (Value.int .i64 (0)) = some h52 ∧
 ∃ p78 : Option Addr, cellH B h52 ⟨k23, 0, none⟩ = some (Value.pointer p78) ∧
 C_draft_Draft_int_Copy B p78 h52 (fun p80 h79 =>
 C_draft_Draft_int_All B p80 h79 (fun v82 h81 =>
 ∃ (xs89 : List (Int × Int)) (G85 : Heap → Prop) (J88 : Nat → Heap → Prop), Iter PG B v82 (xs89.map (fun x : Int × Int => [(Value.int .i64 (x.1)), (Value.int .i64 (x.2))])) G85 ∧ Ins G85 ∧ (∀ i h, J88 i h → G85 h) ∧ Fin B h81 (J88 0) ∧
 (∀ (q87 : Nat) (h86 : Heap) (i83 : Int) (i84 : Int), xs89[q87]? = some (i83, i84) → J88 q87 h86 →
 ∃ p90 : Option Addr, cellH B h86 ⟨k23, 0, none⟩ = some (Value.pointer p90) ∧
 C_draft_Draft_int_Get B p90 (i83) h86 (fun i92 b93 h91 =>
 ((i84 : Int) = i92 →
 ∃ i95 : Int, cellH B h91 ⟨k50, 0, none⟩ = some (Value.int .i64 (i95)) ∧
 ∃ h96 : Heap, storeH h91 ⟨k50, 0, none⟩ (Value.int .i64 (IntKind.wrap .i64 ((i95) + (1)))) = some h96 ∧
 ∃ i97 : Int, cellH B h96 ⟨k50, 0, none⟩ = some (Value.int .i64 (i97)) ∧
 ∃ i98 : Int, cellH B h96 ⟨k10, 0, none⟩ = some (Value.int .i64 (i98)) ∧
 ((i97 : Int) = i98 →
 Fin B h96 (fun h' => S_countermandlaw13_DraftCopies_J3 B k10 k12 k23 k50 h' Q)) ∧ (¬ ((i97 : Int) = i98) →
 Fin B h96 (J88 (q87 + 1)))) ∧ (¬ ((i84 : Int) = i92) →
 ∃ h100 : Heap, storeH h91 ⟨k12, 0, none⟩ (Value.bool false) = some h100 ∧
 ∃ b101 : Bool, cellH B h100 ⟨k12, 0, none⟩ = some (Value.bool b101) ∧ Fin B h100 (Q (b101))))) ∧
 (∀ (h86 : Heap), J88 xs89.length h86 →
 Fin B h86 (fun h' => S_countermandlaw13_DraftCopies_J3 B k10 k12 k23 k50 h' Q))))
def S_countermandlaw13_DraftCopies_J1 (B : RO) (a1 : Option Addr) (n2 : Nat) (c3 : Nat) (k8 : Nat) (k10 : Nat) (k12 : Nat) (k23 : Nat) (h27 : Heap) (Q : Bool → Heap → Prop) : Prop :=
 ∃ p28 : Option Addr, cellH B h27 ⟨k23, 0, none⟩ = some (Value.pointer p28) ∧
 C_draft_Draft_int_Copy B p28 h27 (fun p30 h29 =>
 ∃ i31 : Int, cellH B h29 ⟨k8, 0, none⟩ = some (Value.int .i64 (i31)) ∧
 ∃ i32 : Int, cellH B h29 ⟨k8, 1, none⟩ = some (Value.int .i64 (i32)) ∧
 C_draft_Draft_int_Put B p30 (i31) (i32) h29 (fun b34 h33 =>
 ∃ p35 : Option Addr, cellH B h33 ⟨k23, 0, none⟩ = some (Value.pointer p35) ∧
 ∃ i36 : Int, cellH B h33 ⟨k8, 0, none⟩ = some (Value.int .i64 (i36)) ∧
 C_draft_Draft_int_Get B p35 (i36) h33 (fun i38 b39 h37 =>
 ∃ i40 : Int, cellH B h37 ⟨k8, 0, none⟩ = some (Value.int .i64 (i40)) ∧
 C_countermandref13_Get B a1 n2 c3 (i40) h37 (fun i42 b43 h41 =>
 ∃ i44 : Int, cellH B h41 ⟨k8, 0, none⟩ = some (Value.int .i64 (i44)) ∧
 C_draft_Draft_int_Get B p30 (i44) h41 (fun i46 b47 h45 =>
 ((i38 : Int) = i42 →
 (b39 = b43 →
 ∃ i104 : Int, cellH B h45 ⟨k8, 1, none⟩ = some (Value.int .i64 (i104)) ∧
 ((i46 : Int) = i104 →
 ∃ p106 : Option Addr, cellH B h45 ⟨k23, 0, none⟩ = some (Value.pointer p106) ∧
 C_draft_Draft_int_Len B p106 h45 (fun i108 h107 =>
 C_countermandref13_Numbers B a1 n2 c3 h107 (fun a110 n111 c112 h109 =>
 ((i108 : Int) = (n111 : Nat) →
 Fin B h109 (fun h' => S_countermandlaw13_DraftCopies_J2 B k10 k12 k23 h' Q)) ∧ (¬ ((i108 : Int) = (n111 : Nat)) →
 ∃ h114 : Heap, storeH h109 ⟨k12, 0, none⟩ (Value.bool false) = some h114 ∧
 ∃ b115 : Bool, cellH B h114 ⟨k12, 0, none⟩ = some (Value.bool b115) ∧ Fin B h114 (Q (b115)))))) ∧ (¬ ((i46 : Int) = i104) →
 ∃ h116 : Heap, storeH h45 ⟨k12, 0, none⟩ (Value.bool false) = some h116 ∧
 ∃ b117 : Bool, cellH B h116 ⟨k12, 0, none⟩ = some (Value.bool b117) ∧ Fin B h116 (Q (b117)))) ∧ (¬ (b39 = b43) →
 ∃ h118 : Heap, storeH h45 ⟨k12, 0, none⟩ (Value.bool false) = some h118 ∧
 ∃ b119 : Bool, cellH B h118 ⟨k12, 0, none⟩ = some (Value.bool b119) ∧ Fin B h118 (Q (b119)))) ∧ (¬ ((i38 : Int) = i42) →
 ∃ h120 : Heap, storeH h45 ⟨k12, 0, none⟩ (Value.bool false) = some h120 ∧
 ∃ b121 : Bool, cellH B h120 ⟨k12, 0, none⟩ = some (Value.bool b121) ∧ Fin B h120 (Q (b121))))))))
def S_countermandlaw13_DraftCopies (B : RO) (a1 : Option Addr) (n2 : Nat) (c3 : Nat) (i4 : Int) (i5 : Int) (i6 : Int) (h : Heap) (Q : Bool → Heap → Prop) : Prop :=
 ∀ k8 : Nat, h k8 = none → B k8 = none → ∀ h9 : Heap, h9 = Heap.set h k8 (.vec 132 (plains [(Value.int .i64 (i4)), (Value.int .i64 (i5))]) 2) →
 ∀ k10 : Nat, h9 k10 = none → B k10 = none → ∀ h11 : Heap, h11 = Heap.set h9 k10 (.vec 3 [.plain (Value.int .i64 (i6))] 1) →
 ∀ k12 : Nat, h11 k12 = none → B k12 = none → ∀ h13 : Heap, h13 = Heap.set h11 k12 (.vec 4 (plains [(Value.bool false)]) 1) →
 C_countermandlaw13_alive B h13 (fun b15 h14 =>
 (b15 = true →
 (((n2 : Nat) : Int) > (80) →
 ∃ h19 : Heap, storeH h14 ⟨k12, 0, none⟩ (Value.bool true) = some h19 ∧
 ∃ b20 : Bool, cellH B h19 ⟨k12, 0, none⟩ = some (Value.bool b20) ∧ Fin B h19 (Q (b20))) ∧ (¬ (((n2 : Nat) : Int) > (80)) →
 ∀ k21 : Nat, h14 k21 = none → B k21 = none → ∀ h22 : Heap, h22 = Heap.set h14 k21 (.vec 122 (plains [(Value.slice none 0 0)]) 1) →
 ∀ k23 : Nat, h22 k23 = none → B k23 = none → ∀ h24 : Heap, h24 = Heap.set h22 k23 (.vec 119 (plains [(Value.pointer none)]) 1) →
 ∃ h25 : Heap, storeH h24 ⟨k23, 0, none⟩ (Value.pointer (some ⟨k21, 0, none⟩)) = some h25 ∧
 ∃ (J127 : Int → Nat → Heap → Prop) (m125 : Nat), Fin B h25 (J127 (0) m125) ∧
 ∀ (i122 : Int) (m124 : Nat) (h123 : Heap), J127 i122 m124 h123 →
 ((i122 : Int) < ((n2 : Nat)) →
 ∃ A129 : Addr, a1 = some A129 ∧ 0 ≤ (i122 : Int) ∧ (i122 : Int) < (n2 : Nat) ∧
 ∃ i131 : Int, ∃ i132 : Int, CellsAt B h123 (Addr.add A129 (Int.toNat (i122) * 2)) 0 [(Value.int .i64 (i131)), (Value.int .i64 (i132))] ∧
 ∀ k133 : Nat, h123 k133 = none → B k133 = none → ∀ h134 : Heap, h134 = Heap.set h123 k133 (.vec 132 (plains [(Value.int .i64 (0)), (Value.int .i64 (0))]) 2) →
 ∃ h135 : Heap, StoresAt ⟨k133, 0, none⟩ h134 0 [(Value.int .i64 (i131)), (Value.int .i64 (i132))] h135 ∧
 ∃ p136 : Option Addr, cellH B h135 ⟨k23, 0, none⟩ = some (Value.pointer p136) ∧
 ∃ i137 : Int, cellH B h135 ⟨k133, 0, none⟩ = some (Value.int .i64 (i137)) ∧
 ∃ i138 : Int, cellH B h135 ⟨k133, 1, none⟩ = some (Value.int .i64 (i138)) ∧
 C_draft_Draft_int_Put B p136 (i137) (i138) h135 (fun b140 h139 =>
 Fin B h139 (fun h' => ∃ m', m' < m124 ∧ J127 (IntKind.wrap .i64 ((i122) + (1))) m' h'))) ∧ (¬ ((i122 : Int) < ((n2 : Nat))) →
 Fin B h123 (fun h' => S_countermandlaw13_DraftCopies_J1 B a1 n2 c3 k8 k10 k12 k23 h' Q)))) ∧ (b15 = false →
 ∃ h16 : Heap, storeH h14 ⟨k12, 0, none⟩ (Value.bool false) = some h16 ∧
 ∃ b17 : Bool, cellH B h16 ⟨k12, 0, none⟩ = some (Value.bool b17) ∧ Fin B h16 (Q (b17))))
def S_countermandlaw13_alive (B : RO) (h : Heap) (Q : Bool → Heap → Prop) : Prop :=
 ∀ k2 : Nat, h k2 = none → B k2 = none → ∀ h3 : Heap, h3 = Heap.set h k2 (.vec 158 (plains [(Value.slice none 0 0)]) 1) →
 C_draft_Draft_string_Get B (some ⟨k2, 0, none⟩) (3) h3 (fun s5 b6 h4 =>
 C_draft_Draft_string_Put B (some ⟨k2, 0, none⟩) (3) (ByteArray.mk #[120]) h4 (fun b8 h7 =>
 (b8 = true →
 C_draft_Draft_string_Put B (some ⟨k2, 0, none⟩) (1) (ByteArray.mk #[121]) h7 (fun b10 h9 =>
 (b10 = true →
 C_draft_Draft_string_Len B (some ⟨k2, 0, none⟩) h9 (fun i12 h11 =>
 ((i12 : Int) = 2 →
 (s5 = (ByteArray.mk #[]) →
 Fin B h11 (Q ((!b6)))) ∧ (¬ (s5 = (ByteArray.mk #[])) →
 Fin B h11 (Q (false)))) ∧ (¬ ((i12 : Int) = 2) →
 Fin B h11 (Q (false))))) ∧ (b10 = false →
 Fin B h9 (Q (false))))) ∧ (b8 = false →
 Fin B h7 (Q (false)))))
def S_countermandref13_Numbers_J2 (B : RO) (a1 : Option Addr) (n2 : Nat) (c3 : Nat) (a7 : Option Addr) (n8 : Nat) (c9 : Nat) (i10 : Int) (m12 : Nat) (J15 : Option Addr → Nat → Nat → Int → Nat → Heap → Prop) (k21 : Nat) (i25 : Int) (b28 : Bool) (h29 : Heap) (Q : Option Addr → Nat → Nat → Heap → Prop) : Prop :=
 (b28 = true →
 0 ≤ (0 : Int) ∧ (0 : Int) ≤ (i25 : Int) ∧ (i25 : Int) ≤ (c9 : Nat) ∧
 ∃ i37 : Int, cellH B h29 ⟨k21, 0, none⟩ = some (Value.int .i64 (i37)) ∧
 0 ≤ (i25 : Int) ∧ (i25 : Int) ≤ ((n8 : Nat) : Int) ∧ ((n8 : Nat) : Int) ≤ (c9 : Nat) ∧
 (∀ k45 : Nat, h29 k45 = none → B k45 = none → ∀ h46 : Heap, h46 = Heap.set h29 k45 (.vec 3 [] 0) →
 cellH B h46 ⟨k21, 0, none⟩ = some (Value.int .i64 (i37)) ∧
 (semH PG B (Builtin.append_ #[84, 84] 84 #[(Value.slice (some ⟨k45, 0, none⟩) 0 0), (Value.slice (if c9 = Int.toNat (0) then a7 else Option.map (·.add (Int.toNat (0) * 1)) a7) (Int.toNat (i25) - Int.toNat (0)) (c9 - Int.toNat (0)))]) h46 (fun v h48 => ∃ a49 : Option Addr, ∃ n50 : Nat, ∃ c51 : Nat, v = (Value.slice a49 n50 c51) ∧
 cellH B h48 ⟨k21, 0, none⟩ = some (Value.int .i64 (i37)) ∧
 ∀ k53 : Nat, h48 k53 = none → B k53 = none → ∀ h54 : Heap, h54 = Heap.set h48 k53 (.vec 3 (plains [(Value.int .i64 (i37))]) 1) →
 cellH B h54 ⟨k21, 0, none⟩ = some (Value.int .i64 (i37)) ∧
 semH PG B (Builtin.append_ #[84, 84] 84 #[(Value.slice a49 n50 c51), (Value.slice (some ⟨k53, 0, none⟩) 1 1)]) h54 (fun v h56 => ∃ a57 : Option Addr, ∃ n58 : Nat, ∃ c59 : Nat, v = (Value.slice a57 n58 c59) ∧
 cellH B h56 ⟨k21, 0, none⟩ = some (Value.int .i64 (i37)) ∧
 semH PG B (Builtin.append_ #[84, 84] 84 #[(Value.slice a57 n58 c59), (Value.slice (if c9 = Int.toNat (i25) then a7 else Option.map (·.add (Int.toNat (i25) * 1)) a7) (Int.toNat ((n8 : Nat)) - Int.toNat (i25)) (c9 - Int.toNat (i25)))]) h56 (fun v h61 => ∃ a62 : Option Addr, ∃ n63 : Nat, ∃ c64 : Nat, v = (Value.slice a62 n63 c64) ∧
 cellH B h61 ⟨k21, 0, none⟩ = some (Value.int .i64 (i37)) ∧
 Fin B h61 (fun h' => ∃ m', m' < m12 ∧ J15 a62 n63 c64 (IntKind.wrap .i64 ((i10) + (1))) m' h'))))) ∧
 (∀ k66 : Nat, h46 k66 = none → B k66 = none → ∀ h67 : Heap, h67 = Heap.set h46 k66 (.vec 3 (plains [(Value.int .i64 (i37))]) 1) →
 cellH B h67 ⟨k21, 0, none⟩ = some (Value.int .i64 (i37)) ∧
 semH PG B (Builtin.append_ #[84, 84] 84 #[(Value.slice (some ⟨k45, 0, none⟩) 0 0), (Value.slice (if c9 = Int.toNat (0) then a7 else Option.map (·.add (Int.toNat (0) * 1)) a7) (Int.toNat (i25) - Int.toNat (0)) (c9 - Int.toNat (0)))]) h67 (fun v h69 => ∃ a70 : Option Addr, ∃ n71 : Nat, ∃ c72 : Nat, v = (Value.slice a70 n71 c72) ∧
 cellH B h69 ⟨k21, 0, none⟩ = some (Value.int .i64 (i37)) ∧
 semH PG B (Builtin.append_ #[84, 84] 84 #[(Value.slice a70 n71 c72), (Value.slice (some ⟨k66, 0, none⟩) 1 1)]) h69 (fun v h74 => ∃ a75 : Option Addr, ∃ n76 : Nat, ∃ c77 : Nat, v = (Value.slice a75 n76 c77) ∧
 cellH B h74 ⟨k21, 0, none⟩ = some (Value.int .i64 (i37)) ∧
 semH PG B (Builtin.append_ #[84, 84] 84 #[(Value.slice a75 n76 c77), (Value.slice (if c9 = Int.toNat (i25) then a7 else Option.map (·.add (Int.toNat (i25) * 1)) a7) (Int.toNat ((n8 : Nat)) - Int.toNat (i25)) (c9 - Int.toNat (i25)))]) h74 (fun v h79 => ∃ a80 : Option Addr, ∃ n81 : Nat, ∃ c82 : Nat, v = (Value.slice a80 n81 c82) ∧
 cellH B h79 ⟨k21, 0, none⟩ = some (Value.int .i64 (i37)) ∧
 Fin B h79 (fun h' => ∃ m', m' < m12 ∧ J15 a80 n81 c82 (IntKind.wrap .i64 ((i10) + (1))) m' h')))))) ∧
 (∀ k84 : Nat, h29 k84 = none → B k84 = none → ∀ h85 : Heap, h85 = Heap.set h29 k84 (.vec 3 (plains [(Value.int .i64 (i37))]) 1) →
 cellH B h85 ⟨k21, 0, none⟩ = some (Value.int .i64 (i37)) ∧
 ∀ k87 : Nat, h85 k87 = none → B k87 = none → ∀ h88 : Heap, h88 = Heap.set h85 k87 (.vec 3 [] 0) →
 cellH B h88 ⟨k21, 0, none⟩ = some (Value.int .i64 (i37)) ∧
 semH PG B (Builtin.append_ #[84, 84] 84 #[(Value.slice (some ⟨k87, 0, none⟩) 0 0), (Value.slice (if c9 = Int.toNat (0) then a7 else Option.map (·.add (Int.toNat (0) * 1)) a7) (Int.toNat (i25) - Int.toNat (0)) (c9 - Int.toNat (0)))]) h88 (fun v h90 => ∃ a91 : Option Addr, ∃ n92 : Nat, ∃ c93 : Nat, v = (Value.slice a91 n92 c93) ∧
 cellH B h90 ⟨k21, 0, none⟩ = some (Value.int .i64 (i37)) ∧
 semH PG B (Builtin.append_ #[84, 84] 84 #[(Value.slice a91 n92 c93), (Value.slice (some ⟨k84, 0, none⟩) 1 1)]) h90 (fun v h95 => ∃ a96 : Option Addr, ∃ n97 : Nat, ∃ c98 : Nat, v = (Value.slice a96 n97 c98) ∧
 cellH B h95 ⟨k21, 0, none⟩ = some (Value.int .i64 (i37)) ∧
 semH PG B (Builtin.append_ #[84, 84] 84 #[(Value.slice a96 n97 c98), (Value.slice (if c9 = Int.toNat (i25) then a7 else Option.map (·.add (Int.toNat (i25) * 1)) a7) (Int.toNat ((n8 : Nat)) - Int.toNat (i25)) (c9 - Int.toNat (i25)))]) h95 (fun v h100 => ∃ a101 : Option Addr, ∃ n102 : Nat, ∃ c103 : Nat, v = (Value.slice a101 n102 c103) ∧
 cellH B h100 ⟨k21, 0, none⟩ = some (Value.int .i64 (i37)) ∧
 Fin B h100 (fun h' => ∃ m', m' < m12 ∧ J15 a101 n102 c103 (IntKind.wrap .i64 ((i10) + (1))) m' h')))))) ∧ (b28 = false →
 Fin B h29 (fun h' => ∃ m', m' < m12 ∧ J15 a7 n8 c9 (IntKind.wrap .i64 ((i10) + (1))) m' h'))
def S_countermandref13_Numbers_J1 (B : RO) (a1 : Option Addr) (n2 : Nat) (c3 : Nat) (a7 : Option Addr) (n8 : Nat) (c9 : Nat) (i10 : Int) (m12 : Nat) (J15 : Option Addr → Nat → Nat → Int → Nat → Heap → Prop) (k21 : Nat) (i25 : Int) (h26 : Heap) (Q : Option Addr → Nat → Nat → Heap → Prop) : Prop :=
 ((i25 : Int) = (n8 : Nat) →
 Fin B h26 (fun h' => S_countermandref13_Numbers_J2 B a1 n2 c3 a7 n8 c9 i10 m12 J15 k21 i25 (true) h' Q)) ∧ (¬ ((i25 : Int) = (n8 : Nat)) →
 ∃ A106 : Addr, a7 = some A106 ∧ 0 ≤ (i25 : Int) ∧ (i25 : Int) < (n8 : Nat) ∧
 ∃ i108 : Int, cellH B h26 (Addr.add A106 (Int.toNat (i25) * 1)) = some (Value.int .i64 (i108)) ∧
 ∃ i109 : Int, cellH B h26 ⟨k21, 0, none⟩ = some (Value.int .i64 (i109)) ∧
 ((i108 : Int) = i109 →
 Fin B h26 (fun h' => S_countermandref13_Numbers_J2 B a1 n2 c3 a7 n8 c9 i10 m12 J15 k21 i25 (false) h' Q)) ∧ (¬ ((i108 : Int) = i109) →
 Fin B h26 (fun h' => S_countermandref13_Numbers_J2 B a1 n2 c3 a7 n8 c9 i10 m12 J15 k21 i25 (true) h' Q)))
def S_countermandref13_Numbers (B : RO) (a1 : Option Addr) (n2 : Nat) (c3 : Nat) (h : Heap) (Q : Option Addr → Nat → Nat → Heap → Prop) : Prop :=
 ∃ (J15 : Option Addr → Nat → Nat → Int → Nat → Heap → Prop) (m13 : Nat), Fin B h (J15 none 0 0 (0) m13) ∧
 ∀ (a7 : Option Addr) (n8 : Nat) (c9 : Nat) (i10 : Int) (m12 : Nat) (h11 : Heap), J15 a7 n8 c9 i10 m12 h11 →
 ((i10 : Int) < ((n2 : Nat)) →
 ∃ A17 : Addr, a1 = some A17 ∧ 0 ≤ (i10 : Int) ∧ (i10 : Int) < (n2 : Nat) ∧
 ∃ i19 : Int, ∃ i20 : Int, CellsAt B h11 (Addr.add A17 (Int.toNat (i10) * 2)) 0 [(Value.int .i64 (i19)), (Value.int .i64 (i20))] ∧
 ∀ k21 : Nat, h11 k21 = none → B k21 = none → ∀ h22 : Heap, h22 = Heap.set h11 k21 (.vec 132 (plains [(Value.int .i64 (0)), (Value.int .i64 (0))]) 2) →
 ∃ h23 : Heap, StoresAt ⟨k21, 0, none⟩ h22 0 [(Value.int .i64 (i19)), (Value.int .i64 (i20))] h23 ∧
 ∃ (J116 : Int → Nat → Heap → Prop) (m114 : Nat), Fin B h23 (J116 (0) m114) ∧
 ∀ (i111 : Int) (m113 : Nat) (h112 : Heap), J116 i111 m113 h112 →
 ((i111 : Int) < ((n8 : Nat)) →
 ∃ A118 : Addr, a7 = some A118 ∧ 0 ≤ (i111 : Int) ∧ (i111 : Int) < (n8 : Nat) ∧
 ∃ i120 : Int, cellH B h112 (Addr.add A118 (Int.toNat (i111) * 1)) = some (Value.int .i64 (i120)) ∧
 ∃ i121 : Int, cellH B h112 ⟨k21, 0, none⟩ = some (Value.int .i64 (i121)) ∧
 ((i120 : Int) < (i121) →
 Fin B h112 (fun h' => ∃ m', m' < m113 ∧ J116 (IntKind.wrap .i64 ((i111) + (1))) m' h')) ∧ (¬ ((i120 : Int) < (i121)) →
 Fin B h112 (fun h' => S_countermandref13_Numbers_J1 B a1 n2 c3 a7 n8 c9 i10 m12 J15 k21 (i111) h' Q))) ∧ (¬ ((i111 : Int) < ((n8 : Nat))) →
 Fin B h112 (fun h' => S_countermandref13_Numbers_J1 B a1 n2 c3 a7 n8 c9 i10 m12 J15 k21 (i111) h' Q))) ∧ (¬ ((i10 : Int) < ((n2 : Nat))) →
 Fin B h11 (Q a7 n8 c9))
def S_countermandref13_Get (B : RO) (a1 : Option Addr) (n2 : Nat) (c3 : Nat) (i4 : Int) (h : Heap) (Q : Int → Bool → Heap → Prop) : Prop :=
 ∃ (J12 : Int → Nat → Heap → Prop) (m10 : Nat), Fin B h (J12 (IntKind.wrap .i64 (((n2 : Nat)) - (1))) m10) ∧
 ∀ (i7 : Int) (m9 : Nat) (h8 : Heap), J12 i7 m9 h8 →
 ((i7 : Int) ≥ (0) →
 ∃ A14 : Addr, a1 = some A14 ∧ 0 ≤ (i7 : Int) ∧ (i7 : Int) < (n2 : Nat) ∧
 ∃ i16 : Int, cellH B h8 (Addr.add A14 (Int.toNat (i7) * 2)) = some (Value.int .i64 (i16)) ∧
 ((i16 : Int) = i4 →
 ∃ A18 : Addr, a1 = some A18 ∧ 0 ≤ (i7 : Int) ∧ (i7 : Int) < (n2 : Nat) ∧
 ∃ i20 : Int, cellH B h8 (Addr.add (Addr.add A18 (Int.toNat (i7) * 2)) 1) = some (Value.int .i64 (i20)) ∧
 Fin B h8 (Q (i20) (true))) ∧ (¬ ((i16 : Int) = i4) →
 Fin B h8 (fun h' => ∃ m', m' < m9 ∧ J12 (IntKind.wrap .i64 ((i7) - (1))) m' h'))) ∧ (¬ ((i7 : Int) ≥ (0)) →
 Fin B h8 (Q (0) (false)))
def S_draft_Draft_int_Put (B : RO) (p1 : Option Addr) (i2 : Int) (i3 : Int) (h : Heap) (Q : Bool → Heap → Prop) : Prop :=
 (p1 = none →
 Fin B h (Q (false))) ∧ (¬ (p1 = none) →
 C_draft_Draft_int_find B p1 (i2) h (fun i7 b8 h6 =>
 (b8 = true →
 ∃ A24 : Addr, p1 = some A24 ∧
 LdSl B h6 A24 fun a26 n27 c28 h29 =>
 ∃ A30 : Addr, a26 = some A30 ∧ 0 ≤ (i7 : Int) ∧ (i7 : Int) < (n27 : Nat) ∧
 ∃ h32 : Heap, storeH h29 (Addr.add (Addr.add A30 (Int.toNat (i7) * 2)) 1) (Value.int .i64 (i3)) = some h32 ∧
 Fin B h32 (Q (true))) ∧ (b8 = false →
 ∃ A9 : Addr, p1 = some A9 ∧
 LdSl B h6 A9 fun a11 n12 c13 h14 =>
 ∀ k15 : Nat, h14 k15 = none → B k15 = none → ∀ h16 : Heap, h16 = Heap.set h14 k15 (.vec 163 (plains [(Value.int .i64 (i2)), (Value.int .i64 (i3))]) 2) →
 C_slices_Insert_s_draft_entry_int_draft_entry_int B a11 n12 c13 (i7) (some ⟨k15, 0, none⟩) 1 1 h16 (fun a18 n19 c20 h17 =>
 ∃ A21 : Addr, p1 = some A21 ∧
 ∃ h23 : Heap, storeH h17 A21 (Value.slice a18 n19 c20) = some h23 ∧
 Fin B h23 (Q (true))))))
def S_draft_Draft_int_Len (B : RO) (p1 : Option Addr) (h : Heap) (Q : Int → Heap → Prop) : Prop :=
 (p1 = none →
 Fin B h (Q (0))) ∧ (¬ (p1 = none) →
 ∃ A4 : Addr, p1 = some A4 ∧
 LdSl B h A4 fun a6 n7 c8 h9 =>
 Fin B h9 (Q ((n7 : Nat))))
def S_draft_Draft_int_All (B : RO) (p1 : Option Addr) (h : Heap) (Q : Value → Heap → Prop) : Prop :=
 ∀ k3 : Nat, h k3 = none → B k3 = none → ∀ h4 : Heap, h4 = Heap.set h k3 (.vec 119 [.plain (Value.pointer p1)] 1) →
 Fin B h4 (Q (Value.func (.func 95) #[] #[(Value.pointer (some ⟨k3, 0, none⟩))]))
def S_draft_Draft_int_Get (B : RO) (p1 : Option Addr) (i2 : Int) (h : Heap) (Q : Int → Bool → Heap → Prop) : Prop :=
 (p1 = none →
 Fin B h (Q (0) (false))) ∧ (¬ (p1 = none) →
 C_draft_Draft_int_find B p1 (i2) h (fun i7 b8 h6 =>
 (b8 = true →
 ∃ A9 : Addr, p1 = some A9 ∧
 LdSl B h6 A9 fun a11 n12 c13 h14 =>
 ∃ A15 : Addr, a11 = some A15 ∧ 0 ≤ (i7 : Int) ∧ (i7 : Int) < (n12 : Nat) ∧
 ∃ i17 : Int, cellH B h14 (Addr.add (Addr.add A15 (Int.toNat (i7) * 2)) 1) = some (Value.int .i64 (i17)) ∧
 Fin B h14 (Q (i17) (true))) ∧ (b8 = false →
 Fin B h6 (Q (0) (false)))))
def S_draft_Draft_int_Copy (B : RO) (p1 : Option Addr) (h : Heap) (Q : Option Addr → Heap → Prop) : Prop :=
 (p1 = none →
 Fin B h (Q none)) ∧ (¬ (p1 = none) →
 ∃ A4 : Addr, p1 = some A4 ∧
 LdSl B h A4 fun a6 n7 c8 h9 =>
 C_slices_Clone_s_draft_entry_int_draft_entry_int B a6 n7 c8 h9 (fun a11 n12 c13 h10 =>
 ∀ k14 : Nat, h10 k14 = none → B k14 = none → ∀ h15 : Heap, h15 = Heap.set h10 k14 (.vec 122 (plains [(Value.slice a11 n12 c13)]) 1) →
 Fin B h15 (Q (some ⟨k14, 0, none⟩))))
def S_draft_Draft_string_Get (B : RO) (p1 : Option Addr) (i2 : Int) (h : Heap) (Q : ByteArray → Bool → Heap → Prop) : Prop :=
 (p1 = none →
 Fin B h (Q (ByteArray.mk #[]) (false))) ∧ (¬ (p1 = none) →
 C_draft_Draft_string_find B p1 (i2) h (fun i7 b8 h6 =>
 (b8 = true →
 ∃ A9 : Addr, p1 = some A9 ∧
 LdSl B h6 A9 fun a11 n12 c13 h14 =>
 ∃ A15 : Addr, a11 = some A15 ∧ 0 ≤ (i7 : Int) ∧ (i7 : Int) < (n12 : Nat) ∧
 ∃ s17 : ByteArray, cellH B h14 (Addr.add (Addr.add A15 (Int.toNat (i7) * 2)) 1) = some (Value.string s17) ∧
 Fin B h14 (Q s17 (true))) ∧ (b8 = false →
 Fin B h6 (Q (ByteArray.mk #[]) (false)))))
def S_draft_Draft_string_Put (B : RO) (p1 : Option Addr) (i2 : Int) (s3 : ByteArray) (h : Heap) (Q : Bool → Heap → Prop) : Prop :=
 (p1 = none →
 Fin B h (Q (false))) ∧ (¬ (p1 = none) →
 C_draft_Draft_string_find B p1 (i2) h (fun i7 b8 h6 =>
 (b8 = true →
 ∃ A24 : Addr, p1 = some A24 ∧
 LdSl B h6 A24 fun a26 n27 c28 h29 =>
 ∃ A30 : Addr, a26 = some A30 ∧ 0 ≤ (i7 : Int) ∧ (i7 : Int) < (n27 : Nat) ∧
 ∃ h32 : Heap, storeH h29 (Addr.add (Addr.add A30 (Int.toNat (i7) * 2)) 1) (Value.string s3) = some h32 ∧
 Fin B h32 (Q (true))) ∧ (b8 = false →
 ∃ A9 : Addr, p1 = some A9 ∧
 LdSl B h6 A9 fun a11 n12 c13 h14 =>
 ∀ k15 : Nat, h14 k15 = none → B k15 = none → ∀ h16 : Heap, h16 = Heap.set h14 k15 (.vec 176 (plains [(Value.int .i64 (i2)), (Value.string s3)]) 2) →
 C_slices_Insert_s_draft_entry_string_draft_entry_string B a11 n12 c13 (i7) (some ⟨k15, 0, none⟩) 1 1 h16 (fun a18 n19 c20 h17 =>
 ∃ A21 : Addr, p1 = some A21 ∧
 ∃ h23 : Heap, storeH h17 A21 (Value.slice a18 n19 c20) = some h23 ∧
 Fin B h23 (Q (true))))))
def S_draft_Draft_string_Len (B : RO) (p1 : Option Addr) (h : Heap) (Q : Int → Heap → Prop) : Prop :=
 (p1 = none →
 Fin B h (Q (0))) ∧ (¬ (p1 = none) →
 ∃ A4 : Addr, p1 = some A4 ∧
 LdSl B h A4 fun a6 n7 c8 h9 =>
 Fin B h9 (Q ((n7 : Nat))))
def S_draft_Draft_int_find (B : RO) (p1 : Option Addr) (i2 : Int) (h : Heap) (Q : Int → Bool → Heap → Prop) : Prop :=
 ∃ A5 : Addr, p1 = some A5 ∧
 LdSl B h A5 fun a7 n8 c9 h10 =>
 C_slices_BinarySearchFunc_s_draft_entry_int_draft_entry_int_int B a7 n8 c9 (i2) (Value.func (.func 104) #[] #[]) h10 (fun i12 b13 h11 =>
 Fin B h11 (Q (i12) (b13)))
def S_slices_Insert_s_draft_entry_int_draft_entry_int (B : RO) (a1 : Option Addr) (n2 : Nat) (c3 : Nat) (i4 : Int) (a5 : Option Addr) (n6 : Nat) (c7 : Nat) (h : Heap) (Q : Option Addr → Nat → Nat → Heap → Prop) : Prop :=
 0 ≤ (i4 : Int) ∧ (i4 : Int) ≤ ((n2 : Nat) : Int) ∧ ((n2 : Nat) : Int) ≤ (c3 : Nat) ∧
 (((n6 : Nat) : Int) = 0 →
 Fin B h (Q a1 n2 c3)) ∧ (¬ (((n6 : Nat) : Int) = 0) →
 ((i4 : Int) = (n2 : Nat) →
 semH PG B (Builtin.append_ #[120, 120] 120 #[(Value.slice a1 n2 c3), (Value.slice a5 n6 c7)]) h (fun v h13 => ∃ a14 : Option Addr, ∃ n15 : Nat, ∃ c16 : Nat, v = (Value.slice a14 n15 c16) ∧
 Fin B h13 (Q a14 n15 c16))) ∧ (¬ ((i4 : Int) = (n2 : Nat)) →
 ((IntKind.wrap .i64 (((n2 : Nat)) + ((n6 : Nat))) : Int) > ((c3 : Nat)) →
 0 ≤ (0 : Int) ∧ (0 : Int) ≤ (i4 : Int) ∧ (i4 : Int) ≤ (c3 : Nat) ∧
 semH PG B (Builtin.append_ #[120, 3] 120 #[(Value.slice (if c3 = Int.toNat (0) then a1 else Option.map (·.add (Int.toNat (0) * 2)) a1) (Int.toNat (i4) - Int.toNat (0)) (c3 - Int.toNat (0))), (Value.int .i64 (IntKind.wrap .i64 ((IntKind.wrap .i64 (((n2 : Nat)) + ((n6 : Nat)))) - (i4))))]) h (fun v h18 => ∃ a19 : Option Addr, ∃ n20 : Nat, ∃ c21 : Nat, v = (Value.slice a19 n20 c21) ∧
 0 ≤ (i4 : Int) ∧ (i4 : Int) ≤ ((n20 : Nat) : Int) ∧ ((n20 : Nat) : Int) ≤ (c21 : Nat) ∧
 semH PG B (Builtin.copy_ #[120, 120] 3 #[(Value.slice (if c21 = Int.toNat (i4) then a19 else Option.map (·.add (Int.toNat (i4) * 2)) a19) (Int.toNat ((n20 : Nat)) - Int.toNat (i4)) (c21 - Int.toNat (i4))), (Value.slice a5 n6 c7)]) h18 (fun v h22 => ∃ i23 : Int, v = (Value.int .i64 (i23)) ∧
 0 ≤ (IntKind.wrap .i64 ((i4) + ((n6 : Nat))) : Int) ∧ (IntKind.wrap .i64 ((i4) + ((n6 : Nat))) : Int) ≤ ((n20 : Nat) : Int) ∧ ((n20 : Nat) : Int) ≤ (c21 : Nat) ∧
 0 ≤ (i4 : Int) ∧ (i4 : Int) ≤ ((n2 : Nat) : Int) ∧ ((n2 : Nat) : Int) ≤ (c3 : Nat) ∧
 semH PG B (Builtin.copy_ #[120, 120] 3 #[(Value.slice (if c21 = Int.toNat (IntKind.wrap .i64 ((i4) + ((n6 : Nat)))) then a19 else Option.map (·.add (Int.toNat (IntKind.wrap .i64 ((i4) + ((n6 : Nat)))) * 2)) a19) (Int.toNat ((n20 : Nat)) - Int.toNat (IntKind.wrap .i64 ((i4) + ((n6 : Nat))))) (c21 - Int.toNat (IntKind.wrap .i64 ((i4) + ((n6 : Nat)))))), (Value.slice (if c3 = Int.toNat (i4) then a1 else Option.map (·.add (Int.toNat (i4) * 2)) a1) (Int.toNat ((n2 : Nat)) - Int.toNat (i4)) (c3 - Int.toNat (i4)))]) h22 (fun v h24 => ∃ i25 : Int, v = (Value.int .i64 (i25)) ∧
 Fin B h24 (Q a19 n20 c21))))) ∧ (¬ ((IntKind.wrap .i64 (((n2 : Nat)) + ((n6 : Nat))) : Int) > ((c3 : Nat))) →
 0 ≤ (0 : Int) ∧ (0 : Int) ≤ (IntKind.wrap .i64 (((n2 : Nat)) + ((n6 : Nat))) : Int) ∧ (IntKind.wrap .i64 (((n2 : Nat)) + ((n6 : Nat))) : Int) ≤ (c3 : Nat) ∧
 0 ≤ (IntKind.wrap .i64 ((i4) + ((n6 : Nat))) : Int) ∧ (IntKind.wrap .i64 ((i4) + ((n6 : Nat))) : Int) ≤ (((Int.toNat (IntKind.wrap .i64 (((n2 : Nat)) + ((n6 : Nat)))) - Int.toNat (0)) : Nat) : Int) ∧ (((Int.toNat (IntKind.wrap .i64 (((n2 : Nat)) + ((n6 : Nat)))) - Int.toNat (0)) : Nat) : Int) ≤ ((c3 - Int.toNat (0)) : Nat) ∧
 semH PG B (Extern.SlicesOverlaps.overlaps #[120, 120] #[4] #[(Value.slice a5 n6 c7), (Value.slice (if (c3 - Int.toNat (0)) = Int.toNat (IntKind.wrap .i64 ((i4) + ((n6 : Nat)))) then (if c3 = Int.toNat (0) then a1 else Option.map (·.add (Int.toNat (0) * 2)) a1) else Option.map (·.add (Int.toNat (IntKind.wrap .i64 ((i4) + ((n6 : Nat)))) * 2)) (if c3 = Int.toNat (0) then a1 else Option.map (·.add (Int.toNat (0) * 2)) a1)) (Int.toNat (((Int.toNat (IntKind.wrap .i64 (((n2 : Nat)) + ((n6 : Nat)))) - Int.toNat (0)) : Nat)) - Int.toNat (IntKind.wrap .i64 ((i4) + ((n6 : Nat))))) ((c3 - Int.toNat (0)) - Int.toNat (IntKind.wrap .i64 ((i4) + ((n6 : Nat))))))]) h (fun v h26 => ∃ b27 : Bool, v = (Value.bool b27) ∧
 (b27 = true →
 0 ≤ ((n2 : Nat) : Int) ∧ ((n2 : Nat) : Int) ≤ (((Int.toNat (IntKind.wrap .i64 (((n2 : Nat)) + ((n6 : Nat)))) - Int.toNat (0)) : Nat) : Int) ∧ (((Int.toNat (IntKind.wrap .i64 (((n2 : Nat)) + ((n6 : Nat)))) - Int.toNat (0)) : Nat) : Int) ≤ ((c3 - Int.toNat (0)) : Nat) ∧
 semH PG B (Builtin.copy_ #[120, 120] 3 #[(Value.slice (if (c3 - Int.toNat (0)) = Int.toNat ((n2 : Nat)) then (if c3 = Int.toNat (0) then a1 else Option.map (·.add (Int.toNat (0) * 2)) a1) else Option.map (·.add (Int.toNat ((n2 : Nat)) * 2)) (if c3 = Int.toNat (0) then a1 else Option.map (·.add (Int.toNat (0) * 2)) a1)) (Int.toNat (((Int.toNat (IntKind.wrap .i64 (((n2 : Nat)) + ((n6 : Nat)))) - Int.toNat (0)) : Nat)) - Int.toNat ((n2 : Nat))) ((c3 - Int.toNat (0)) - Int.toNat ((n2 : Nat)))), (Value.slice a5 n6 c7)]) h26 (fun v h32 => ∃ i33 : Int, v = (Value.int .i64 (i33)) ∧
 0 ≤ (i4 : Int) ∧ (i4 : Int) ≤ (((Int.toNat (IntKind.wrap .i64 (((n2 : Nat)) + ((n6 : Nat)))) - Int.toNat (0)) : Nat) : Int) ∧ (((Int.toNat (IntKind.wrap .i64 (((n2 : Nat)) + ((n6 : Nat)))) - Int.toNat (0)) : Nat) : Int) ≤ ((c3 - Int.toNat (0)) : Nat) ∧
 C_slices_rotateRight_draft_entry_int B (if (c3 - Int.toNat (0)) = Int.toNat (i4) then (if c3 = Int.toNat (0) then a1 else Option.map (·.add (Int.toNat (0) * 2)) a1) else Option.map (·.add (Int.toNat (i4) * 2)) (if c3 = Int.toNat (0) then a1 else Option.map (·.add (Int.toNat (0) * 2)) a1)) (Int.toNat (((Int.toNat (IntKind.wrap .i64 (((n2 : Nat)) + ((n6 : Nat)))) - Int.toNat (0)) : Nat)) - Int.toNat (i4)) ((c3 - Int.toNat (0)) - Int.toNat (i4)) ((n6 : Nat)) h32 (fun h34 =>
 Fin B h34 (Q (if c3 = Int.toNat (0) then a1 else Option.map (·.add (Int.toNat (0) * 2)) a1) (Int.toNat (IntKind.wrap .i64 (((n2 : Nat)) + ((n6 : Nat)))) - Int.toNat (0)) (c3 - Int.toNat (0)))))) ∧ (b27 = false →
 0 ≤ (IntKind.wrap .i64 ((i4) + ((n6 : Nat))) : Int) ∧ (IntKind.wrap .i64 ((i4) + ((n6 : Nat))) : Int) ≤ (((Int.toNat (IntKind.wrap .i64 (((n2 : Nat)) + ((n6 : Nat)))) - Int.toNat (0)) : Nat) : Int) ∧ (((Int.toNat (IntKind.wrap .i64 (((n2 : Nat)) + ((n6 : Nat)))) - Int.toNat (0)) : Nat) : Int) ≤ ((c3 - Int.toNat (0)) : Nat) ∧
 0 ≤ (i4 : Int) ∧ (i4 : Int) ≤ (((Int.toNat (IntKind.wrap .i64 (((n2 : Nat)) + ((n6 : Nat)))) - Int.toNat (0)) : Nat) : Int) ∧ (((Int.toNat (IntKind.wrap .i64 (((n2 : Nat)) + ((n6 : Nat)))) - Int.toNat (0)) : Nat) : Int) ≤ ((c3 - Int.toNat (0)) : Nat) ∧
 semH PG B (Builtin.copy_ #[120, 120] 3 #[(Value.slice (if (c3 - Int.toNat (0)) = Int.toNat (IntKind.wrap .i64 ((i4) + ((n6 : Nat)))) then (if c3 = Int.toNat (0) then a1 else Option.map (·.add (Int.toNat (0) * 2)) a1) else Option.map (·.add (Int.toNat (IntKind.wrap .i64 ((i4) + ((n6 : Nat)))) * 2)) (if c3 = Int.toNat (0) then a1 else Option.map (·.add (Int.toNat (0) * 2)) a1)) (Int.toNat (((Int.toNat (IntKind.wrap .i64 (((n2 : Nat)) + ((n6 : Nat)))) - Int.toNat (0)) : Nat)) - Int.toNat (IntKind.wrap .i64 ((i4) + ((n6 : Nat))))) ((c3 - Int.toNat (0)) - Int.toNat (IntKind.wrap .i64 ((i4) + ((n6 : Nat)))))), (Value.slice (if (c3 - Int.toNat (0)) = Int.toNat (i4) then (if c3 = Int.toNat (0) then a1 else Option.map (·.add (Int.toNat (0) * 2)) a1) else Option.map (·.add (Int.toNat (i4) * 2)) (if c3 = Int.toNat (0) then a1 else Option.map (·.add (Int.toNat (0) * 2)) a1)) (Int.toNat (((Int.toNat (IntKind.wrap .i64 (((n2 : Nat)) + ((n6 : Nat)))) - Int.toNat (0)) : Nat)) - Int.toNat (i4)) ((c3 - Int.toNat (0)) - Int.toNat (i4)))]) h26 (fun v h28 => ∃ i29 : Int, v = (Value.int .i64 (i29)) ∧
 0 ≤ (i4 : Int) ∧ (i4 : Int) ≤ (((Int.toNat (IntKind.wrap .i64 (((n2 : Nat)) + ((n6 : Nat)))) - Int.toNat (0)) : Nat) : Int) ∧ (((Int.toNat (IntKind.wrap .i64 (((n2 : Nat)) + ((n6 : Nat)))) - Int.toNat (0)) : Nat) : Int) ≤ ((c3 - Int.toNat (0)) : Nat) ∧
 semH PG B (Builtin.copy_ #[120, 120] 3 #[(Value.slice (if (c3 - Int.toNat (0)) = Int.toNat (i4) then (if c3 = Int.toNat (0) then a1 else Option.map (·.add (Int.toNat (0) * 2)) a1) else Option.map (·.add (Int.toNat (i4) * 2)) (if c3 = Int.toNat (0) then a1 else Option.map (·.add (Int.toNat (0) * 2)) a1)) (Int.toNat (((Int.toNat (IntKind.wrap .i64 (((n2 : Nat)) + ((n6 : Nat)))) - Int.toNat (0)) : Nat)) - Int.toNat (i4)) ((c3 - Int.toNat (0)) - Int.toNat (i4))), (Value.slice a5 n6 c7)]) h28 (fun v h30 => ∃ i31 : Int, v = (Value.int .i64 (i31)) ∧
 Fin B h30 (Q (if c3 = Int.toNat (0) then a1 else Option.map (·.add (Int.toNat (0) * 2)) a1) (Int.toNat (IntKind.wrap .i64 (((n2 : Nat)) + ((n6 : Nat)))) - Int.toNat (0)) (c3 - Int.toNat (0))))))))))
def S_draft_Draft_int_All_1 (B : RO) (v1 : Value) (A2 : Addr) (h : Heap) (Q : Heap → Prop) : Prop :=
 ∃ p3 : Option Addr, cellH B h A2 = some (Value.pointer p3) ∧
 (p3 = none →
 Fin B h (Q)) ∧ (¬ (p3 = none) →
 ∃ p5 : Option Addr, cellH B h A2 = some (Value.pointer p5) ∧
 ∃ A6 : Addr, p5 = some A6 ∧
 LdSl B h A6 fun a8 n9 c10 h11 =>
 ∃ (J17 : Int → Nat → Heap → Prop) (m15 : Nat), Fin B h11 (J17 (0) m15) ∧
 ∀ (i12 : Int) (m14 : Nat) (h13 : Heap), J17 i12 m14 h13 →
 ((i12 : Int) < ((n9 : Nat)) →
 ∃ A19 : Addr, a8 = some A19 ∧ 0 ≤ (i12 : Int) ∧ (i12 : Int) < (n9 : Nat) ∧
 ∃ i21 : Int, ∃ i22 : Int, CellsAt B h13 (Addr.add A19 (Int.toNat (i12) * 2)) 0 [(Value.int .i64 (i21)), (Value.int .i64 (i22))] ∧
 ∀ k23 : Nat, h13 k23 = none → B k23 = none → ∀ h24 : Heap, h24 = Heap.set h13 k23 (.vec 163 (plains [(Value.int .i64 (0)), (Value.int .i64 (0))]) 2) →
 ∃ h25 : Heap, StoresAt ⟨k23, 0, none⟩ h24 0 [(Value.int .i64 (i21)), (Value.int .i64 (i22))] h25 ∧
 ∃ i26 : Int, cellH B h25 ⟨k23, 0, none⟩ = some (Value.int .i64 (i26)) ∧
 ∃ i27 : Int, cellH B h25 ⟨k23, 1, none⟩ = some (Value.int .i64 (i27)) ∧
 CallV PG B v1 [(Value.int .i64 (i26)), (Value.int .i64 (i27))] h25 (fun v h28 => ∃ b29 : Bool, v = (Value.bool b29) ∧
 (b29 = true →
 Fin B h28 (fun h' => ∃ m', m' < m14 ∧ J17 (IntKind.wrap .i64 ((i12) + (1))) m' h')) ∧ (b29 = false →
 Fin B h28 (Q)))) ∧ (¬ ((i12 : Int) < ((n9 : Nat))) →
 Fin B h13 (Q)))
def S_slices_Clone_s_draft_entry_int_draft_entry_int (B : RO) (a1 : Option Addr) (n2 : Nat) (c3 : Nat) (h : Heap) (Q : Option Addr → Nat → Nat → Heap → Prop) : Prop :=
 (a1 = none →
 Fin B h (Q none 0 0)) ∧ (¬ (a1 = none) →
 ∀ k8 : Nat, h k8 = none → B k8 = none → ∀ h9 : Heap, h9 = Heap.set h k8 (.vec 163 [] 0) →
 semH PG B (Builtin.append_ #[120, 120] 120 #[(Value.slice (some ⟨k8, 0, none⟩) 0 0), (Value.slice a1 n2 c3)]) h9 (fun v h10 => ∃ a11 : Option Addr, ∃ n12 : Nat, ∃ c13 : Nat, v = (Value.slice a11 n12 c13) ∧
 Fin B h10 (Q a11 n12 c13)))
def S_draft_Draft_string_find (B : RO) (p1 : Option Addr) (i2 : Int) (h : Heap) (Q : Int → Bool → Heap → Prop) : Prop :=
 ∃ A5 : Addr, p1 = some A5 ∧
 LdSl B h A5 fun a7 n8 c9 h10 =>
 C_slices_BinarySearchFunc_s_draft_entry_string_draft_entry_string_int B a7 n8 c9 (i2) (Value.func (.func 109) #[] #[]) h10 (fun i12 b13 h11 =>
 Fin B h11 (Q (i12) (b13)))
def S_slices_Insert_s_draft_entry_string_draft_entry_string (B : RO) (a1 : Option Addr) (n2 : Nat) (c3 : Nat) (i4 : Int) (a5 : Option Addr) (n6 : Nat) (c7 : Nat) (h : Heap) (Q : Option Addr → Nat → Nat → Heap → Prop) : Prop :=
 0 ≤ (i4 : Int) ∧ (i4 : Int) ≤ ((n2 : Nat) : Int) ∧ ((n2 : Nat) : Int) ≤ (c3 : Nat) ∧
 (((n6 : Nat) : Int) = 0 →
 Fin B h (Q a1 n2 c3)) ∧ (¬ (((n6 : Nat) : Int) = 0) →
 ((i4 : Int) = (n2 : Nat) →
 semH PG B (Builtin.append_ #[156, 156] 156 #[(Value.slice a1 n2 c3), (Value.slice a5 n6 c7)]) h (fun v h13 => ∃ a14 : Option Addr, ∃ n15 : Nat, ∃ c16 : Nat, v = (Value.slice a14 n15 c16) ∧
 Fin B h13 (Q a14 n15 c16))) ∧ (¬ ((i4 : Int) = (n2 : Nat)) →
 ((IntKind.wrap .i64 (((n2 : Nat)) + ((n6 : Nat))) : Int) > ((c3 : Nat)) →
 0 ≤ (0 : Int) ∧ (0 : Int) ≤ (i4 : Int) ∧ (i4 : Int) ≤ (c3 : Nat) ∧
 semH PG B (Builtin.append_ #[156, 3] 156 #[(Value.slice (if c3 = Int.toNat (0) then a1 else Option.map (·.add (Int.toNat (0) * 2)) a1) (Int.toNat (i4) - Int.toNat (0)) (c3 - Int.toNat (0))), (Value.int .i64 (IntKind.wrap .i64 ((IntKind.wrap .i64 (((n2 : Nat)) + ((n6 : Nat)))) - (i4))))]) h (fun v h18 => ∃ a19 : Option Addr, ∃ n20 : Nat, ∃ c21 : Nat, v = (Value.slice a19 n20 c21) ∧
 0 ≤ (i4 : Int) ∧ (i4 : Int) ≤ ((n20 : Nat) : Int) ∧ ((n20 : Nat) : Int) ≤ (c21 : Nat) ∧
 semH PG B (Builtin.copy_ #[156, 156] 3 #[(Value.slice (if c21 = Int.toNat (i4) then a19 else Option.map (·.add (Int.toNat (i4) * 2)) a19) (Int.toNat ((n20 : Nat)) - Int.toNat (i4)) (c21 - Int.toNat (i4))), (Value.slice a5 n6 c7)]) h18 (fun v h22 => ∃ i23 : Int, v = (Value.int .i64 (i23)) ∧
 0 ≤ (IntKind.wrap .i64 ((i4) + ((n6 : Nat))) : Int) ∧ (IntKind.wrap .i64 ((i4) + ((n6 : Nat))) : Int) ≤ ((n20 : Nat) : Int) ∧ ((n20 : Nat) : Int) ≤ (c21 : Nat) ∧
 0 ≤ (i4 : Int) ∧ (i4 : Int) ≤ ((n2 : Nat) : Int) ∧ ((n2 : Nat) : Int) ≤ (c3 : Nat) ∧
 semH PG B (Builtin.copy_ #[156, 156] 3 #[(Value.slice (if c21 = Int.toNat (IntKind.wrap .i64 ((i4) + ((n6 : Nat)))) then a19 else Option.map (·.add (Int.toNat (IntKind.wrap .i64 ((i4) + ((n6 : Nat)))) * 2)) a19) (Int.toNat ((n20 : Nat)) - Int.toNat (IntKind.wrap .i64 ((i4) + ((n6 : Nat))))) (c21 - Int.toNat (IntKind.wrap .i64 ((i4) + ((n6 : Nat)))))), (Value.slice (if c3 = Int.toNat (i4) then a1 else Option.map (·.add (Int.toNat (i4) * 2)) a1) (Int.toNat ((n2 : Nat)) - Int.toNat (i4)) (c3 - Int.toNat (i4)))]) h22 (fun v h24 => ∃ i25 : Int, v = (Value.int .i64 (i25)) ∧
 Fin B h24 (Q a19 n20 c21))))) ∧ (¬ ((IntKind.wrap .i64 (((n2 : Nat)) + ((n6 : Nat))) : Int) > ((c3 : Nat))) →
 0 ≤ (0 : Int) ∧ (0 : Int) ≤ (IntKind.wrap .i64 (((n2 : Nat)) + ((n6 : Nat))) : Int) ∧ (IntKind.wrap .i64 (((n2 : Nat)) + ((n6 : Nat))) : Int) ≤ (c3 : Nat) ∧
 0 ≤ (IntKind.wrap .i64 ((i4) + ((n6 : Nat))) : Int) ∧ (IntKind.wrap .i64 ((i4) + ((n6 : Nat))) : Int) ≤ (((Int.toNat (IntKind.wrap .i64 (((n2 : Nat)) + ((n6 : Nat)))) - Int.toNat (0)) : Nat) : Int) ∧ (((Int.toNat (IntKind.wrap .i64 (((n2 : Nat)) + ((n6 : Nat)))) - Int.toNat (0)) : Nat) : Int) ≤ ((c3 - Int.toNat (0)) : Nat) ∧
 semH PG B (Extern.SlicesOverlaps.overlaps #[156, 156] #[4] #[(Value.slice a5 n6 c7), (Value.slice (if (c3 - Int.toNat (0)) = Int.toNat (IntKind.wrap .i64 ((i4) + ((n6 : Nat)))) then (if c3 = Int.toNat (0) then a1 else Option.map (·.add (Int.toNat (0) * 2)) a1) else Option.map (·.add (Int.toNat (IntKind.wrap .i64 ((i4) + ((n6 : Nat)))) * 2)) (if c3 = Int.toNat (0) then a1 else Option.map (·.add (Int.toNat (0) * 2)) a1)) (Int.toNat (((Int.toNat (IntKind.wrap .i64 (((n2 : Nat)) + ((n6 : Nat)))) - Int.toNat (0)) : Nat)) - Int.toNat (IntKind.wrap .i64 ((i4) + ((n6 : Nat))))) ((c3 - Int.toNat (0)) - Int.toNat (IntKind.wrap .i64 ((i4) + ((n6 : Nat))))))]) h (fun v h26 => ∃ b27 : Bool, v = (Value.bool b27) ∧
 (b27 = true →
 0 ≤ ((n2 : Nat) : Int) ∧ ((n2 : Nat) : Int) ≤ (((Int.toNat (IntKind.wrap .i64 (((n2 : Nat)) + ((n6 : Nat)))) - Int.toNat (0)) : Nat) : Int) ∧ (((Int.toNat (IntKind.wrap .i64 (((n2 : Nat)) + ((n6 : Nat)))) - Int.toNat (0)) : Nat) : Int) ≤ ((c3 - Int.toNat (0)) : Nat) ∧
 semH PG B (Builtin.copy_ #[156, 156] 3 #[(Value.slice (if (c3 - Int.toNat (0)) = Int.toNat ((n2 : Nat)) then (if c3 = Int.toNat (0) then a1 else Option.map (·.add (Int.toNat (0) * 2)) a1) else Option.map (·.add (Int.toNat ((n2 : Nat)) * 2)) (if c3 = Int.toNat (0) then a1 else Option.map (·.add (Int.toNat (0) * 2)) a1)) (Int.toNat (((Int.toNat (IntKind.wrap .i64 (((n2 : Nat)) + ((n6 : Nat)))) - Int.toNat (0)) : Nat)) - Int.toNat ((n2 : Nat))) ((c3 - Int.toNat (0)) - Int.toNat ((n2 : Nat)))), (Value.slice a5 n6 c7)]) h26 (fun v h32 => ∃ i33 : Int, v = (Value.int .i64 (i33)) ∧
 0 ≤ (i4 : Int) ∧ (i4 : Int) ≤ (((Int.toNat (IntKind.wrap .i64 (((n2 : Nat)) + ((n6 : Nat)))) - Int.toNat (0)) : Nat) : Int) ∧ (((Int.toNat (IntKind.wrap .i64 (((n2 : Nat)) + ((n6 : Nat)))) - Int.toNat (0)) : Nat) : Int) ≤ ((c3 - Int.toNat (0)) : Nat) ∧
 C_slices_rotateRight_draft_entry_string B (if (c3 - Int.toNat (0)) = Int.toNat (i4) then (if c3 = Int.toNat (0) then a1 else Option.map (·.add (Int.toNat (0) * 2)) a1) else Option.map (·.add (Int.toNat (i4) * 2)) (if c3 = Int.toNat (0) then a1 else Option.map (·.add (Int.toNat (0) * 2)) a1)) (Int.toNat (((Int.toNat (IntKind.wrap .i64 (((n2 : Nat)) + ((n6 : Nat)))) - Int.toNat (0)) : Nat)) - Int.toNat (i4)) ((c3 - Int.toNat (0)) - Int.toNat (i4)) ((n6 : Nat)) h32 (fun h34 =>
 Fin B h34 (Q (if c3 = Int.toNat (0) then a1 else Option.map (·.add (Int.toNat (0) * 2)) a1) (Int.toNat (IntKind.wrap .i64 (((n2 : Nat)) + ((n6 : Nat)))) - Int.toNat (0)) (c3 - Int.toNat (0)))))) ∧ (b27 = false →
 0 ≤ (IntKind.wrap .i64 ((i4) + ((n6 : Nat))) : Int) ∧ (IntKind.wrap .i64 ((i4) + ((n6 : Nat))) : Int) ≤ (((Int.toNat (IntKind.wrap .i64 (((n2 : Nat)) + ((n6 : Nat)))) - Int.toNat (0)) : Nat) : Int) ∧ (((Int.toNat (IntKind.wrap .i64 (((n2 : Nat)) + ((n6 : Nat)))) - Int.toNat (0)) : Nat) : Int) ≤ ((c3 - Int.toNat (0)) : Nat) ∧
 0 ≤ (i4 : Int) ∧ (i4 : Int) ≤ (((Int.toNat (IntKind.wrap .i64 (((n2 : Nat)) + ((n6 : Nat)))) - Int.toNat (0)) : Nat) : Int) ∧ (((Int.toNat (IntKind.wrap .i64 (((n2 : Nat)) + ((n6 : Nat)))) - Int.toNat (0)) : Nat) : Int) ≤ ((c3 - Int.toNat (0)) : Nat) ∧
 semH PG B (Builtin.copy_ #[156, 156] 3 #[(Value.slice (if (c3 - Int.toNat (0)) = Int.toNat (IntKind.wrap .i64 ((i4) + ((n6 : Nat)))) then (if c3 = Int.toNat (0) then a1 else Option.map (·.add (Int.toNat (0) * 2)) a1) else Option.map (·.add (Int.toNat (IntKind.wrap .i64 ((i4) + ((n6 : Nat)))) * 2)) (if c3 = Int.toNat (0) then a1 else Option.map (·.add (Int.toNat (0) * 2)) a1)) (Int.toNat (((Int.toNat (IntKind.wrap .i64 (((n2 : Nat)) + ((n6 : Nat)))) - Int.toNat (0)) : Nat)) - Int.toNat (IntKind.wrap .i64 ((i4) + ((n6 : Nat))))) ((c3 - Int.toNat (0)) - Int.toNat (IntKind.wrap .i64 ((i4) + ((n6 : Nat)))))), (Value.slice (if (c3 - Int.toNat (0)) = Int.toNat (i4) then (if c3 = Int.toNat (0) then a1 else Option.map (·.add (Int.toNat (0) * 2)) a1) else Option.map (·.add (Int.toNat (i4) * 2)) (if c3 = Int.toNat (0) then a1 else Option.map (·.add (Int.toNat (0) * 2)) a1)) (Int.toNat (((Int.toNat (IntKind.wrap .i64 (((n2 : Nat)) + ((n6 : Nat)))) - Int.toNat (0)) : Nat)) - Int.toNat (i4)) ((c3 - Int.toNat (0)) - Int.toNat (i4)))]) h26 (fun v h28 => ∃ i29 : Int, v = (Value.int .i64 (i29)) ∧
 0 ≤ (i4 : Int) ∧ (i4 : Int) ≤ (((Int.toNat (IntKind.wrap .i64 (((n2 : Nat)) + ((n6 : Nat)))) - Int.toNat (0)) : Nat) : Int) ∧ (((Int.toNat (IntKind.wrap .i64 (((n2 : Nat)) + ((n6 : Nat)))) - Int.toNat (0)) : Nat) : Int) ≤ ((c3 - Int.toNat (0)) : Nat) ∧
 semH PG B (Builtin.copy_ #[156, 156] 3 #[(Value.slice (if (c3 - Int.toNat (0)) = Int.toNat (i4) then (if c3 = Int.toNat (0) then a1 else Option.map (·.add (Int.toNat (0) * 2)) a1) else Option.map (·.add (Int.toNat (i4) * 2)) (if c3 = Int.toNat (0) then a1 else Option.map (·.add (Int.toNat (0) * 2)) a1)) (Int.toNat (((Int.toNat (IntKind.wrap .i64 (((n2 : Nat)) + ((n6 : Nat)))) - Int.toNat (0)) : Nat)) - Int.toNat (i4)) ((c3 - Int.toNat (0)) - Int.toNat (i4))), (Value.slice a5 n6 c7)]) h28 (fun v h30 => ∃ i31 : Int, v = (Value.int .i64 (i31)) ∧
 Fin B h30 (Q (if c3 = Int.toNat (0) then a1 else Option.map (·.add (Int.toNat (0) * 2)) a1) (Int.toNat (IntKind.wrap .i64 (((n2 : Nat)) + ((n6 : Nat)))) - Int.toNat (0)) (c3 - Int.toNat (0))))))))))
def S_slices_BinarySearchFunc_s_draft_entry_int_draft_entry_int_int_J1 (B : RO) (a1 : Option Addr) (n2 : Nat) (c3 : Nat) (i4 : Int) (v5 : Value) (i9 : Int) (h10 : Heap) (Q : Int → Bool → Heap → Prop) : Prop :=
 ((i9 : Int) < ((n2 : Nat)) →
 ∃ A12 : Addr, a1 = some A12 ∧ 0 ≤ (i9 : Int) ∧ (i9 : Int) < (n2 : Nat) ∧
 ∃ i14 : Int, ∃ i15 : Int, CellsAt B h10 (Addr.add A12 (Int.toNat (i9) * 2)) 0 [(Value.int .i64 (i14)), (Value.int .i64 (i15))] ∧
 CallV PG B v5 [(Value.agg #[(Value.int .i64 (i14)), (Value.int .i64 (i15))]), (Value.int .i64 (i4))] h10 (fun v h16 => ∃ i17 : Int, v = (Value.int .i64 (i17)) ∧
 Fin B h16 (Q (i9) (((i17 : Int) == (0)))))) ∧ (¬ ((i9 : Int) < ((n2 : Nat))) →
 Fin B h10 (Q (i9) (false)))
def S_slices_BinarySearchFunc_s_draft_entry_int_draft_entry_int_int (B : RO) (a1 : Option Addr) (n2 : Nat) (c3 : Nat) (i4 : Int) (v5 : Value) (h : Heap) (Q : Int → Bool → Heap → Prop) : Prop :=
 ∃ (J24 : Int → Int → Nat → Heap → Prop) (m22 : Nat), Fin B h (J24 (0) ((n2 : Nat)) m22) ∧
 ∀ (i18 : Int) (i19 : Int) (m21 : Nat) (h20 : Heap), J24 i18 i19 m21 h20 →
 ((i18 : Int) < (i19) →
 ¬ ((1 : Int) < 0) ∧
 ∃ A26 : Addr, a1 = some A26 ∧ 0 ≤ (IntKind.wrap .i64 (Int.fdiv (IntKind.wrap .u64 (IntKind.wrap .i64 ((i18) + (i19)))) (2 ^ (min (Int.toNat (1)) (IntKind.bits .u64)))) : Int) ∧ (IntKind.wrap .i64 (Int.fdiv (IntKind.wrap .u64 (IntKind.wrap .i64 ((i18) + (i19)))) (2 ^ (min (Int.toNat (1)) (IntKind.bits .u64)))) : Int) < (n2 : Nat) ∧
 ∃ i28 : Int, ∃ i29 : Int, CellsAt B h20 (Addr.add A26 (Int.toNat (IntKind.wrap .i64 (Int.fdiv (IntKind.wrap .u64 (IntKind.wrap .i64 ((i18) + (i19)))) (2 ^ (min (Int.toNat (1)) (IntKind.bits .u64))))) * 2)) 0 [(Value.int .i64 (i28)), (Value.int .i64 (i29))] ∧
 CallV PG B v5 [(Value.agg #[(Value.int .i64 (i28)), (Value.int .i64 (i29))]), (Value.int .i64 (i4))] h20 (fun v h30 => ∃ i31 : Int, v = (Value.int .i64 (i31)) ∧
 ((i31 : Int) < (0) →
 Fin B h30 (fun h' => ∃ m', m' < m21 ∧ J24 (IntKind.wrap .i64 ((IntKind.wrap .i64 (Int.fdiv (IntKind.wrap .u64 (IntKind.wrap .i64 ((i18) + (i19)))) (2 ^ (min (Int.toNat (1)) (IntKind.bits .u64))))) + (1))) (i19) m' h')) ∧ (¬ ((i31 : Int) < (0)) →
 Fin B h30 (fun h' => ∃ m', m' < m21 ∧ J24 (i18) (IntKind.wrap .i64 (Int.fdiv (IntKind.wrap .u64 (IntKind.wrap .i64 ((i18) + (i19)))) (2 ^ (min (Int.toNat (1)) (IntKind.bits .u64))))) m' h')))) ∧ (¬ ((i18 : Int) < (i19)) →
 Fin B h20 (fun h' => S_slices_BinarySearchFunc_s_draft_entry_int_draft_entry_int_int_J1 B a1 n2 c3 i4 v5 (i18) h' Q))
def S_draft_by_int (B : RO) (i1 : Int) (i2 : Int) (i3 : Int) (h : Heap) (Q : Int → Heap → Prop) : Prop :=
 ∀ k5 : Nat, h k5 = none → B k5 = none → ∀ h6 : Heap, h6 = Heap.set h k5 (.vec 163 (plains [(Value.int .i64 (i1)), (Value.int .i64 (i2))]) 2) →
 ∃ i7 : Int, cellH B h6 ⟨k5, 0, none⟩ = some (Value.int .i64 (i7)) ∧
 ((i7 : Int) < (i3) →
 Fin B h6 (Q ((-1)))) ∧ (¬ ((i7 : Int) < (i3)) →
 ∃ i9 : Int, cellH B h6 ⟨k5, 0, none⟩ = some (Value.int .i64 (i9)) ∧
 ((i9 : Int) > (i3) →
 Fin B h6 (Q (1))) ∧ (¬ ((i9 : Int) > (i3)) →
 Fin B h6 (Q (0))))
def S_slices_rotateRight_draft_entry_int (B : RO) (a1 : Option Addr) (n2 : Nat) (c3 : Nat) (i4 : Int) (h : Heap) (Q : Heap → Prop) : Prop :=
 C_slices_rotateLeft_draft_entry_int B a1 n2 c3 (IntKind.wrap .i64 (((n2 : Nat)) - (i4))) h (fun h5 =>
 Fin B h5 (Q))
def S_slices_BinarySearchFunc_s_draft_entry_string_draft_entry_string_int_J1 (B : RO) (a1 : Option Addr) (n2 : Nat) (c3 : Nat) (i4 : Int) (v5 : Value) (i9 : Int) (h10 : Heap) (Q : Int → Bool → Heap → Prop) : Prop :=
 ((i9 : Int) < ((n2 : Nat)) →
 ∃ A12 : Addr, a1 = some A12 ∧ 0 ≤ (i9 : Int) ∧ (i9 : Int) < (n2 : Nat) ∧
 ∃ i14 : Int, ∃ s15 : ByteArray, CellsAt B h10 (Addr.add A12 (Int.toNat (i9) * 2)) 0 [(Value.int .i64 (i14)), (Value.string s15)] ∧
 CallV PG B v5 [(Value.agg #[(Value.int .i64 (i14)), (Value.string s15)]), (Value.int .i64 (i4))] h10 (fun v h16 => ∃ i17 : Int, v = (Value.int .i64 (i17)) ∧
 Fin B h16 (Q (i9) (((i17 : Int) == (0)))))) ∧ (¬ ((i9 : Int) < ((n2 : Nat))) →
 Fin B h10 (Q (i9) (false)))
def S_slices_BinarySearchFunc_s_draft_entry_string_draft_entry_string_int (B : RO) (a1 : Option Addr) (n2 : Nat) (c3 : Nat) (i4 : Int) (v5 : Value) (h : Heap) (Q : Int → Bool → Heap → Prop) : Prop :=
 ∃ (J24 : Int → Int → Nat → Heap → Prop) (m22 : Nat), Fin B h (J24 (0) ((n2 : Nat)) m22) ∧
 ∀ (i18 : Int) (i19 : Int) (m21 : Nat) (h20 : Heap), J24 i18 i19 m21 h20 →
 ((i18 : Int) < (i19) →
 ¬ ((1 : Int) < 0) ∧
 ∃ A26 : Addr, a1 = some A26 ∧ 0 ≤ (IntKind.wrap .i64 (Int.fdiv (IntKind.wrap .u64 (IntKind.wrap .i64 ((i18) + (i19)))) (2 ^ (min (Int.toNat (1)) (IntKind.bits .u64)))) : Int) ∧ (IntKind.wrap .i64 (Int.fdiv (IntKind.wrap .u64 (IntKind.wrap .i64 ((i18) + (i19)))) (2 ^ (min (Int.toNat (1)) (IntKind.bits .u64)))) : Int) < (n2 : Nat) ∧
 ∃ i28 : Int, ∃ s29 : ByteArray, CellsAt B h20 (Addr.add A26 (Int.toNat (IntKind.wrap .i64 (Int.fdiv (IntKind.wrap .u64 (IntKind.wrap .i64 ((i18) + (i19)))) (2 ^ (min (Int.toNat (1)) (IntKind.bits .u64))))) * 2)) 0 [(Value.int .i64 (i28)), (Value.string s29)] ∧
 CallV PG B v5 [(Value.agg #[(Value.int .i64 (i28)), (Value.string s29)]), (Value.int .i64 (i4))] h20 (fun v h30 => ∃ i31 : Int, v = (Value.int .i64 (i31)) ∧
 ((i31 : Int) < (0) →
 Fin B h30 (fun h' => ∃ m', m' < m21 ∧ J24 (IntKind.wrap .i64 ((IntKind.wrap .i64 (Int.fdiv (IntKind.wrap .u64 (IntKind.wrap .i64 ((i18) + (i19)))) (2 ^ (min (Int.toNat (1)) (IntKind.bits .u64))))) + (1))) (i19) m' h')) ∧ (¬ ((i31 : Int) < (0)) →
 Fin B h30 (fun h' => ∃ m', m' < m21 ∧ J24 (i18) (IntKind.wrap .i64 (Int.fdiv (IntKind.wrap .u64 (IntKind.wrap .i64 ((i18) + (i19)))) (2 ^ (min (Int.toNat (1)) (IntKind.bits .u64))))) m' h')))) ∧ (¬ ((i18 : Int) < (i19)) →
 Fin B h20 (fun h' => S_slices_BinarySearchFunc_s_draft_entry_string_draft_entry_string_int_J1 B a1 n2 c3 i4 v5 (i18) h' Q))
def S_draft_by_string (B : RO) (i1 : Int) (s2 : ByteArray) (i3 : Int) (h : Heap) (Q : Int → Heap → Prop) : Prop :=
 ∀ k5 : Nat, h k5 = none → B k5 = none → ∀ h6 : Heap, h6 = Heap.set h k5 (.vec 176 (plains [(Value.int .i64 (i1)), (Value.string s2)]) 2) →
 ∃ i7 : Int, cellH B h6 ⟨k5, 0, none⟩ = some (Value.int .i64 (i7)) ∧
 ((i7 : Int) < (i3) →
 Fin B h6 (Q ((-1)))) ∧ (¬ ((i7 : Int) < (i3)) →
 ∃ i9 : Int, cellH B h6 ⟨k5, 0, none⟩ = some (Value.int .i64 (i9)) ∧
 ((i9 : Int) > (i3) →
 Fin B h6 (Q (1))) ∧ (¬ ((i9 : Int) > (i3)) →
 Fin B h6 (Q (0))))
def S_slices_rotateRight_draft_entry_string (B : RO) (a1 : Option Addr) (n2 : Nat) (c3 : Nat) (i4 : Int) (h : Heap) (Q : Heap → Prop) : Prop :=
 C_slices_rotateLeft_draft_entry_string B a1 n2 c3 (IntKind.wrap .i64 (((n2 : Nat)) - (i4))) h (fun h5 =>
 Fin B h5 (Q))
def S_slices_rotateLeft_draft_entry_int (B : RO) (a1 : Option Addr) (n2 : Nat) (c3 : Nat) (i4 : Int) (h : Heap) (Q : Heap → Prop) : Prop :=
 0 ≤ (0 : Int) ∧ (0 : Int) ≤ (i4 : Int) ∧ (i4 : Int) ≤ (c3 : Nat) ∧
 C_slices_Reverse_s_draft_entry_int_draft_entry_int B (if c3 = Int.toNat (0) then a1 else Option.map (·.add (Int.toNat (0) * 2)) a1) (Int.toNat (i4) - Int.toNat (0)) (c3 - Int.toNat (0)) h (fun h5 =>
 0 ≤ (i4 : Int) ∧ (i4 : Int) ≤ ((n2 : Nat) : Int) ∧ ((n2 : Nat) : Int) ≤ (c3 : Nat) ∧
 C_slices_Reverse_s_draft_entry_int_draft_entry_int B (if c3 = Int.toNat (i4) then a1 else Option.map (·.add (Int.toNat (i4) * 2)) a1) (Int.toNat ((n2 : Nat)) - Int.toNat (i4)) (c3 - Int.toNat (i4)) h5 (fun h6 =>
 C_slices_Reverse_s_draft_entry_int_draft_entry_int B a1 n2 c3 h6 (fun h7 =>
 Fin B h7 (Q))))
def S_slices_rotateLeft_draft_entry_string (B : RO) (a1 : Option Addr) (n2 : Nat) (c3 : Nat) (i4 : Int) (h : Heap) (Q : Heap → Prop) : Prop :=
 0 ≤ (0 : Int) ∧ (0 : Int) ≤ (i4 : Int) ∧ (i4 : Int) ≤ (c3 : Nat) ∧
 C_slices_Reverse_s_draft_entry_string_draft_entry_string B (if c3 = Int.toNat (0) then a1 else Option.map (·.add (Int.toNat (0) * 2)) a1) (Int.toNat (i4) - Int.toNat (0)) (c3 - Int.toNat (0)) h (fun h5 =>
 0 ≤ (i4 : Int) ∧ (i4 : Int) ≤ ((n2 : Nat) : Int) ∧ ((n2 : Nat) : Int) ≤ (c3 : Nat) ∧
 C_slices_Reverse_s_draft_entry_string_draft_entry_string B (if c3 = Int.toNat (i4) then a1 else Option.map (·.add (Int.toNat (i4) * 2)) a1) (Int.toNat ((n2 : Nat)) - Int.toNat (i4)) (c3 - Int.toNat (i4)) h5 (fun h6 =>
 C_slices_Reverse_s_draft_entry_string_draft_entry_string B a1 n2 c3 h6 (fun h7 =>
 Fin B h7 (Q))))
def S_slices_Reverse_s_draft_entry_int_draft_entry_int (B : RO) (a1 : Option Addr) (n2 : Nat) (c3 : Nat) (h : Heap) (Q : Heap → Prop) : Prop :=
 ∃ (J10 : Int → Int → Nat → Heap → Prop) (m8 : Nat), Fin B h (J10 (0) (IntKind.wrap .i64 (((n2 : Nat)) - (1))) m8) ∧
 ∀ (i4 : Int) (i5 : Int) (m7 : Nat) (h6 : Heap), J10 i4 i5 m7 h6 →
 ((i4 : Int) < (i5) →
 ∃ A18 : Addr, a1 = some A18 ∧ 0 ≤ (i5 : Int) ∧ (i5 : Int) < (n2 : Nat) ∧
 ∃ i23 : Int, ∃ i24 : Int, CellsAt B h6 (Addr.add A18 (Int.toNat (i5) * 2)) 0 [(Value.int .i64 (i23)), (Value.int .i64 (i24))] ∧
 ∃ A28 : Addr, a1 = some A28 ∧ 0 ≤ (i4 : Int) ∧ (i4 : Int) < (n2 : Nat) ∧
 ∃ i33 : Int, ∃ i34 : Int, CellsAt B h6 (Addr.add A28 (Int.toNat (i4) * 2)) 0 [(Value.int .i64 (i33)), (Value.int .i64 (i34))] ∧
 ∃ A36 : Addr, a1 = some A36 ∧ 0 ≤ (i4 : Int) ∧ (i4 : Int) < (n2 : Nat) ∧
 ∃ h41 : Heap, StoresAt (Addr.add A36 (Int.toNat (i4) * 2)) h6 0 [(Value.int .i64 (i23)), (Value.int .i64 (i24))] h41 ∧
 CellsAt B h41 (Addr.add A18 (Int.toNat (i5) * 2)) 0 [(Value.int .i64 (i23)), (Value.int .i64 (i24))] ∧ CellsAt B h41 (Addr.add A28 (Int.toNat (i4) * 2)) 0 [(Value.int .i64 (i33)), (Value.int .i64 (i34))] ∧
 ∃ A44 : Addr, a1 = some A44 ∧ 0 ≤ (i5 : Int) ∧ (i5 : Int) < (n2 : Nat) ∧
 ∃ h46 : Heap, StoresAt (Addr.add A44 (Int.toNat (i5) * 2)) h41 0 [(Value.int .i64 (i33)), (Value.int .i64 (i34))] h46 ∧
 Fin B h46 (fun h' => ∃ m', m' < m7 ∧ J10 (IntKind.wrap .i64 ((i4) + (1))) (IntKind.wrap .i64 ((i5) - (1))) m' h')) ∧ (¬ ((i4 : Int) < (i5)) →
 Fin B h6 (Q))
def S_slices_Reverse_s_draft_entry_string_draft_entry_string (B : RO) (a1 : Option Addr) (n2 : Nat) (c3 : Nat) (h : Heap) (Q : Heap → Prop) : Prop :=
 ∃ (J10 : Int → Int → Nat → Heap → Prop) (m8 : Nat), Fin B h (J10 (0) (IntKind.wrap .i64 (((n2 : Nat)) - (1))) m8) ∧
 ∀ (i4 : Int) (i5 : Int) (m7 : Nat) (h6 : Heap), J10 i4 i5 m7 h6 →
 ((i4 : Int) < (i5) →
 ∃ A18 : Addr, a1 = some A18 ∧ 0 ≤ (i5 : Int) ∧ (i5 : Int) < (n2 : Nat) ∧
 ∃ i23 : Int, ∃ s24 : ByteArray, CellsAt B h6 (Addr.add A18 (Int.toNat (i5) * 2)) 0 [(Value.int .i64 (i23)), (Value.string s24)] ∧
 ∃ A28 : Addr, a1 = some A28 ∧ 0 ≤ (i4 : Int) ∧ (i4 : Int) < (n2 : Nat) ∧
 ∃ i33 : Int, ∃ s34 : ByteArray, CellsAt B h6 (Addr.add A28 (Int.toNat (i4) * 2)) 0 [(Value.int .i64 (i33)), (Value.string s34)] ∧
 ∃ A36 : Addr, a1 = some A36 ∧ 0 ≤ (i4 : Int) ∧ (i4 : Int) < (n2 : Nat) ∧
 ∃ h41 : Heap, StoresAt (Addr.add A36 (Int.toNat (i4) * 2)) h6 0 [(Value.int .i64 (i23)), (Value.string s24)] h41 ∧
 CellsAt B h41 (Addr.add A18 (Int.toNat (i5) * 2)) 0 [(Value.int .i64 (i23)), (Value.string s24)] ∧ CellsAt B h41 (Addr.add A28 (Int.toNat (i4) * 2)) 0 [(Value.int .i64 (i33)), (Value.string s34)] ∧
 ∃ A44 : Addr, a1 = some A44 ∧ 0 ≤ (i5 : Int) ∧ (i5 : Int) < (n2 : Nat) ∧
 ∃ h46 : Heap, StoresAt (Addr.add A44 (Int.toNat (i5) * 2)) h41 0 [(Value.int .i64 (i33)), (Value.string s34)] h46 ∧
 Fin B h46 (fun h' => ∃ m', m' < m7 ∧ J10 (IntKind.wrap .i64 ((i4) + (1))) (IntKind.wrap .i64 ((i5) - (1))) m' h')) ∧ (¬ ((i4 : Int) < (i5)) →
 Fin B h6 (Q))
end Go.Proofs.Ytoajfmmomgpjcaa.H
