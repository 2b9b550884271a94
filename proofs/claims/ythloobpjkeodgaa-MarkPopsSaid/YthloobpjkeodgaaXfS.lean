/- What each function asks. No condition. -/
import Derived.Test.YthloobpjkeodgaaXfF
namespace Go.Proofs.Ythloobpjkeodgaa.H
open Go
set_option linter.unusedVariables false
set_option maxRecDepth 100000

def S_countermandlaw17_MarkPops_J1 (B : RO) (h25 : Heap) (Q : Bool → Heap → Prop) : Prop :=
 C_mark_Stack_Clear B none h25 (fun h26 =>
 C_mark_Stack_Pop B none h26 (fun p28 p29 p30 i31 i32 i33 i34 i35 i36 i37 i38 i39 b40 h27 =>
 (b40 = true →
 ∀ k49 : Nat, h27 k49 = none → B k49 = none → ∀ h50 : Heap, h50 = Heap.set h27 k49 (.vec 151 (plains [(Value.pointer none), (Value.pointer none), (Value.pointer none), (Value.int .i64 (0)), (Value.int .i64 (0)), (Value.int .i64 (0)), (Value.int .i64 (0)), (Value.int .i64 (0)), (Value.int .i64 (0)), (Value.int .i64 (0)), (Value.int .i64 (0)), (Value.int .i64 (0))]) 12) →
 ∃ h51 : Heap, StoresAt ⟨k49, 0, none⟩ h50 0 [(Value.pointer p28), (Value.pointer p29), (Value.pointer p30), (Value.int .i64 (i31)), (Value.int .i64 (i32)), (Value.int .i64 (i33)), (Value.int .i64 (i34)), (Value.int .i64 (i35)), (Value.int .i64 (i36)), (Value.int .i64 (i37)), (Value.int .i64 (i38)), (Value.int .i64 (i39))] h51 ∧
 Fin B h51 (Q (false))) ∧ (b40 = false →
 ∀ k41 : Nat, h27 k41 = none → B k41 = none → ∀ h42 : Heap, h42 = Heap.set h27 k41 (.vec 151 (plains [(Value.pointer none), (Value.pointer none), (Value.pointer none), (Value.int .i64 (0)), (Value.int .i64 (0)), (Value.int .i64 (0)), (Value.int .i64 (0)), (Value.int .i64 (0)), (Value.int .i64 (0)), (Value.int .i64 (0)), (Value.int .i64 (0)), (Value.int .i64 (0))]) 12) →
 ∃ h43 : Heap, StoresAt ⟨k41, 0, none⟩ h42 0 [(Value.pointer p28), (Value.pointer p29), (Value.pointer p30), (Value.int .i64 (i31)), (Value.int .i64 (i32)), (Value.int .i64 (i33)), (Value.int .i64 (i34)), (Value.int .i64 (i35)), (Value.int .i64 (i36)), (Value.int .i64 (i37)), (Value.int .i64 (i38)), (Value.int .i64 (i39))] h43 ∧
 C_mark_Stack_Len B none h43 (fun i45 h44 =>
 ((i45 : Int) = 0 →
 C_mark_Stack_Push B none none none none (0) (0) (0) (0) (0) (0) (0) (0) (0) h44 (fun b48 h47 =>
 Fin B h47 (Q ((!b48))))) ∧ (¬ ((i45 : Int) = 0) →
 Fin B h44 (Q (false)))))))
def S_countermandlaw17_MarkPops_J2 (B : RO) (a1 : Option Addr) (n2 : Nat) (c3 : Nat) (k8 : Nat) (k18 : Nat) (k21 : Nat) (i55 : Int) (m57 : Nat) (J60 : Option Addr → Nat → Nat → Int → Nat → Heap → Prop) (a71 : Option Addr) (n72 : Nat) (c73 : Nat) (h74 : Heap) (Q : Bool → Heap → Prop) : Prop :=
 ∃ p75 : Option Addr, ∃ p76 : Option Addr, ∃ p77 : Option Addr, ∃ i78 : Int, ∃ i79 : Int, ∃ i80 : Int, ∃ i81 : Int, CellsAt B h74 ⟨k18, 0, none⟩ 0 [(Value.pointer p75), (Value.pointer p76), (Value.pointer p77), (Value.int .i64 (i78)), (Value.int .i64 (i79)), (Value.int .i64 (i80)), (Value.int .i64 (i81))] ∧
 ∃ a82 : Option Addr, ∃ n83 : Nat, ∃ c84 : Nat, ∃ i85 : Int, ∃ i86 : Int, CellsAt B h74 ⟨k21, 0, none⟩ 0 [(Value.slice a82 n83 c84), (Value.int .i64 (i85)), (Value.int .i64 (i86))] ∧
 C_countermandlaw17_same B p75 p76 p77 (i78) (i79) (i80) (i81) a82 n83 c84 (i85) (i86) h74 (fun b88 h87 =>
 (b88 = true →
 C_mark_Stack_Len B (some ⟨k8, 0, none⟩) h87 (fun i90 h89 =>
 ((i90 : Int) = (n72 : Nat) →
 Fin B h89 (fun h' => ∃ m', m' < m57 ∧ J60 a71 n72 c73 (IntKind.wrap .i64 ((i55) + (1))) m' h')) ∧ (¬ ((i90 : Int) = (n72 : Nat)) →
 Fin B h89 (Q (false))))) ∧ (b88 = false →
 Fin B h87 (Q (false))))
def S_countermandlaw17_MarkPops_J3 (B : RO) (a1 : Option Addr) (n2 : Nat) (c3 : Nat) (k8 : Nat) (k18 : Nat) (k21 : Nat) (a52 : Option Addr) (n53 : Nat) (c54 : Nat) (i55 : Int) (m57 : Nat) (J60 : Option Addr → Nat → Nat → Int → Nat → Heap → Prop) (k67 : Nat) (a100 : Option Addr) (n101 : Nat) (c102 : Nat) (i105 : Int) (i108 : Int) (a158 : Option Addr) (n159 : Nat) (c160 : Nat) (a161 : Option Addr) (n162 : Nat) (c163 : Nat) (h164 : Heap) (Q : Bool → Heap → Prop) : Prop :=
 semH PG B (Builtin.append_ #[142, 142] 142 #[(Value.slice a158 n159 c160), (Value.slice a161 n162 c163)]) h164 (fun v h168 => ∃ a169 : Option Addr, ∃ n170 : Nat, ∃ c171 : Nat, v = (Value.slice a169 n170 c171) ∧
 cellH B h168 ⟨k21, 0, none⟩ = some (Value.slice a100 n101 c102) ∧ cellH B h168 ⟨k67, 1, none⟩ = some (Value.int .i64 (i105)) ∧ cellH B h168 ⟨k67, 2, none⟩ = some (Value.int .i64 (i108)) ∧
 ∃ h175 : Heap, storeH h168 ⟨k21, 0, none⟩ (Value.slice a169 n170 c171) = some h175 ∧
 Fin B h175 (fun h' => S_countermandlaw17_MarkPops_J2 B a1 n2 c3 k8 k18 k21 i55 m57 J60 a52 n53 c54 h' Q))
def S_countermandlaw17_MarkPops_J4 (B : RO) (a1 : Option Addr) (n2 : Nat) (c3 : Nat) (k8 : Nat) (k18 : Nat) (k21 : Nat) (a52 : Option Addr) (n53 : Nat) (c54 : Nat) (i55 : Int) (m57 : Nat) (J60 : Option Addr → Nat → Nat → Int → Nat → Heap → Prop) (k293 : Nat) (k305 : Nat) (b309 : Bool) (h310 : Heap) (Q : Bool → Heap → Prop) : Prop :=
 (b309 = true →
 Fin B h310 (Q (false))) ∧ (b309 = false →
 ∃ p311 : Option Addr, ∃ p312 : Option Addr, ∃ p313 : Option Addr, ∃ i314 : Int, ∃ i315 : Int, ∃ i316 : Int, ∃ i317 : Int, CellsAt B h310 ⟨k293, 0, none⟩ 0 [(Value.pointer p311), (Value.pointer p312), (Value.pointer p313), (Value.int .i64 (i314)), (Value.int .i64 (i315)), (Value.int .i64 (i316)), (Value.int .i64 (i317))] ∧
 ∃ h318 : Heap, StoresAt ⟨k18, 0, none⟩ h310 0 [(Value.pointer p311), (Value.pointer p312), (Value.pointer p313), (Value.int .i64 (i314)), (Value.int .i64 (i315)), (Value.int .i64 (i316)), (Value.int .i64 (i317))] h318 ∧
 ∃ a319 : Option Addr, ∃ n320 : Nat, ∃ c321 : Nat, ∃ i322 : Int, ∃ i323 : Int, CellsAt B h318 ⟨k305, 0, none⟩ 0 [(Value.slice a319 n320 c321), (Value.int .i64 (i322)), (Value.int .i64 (i323))] ∧
 ∃ h324 : Heap, StoresAt ⟨k21, 0, none⟩ h318 0 [(Value.slice a319 n320 c321), (Value.int .i64 (i322)), (Value.int .i64 (i323))] h324 ∧
 Fin B h324 (fun h' => S_countermandlaw17_MarkPops_J2 B a1 n2 c3 k8 k18 k21 i55 m57 J60 (if c54 = Int.toNat (0) then a52 else Option.map (·.add (Int.toNat (0) * 4)) a52) (Int.toNat (IntKind.wrap .i64 (((n53 : Nat)) - (1))) - Int.toNat (0)) (c54 - Int.toNat (0)) h' Q))
def S_countermandlaw17_MarkPops (B : RO) (a1 : Option Addr) (n2 : Nat) (c3 : Nat) (h : Heap) (Q : Bool → Heap → Prop) : Prop :=
 C_countermandlaw17_alive B h (fun b6 h5 =>
 (b6 = true →
 (((n2 : Nat) : Int) > (80) →
 Fin B h5 (Q (true))) ∧ (¬ (((n2 : Nat) : Int) > (80)) →
 ∀ k8 : Nat, h5 k8 = none → B k8 = none → ∀ h9 : Heap, h9 = Heap.set h5 k8 (.vec 134 (plains [(Value.slice none 0 0)]) 1) →
 C_mark_Fresh B (0) (0) (0) (0) h9 (fun p11 p12 p13 i14 i15 i16 i17 h10 =>
 ∀ k18 : Nat, h10 k18 = none → B k18 = none → ∀ h19 : Heap, h19 = Heap.set h10 k18 (.vec 140 (plains [(Value.pointer none), (Value.pointer none), (Value.pointer none), (Value.int .i64 (0)), (Value.int .i64 (0)), (Value.int .i64 (0)), (Value.int .i64 (0))]) 7) →
 ∃ h20 : Heap, StoresAt ⟨k18, 0, none⟩ h19 0 [(Value.pointer p11), (Value.pointer p12), (Value.pointer p13), (Value.int .i64 (i14)), (Value.int .i64 (i15)), (Value.int .i64 (i16)), (Value.int .i64 (i17))] h20 ∧
 ∀ k21 : Nat, h20 k21 = none → B k21 = none → ∀ h22 : Heap, h22 = Heap.set h20 k21 (.vec 144 (plains [(Value.slice none 0 0), (Value.int .i64 (0)), (Value.int .i64 (0))]) 3) →
 ∃ h23 : Heap, StoresAt ⟨k21, 0, none⟩ h22 0 [(Value.slice none 0 0), (Value.int .i64 (0)), (Value.int .i64 (0))] h23 ∧
 ∃ (J60 : Option Addr → Nat → Nat → Int → Nat → Heap → Prop) (m58 : Nat), Fin B h23 (J60 none 0 0 (0) m58) ∧
 ∀ (a52 : Option Addr) (n53 : Nat) (c54 : Nat) (i55 : Int) (m57 : Nat) (h56 : Heap), J60 a52 n53 c54 i55 m57 h56 →
 ((i55 : Int) < ((n2 : Nat)) →
 ∃ A62 : Addr, a1 = some A62 ∧ 0 ≤ (i55 : Int) ∧ (i55 : Int) < (n2 : Nat) ∧
 ∃ i64 : Int, ∃ i65 : Int, ∃ i66 : Int, CellsAt B h56 (Addr.add A62 (Int.toNat (i55) * 3)) 0 [(Value.int .i64 (i64)), (Value.int .i64 (i65)), (Value.int .i64 (i66))] ∧
 ∀ k67 : Nat, h56 k67 = none → B k67 = none → ∀ h68 : Heap, h68 = Heap.set h56 k67 (.vec 146 (plains [(Value.int .i64 (0)), (Value.int .i64 (0)), (Value.int .i64 (0))]) 3) →
 ∃ h69 : Heap, StoresAt ⟨k67, 0, none⟩ h68 0 [(Value.int .i64 (i64)), (Value.int .i64 (i65)), (Value.int .i64 (i66))] h69 ∧
 ∃ i92 : Int, cellH B h69 ⟨k67, 0, none⟩ = some (Value.int .i64 (i92)) ∧
 ((i92 : Int) = 0 →
 ∃ p94 : Option Addr, cellH B h69 ⟨k18, 0, none⟩ = some (Value.pointer p94) ∧
 ∃ i95 : Int, cellH B h69 ⟨k67, 1, none⟩ = some (Value.int .i64 (i95)) ∧
 ∃ i96 : Int, cellH B h69 ⟨k67, 2, none⟩ = some (Value.int .i64 (i96)) ∧
 C_draft_Draft_int_Put B p94 (i95) (i96) h69 (fun b98 h97 =>
 ∃ a100 : Option Addr, ∃ n101 : Nat, ∃ c102 : Nat, cellH B h97 ⟨k21, 0, none⟩ = some (Value.slice a100 n101 c102) ∧
 ∃ i105 : Int, cellH B h97 ⟨k67, 1, none⟩ = some (Value.int .i64 (i105)) ∧
 ∃ i108 : Int, cellH B h97 ⟨k67, 2, none⟩ = some (Value.int .i64 (i108)) ∧
 (∀ k176 : Nat, h97 k176 = none → B k176 = none → ∀ h177 : Heap, h177 = Heap.set h97 k176 (.vec 148 [] 0) →
 cellH B h177 ⟨k21, 0, none⟩ = some (Value.slice a100 n101 c102) ∧ cellH B h177 ⟨k67, 1, none⟩ = some (Value.int .i64 (i105)) ∧ cellH B h177 ⟨k67, 2, none⟩ = some (Value.int .i64 (i108)) ∧
 (semH PG B (Builtin.append_ #[142, 142] 142 #[(Value.slice (some ⟨k176, 0, none⟩) 0 0), (Value.slice a100 n101 c102)]) h177 (fun v h181 => ∃ a182 : Option Addr, ∃ n183 : Nat, ∃ c184 : Nat, v = (Value.slice a182 n183 c184) ∧
 cellH B h181 ⟨k21, 0, none⟩ = some (Value.slice a100 n101 c102) ∧ cellH B h181 ⟨k67, 1, none⟩ = some (Value.int .i64 (i105)) ∧ cellH B h181 ⟨k67, 2, none⟩ = some (Value.int .i64 (i108)) ∧
 ∀ k188 : Nat, h181 k188 = none → B k188 = none → ∀ h189 : Heap, h189 = Heap.set h181 k188 (.vec 148 (plains [(Value.int .i64 (i105)), (Value.int .i64 (i108))]) 2) →
 cellH B h189 ⟨k21, 0, none⟩ = some (Value.slice a100 n101 c102) ∧ cellH B h189 ⟨k67, 1, none⟩ = some (Value.int .i64 (i105)) ∧ cellH B h189 ⟨k67, 2, none⟩ = some (Value.int .i64 (i108)) ∧
 S_countermandlaw17_MarkPops_J3 B a1 n2 c3 k8 k18 k21 a52 n53 c54 i55 m57 J60 k67 a100 n101 c102 i105 i108 a182 n183 c184 (some ⟨k188, 0, none⟩) 1 1 h189 Q)) ∧
 (∀ k193 : Nat, h177 k193 = none → B k193 = none → ∀ h194 : Heap, h194 = Heap.set h177 k193 (.vec 148 (plains [(Value.int .i64 (i105)), (Value.int .i64 (i108))]) 2) →
 cellH B h194 ⟨k21, 0, none⟩ = some (Value.slice a100 n101 c102) ∧ cellH B h194 ⟨k67, 1, none⟩ = some (Value.int .i64 (i105)) ∧ cellH B h194 ⟨k67, 2, none⟩ = some (Value.int .i64 (i108)) ∧
 semH PG B (Builtin.append_ #[142, 142] 142 #[(Value.slice (some ⟨k176, 0, none⟩) 0 0), (Value.slice a100 n101 c102)]) h194 (fun v h198 => ∃ a199 : Option Addr, ∃ n200 : Nat, ∃ c201 : Nat, v = (Value.slice a199 n200 c201) ∧
 cellH B h198 ⟨k21, 0, none⟩ = some (Value.slice a100 n101 c102) ∧ cellH B h198 ⟨k67, 1, none⟩ = some (Value.int .i64 (i105)) ∧ cellH B h198 ⟨k67, 2, none⟩ = some (Value.int .i64 (i108)) ∧
 S_countermandlaw17_MarkPops_J3 B a1 n2 c3 k8 k18 k21 a52 n53 c54 i55 m57 J60 k67 a100 n101 c102 i105 i108 a199 n200 c201 (some ⟨k193, 0, none⟩) 1 1 h198 Q))) ∧
 (∀ k205 : Nat, h97 k205 = none → B k205 = none → ∀ h206 : Heap, h206 = Heap.set h97 k205 (.vec 148 (plains [(Value.int .i64 (i105)), (Value.int .i64 (i108))]) 2) →
 cellH B h206 ⟨k21, 0, none⟩ = some (Value.slice a100 n101 c102) ∧ cellH B h206 ⟨k67, 1, none⟩ = some (Value.int .i64 (i105)) ∧ cellH B h206 ⟨k67, 2, none⟩ = some (Value.int .i64 (i108)) ∧
 ∀ k210 : Nat, h206 k210 = none → B k210 = none → ∀ h211 : Heap, h211 = Heap.set h206 k210 (.vec 148 [] 0) →
 cellH B h211 ⟨k21, 0, none⟩ = some (Value.slice a100 n101 c102) ∧ cellH B h211 ⟨k67, 1, none⟩ = some (Value.int .i64 (i105)) ∧ cellH B h211 ⟨k67, 2, none⟩ = some (Value.int .i64 (i108)) ∧
 semH PG B (Builtin.append_ #[142, 142] 142 #[(Value.slice (some ⟨k210, 0, none⟩) 0 0), (Value.slice a100 n101 c102)]) h211 (fun v h215 => ∃ a216 : Option Addr, ∃ n217 : Nat, ∃ c218 : Nat, v = (Value.slice a216 n217 c218) ∧
 cellH B h215 ⟨k21, 0, none⟩ = some (Value.slice a100 n101 c102) ∧ cellH B h215 ⟨k67, 1, none⟩ = some (Value.int .i64 (i105)) ∧ cellH B h215 ⟨k67, 2, none⟩ = some (Value.int .i64 (i108)) ∧
 S_countermandlaw17_MarkPops_J3 B a1 n2 c3 k8 k18 k21 a52 n53 c54 i55 m57 J60 k67 a100 n101 c102 i105 i108 a216 n217 c218 (some ⟨k205, 0, none⟩) 1 1 h215 Q)))) ∧ (¬ ((i92 : Int) = 0) →
 ((i92 : Int) = 1 →
 ∃ p223 : Option Addr, cellH B h69 ⟨k18, 2, none⟩ = some (Value.pointer p223) ∧
 C_cursor_Cursor_Step B p223 (0) h69 (fun b225 h224 =>
 (b225 = true →
 ∃ i226 : Int, cellH B h224 ⟨k21, 1, none⟩ = some (Value.int .i64 (i226)) ∧
 ∃ h227 : Heap, storeH h224 ⟨k21, 1, none⟩ (Value.int .i64 (IntKind.wrap .i64 ((i226) + (1)))) = some h227 ∧
 Fin B h227 (fun h' => S_countermandlaw17_MarkPops_J2 B a1 n2 c3 k8 k18 k21 i55 m57 J60 a52 n53 c54 h' Q)) ∧ (b225 = false →
 Fin B h224 (fun h' => S_countermandlaw17_MarkPops_J2 B a1 n2 c3 k8 k18 k21 i55 m57 J60 a52 n53 c54 h' Q)))) ∧ (¬ ((i92 : Int) = 1) →
 ((i92 : Int) = 2 →
 ∃ i229 : Int, cellH B h69 ⟨k67, 1, none⟩ = some (Value.int .i64 (i229)) ∧
 0 ≤ (0 : Int) ∧ (0 : Int) < (4 : Nat) ∧
 ∃ h230 : Heap, storeH h69 ⟨k18, 3, none⟩ (Value.int .i64 (i229)) = some h230 ∧
 ∃ i231 : Int, cellH B h230 ⟨k67, 1, none⟩ = some (Value.int .i64 (i231)) ∧
 ∃ h232 : Heap, storeH h230 ⟨k21, 2, none⟩ (Value.int .i64 (i231)) = some h232 ∧
 Fin B h232 (fun h' => S_countermandlaw17_MarkPops_J2 B a1 n2 c3 k8 k18 k21 i55 m57 J60 a52 n53 c54 h' Q)) ∧ (¬ ((i92 : Int) = 2) →
 ((i92 : Int) = 3 →
 ∃ p234 : Option Addr, ∃ p235 : Option Addr, ∃ p236 : Option Addr, ∃ i237 : Int, ∃ i238 : Int, ∃ i239 : Int, ∃ i240 : Int, CellsAt B h69 ⟨k18, 0, none⟩ 0 [(Value.pointer p234), (Value.pointer p235), (Value.pointer p236), (Value.int .i64 (i237)), (Value.int .i64 (i238)), (Value.int .i64 (i239)), (Value.int .i64 (i240))] ∧
 ∃ i241 : Int, cellH B h69 ⟨k67, 2, none⟩ = some (Value.int .i64 (i241)) ∧
 ∃ i242 : Int, cellH B h69 ⟨k67, 1, none⟩ = some (Value.int .i64 (i242)) ∧
 ∃ i243 : Int, cellH B h69 ⟨k67, 1, none⟩ = some (Value.int .i64 (i243)) ∧
 C_mark_Stack_Push B (some ⟨k8, 0, none⟩) p234 p235 p236 (i237) (i238) (i239) (i240) (i241) (i242) (0) (0) (i243) h69 (fun b245 h244 =>
 ∃ a247 : Option Addr, ∃ n248 : Nat, ∃ c249 : Nat, ∃ i250 : Int, ∃ i251 : Int, CellsAt B h244 ⟨k21, 0, none⟩ 0 [(Value.slice a247 n248 c249), (Value.int .i64 (i250)), (Value.int .i64 (i251))] ∧
 ∃ i254 : Int, cellH B h244 ⟨k67, 1, none⟩ = some (Value.int .i64 (i254)) ∧
 C_countermandref17_Copy B a247 n248 c249 (i250) (i251) h244 (fun a257 n258 c259 i260 i261 h256 =>
 CellsAt B h256 ⟨k21, 0, none⟩ 0 [(Value.slice a247 n248 c249), (Value.int .i64 (i250)), (Value.int .i64 (i251))] ∧ cellH B h256 ⟨k67, 1, none⟩ = some (Value.int .i64 (i254)) ∧
 ∀ k264 : Nat, h256 k264 = none → B k264 = none → ∀ h265 : Heap, h265 = Heap.set h256 k264 (.vec 154 (plains [(Value.slice a257 n258 c259), (Value.int .i64 (i260)), (Value.int .i64 (i261)), (Value.int .i64 (i254))]) 4) →
 CellsAt B h265 ⟨k21, 0, none⟩ 0 [(Value.slice a247 n248 c249), (Value.int .i64 (i250)), (Value.int .i64 (i251))] ∧ cellH B h265 ⟨k67, 1, none⟩ = some (Value.int .i64 (i254)) ∧
 semH PG B (Builtin.append_ #[145, 145] 145 #[(Value.slice a52 n53 c54), (Value.slice (some ⟨k264, 0, none⟩) 1 1)]) h265 (fun v h268 => ∃ a269 : Option Addr, ∃ n270 : Nat, ∃ c271 : Nat, v = (Value.slice a269 n270 c271) ∧
 CellsAt B h268 ⟨k21, 0, none⟩ 0 [(Value.slice a247 n248 c249), (Value.int .i64 (i250)), (Value.int .i64 (i251))] ∧ cellH B h268 ⟨k67, 1, none⟩ = some (Value.int .i64 (i254)) ∧
 Fin B h268 (fun h' => S_countermandlaw17_MarkPops_J2 B a1 n2 c3 k8 k18 k21 i55 m57 J60 a269 n270 c271 h' Q))))) ∧ (¬ ((i92 : Int) = 3) →
 ((i92 : Int) = 4 →
 C_mark_Stack_Pop B (some ⟨k8, 0, none⟩) h69 (fun p276 p277 p278 i279 i280 i281 i282 i283 i284 i285 i286 i287 b288 h275 =>
 (b288 = true →
 ∀ k293 : Nat, h275 k293 = none → B k293 = none → ∀ h294 : Heap, h294 = Heap.set h275 k293 (.vec 151 (plains [(Value.pointer none), (Value.pointer none), (Value.pointer none), (Value.int .i64 (0)), (Value.int .i64 (0)), (Value.int .i64 (0)), (Value.int .i64 (0)), (Value.int .i64 (0)), (Value.int .i64 (0)), (Value.int .i64 (0)), (Value.int .i64 (0)), (Value.int .i64 (0))]) 12) →
 ∃ h295 : Heap, StoresAt ⟨k293, 0, none⟩ h294 0 [(Value.pointer p276), (Value.pointer p277), (Value.pointer p278), (Value.int .i64 (i279)), (Value.int .i64 (i280)), (Value.int .i64 (i281)), (Value.int .i64 (i282)), (Value.int .i64 (i283)), (Value.int .i64 (i284)), (Value.int .i64 (i285)), (Value.int .i64 (i286)), (Value.int .i64 (i287))] h295 ∧
 (true = (decide (((n53 : Nat) : Int) > (0))) →
 ∃ A297 : Addr, a52 = some A297 ∧ 0 ≤ (IntKind.wrap .i64 (((n53 : Nat)) - (1)) : Int) ∧ (IntKind.wrap .i64 (((n53 : Nat)) - (1)) : Int) < (n53 : Nat) ∧
 ∃ a299 : Option Addr, ∃ n300 : Nat, ∃ c301 : Nat, ∃ i302 : Int, ∃ i303 : Int, ∃ i304 : Int, CellsAt B h295 (Addr.add A297 (Int.toNat (IntKind.wrap .i64 (((n53 : Nat)) - (1))) * 4)) 0 [(Value.slice a299 n300 c301), (Value.int .i64 (i302)), (Value.int .i64 (i303)), (Value.int .i64 (i304))] ∧
 ∀ k305 : Nat, h295 k305 = none → B k305 = none → ∀ h306 : Heap, h306 = Heap.set h295 k305 (.vec 154 (plains [(Value.slice none 0 0), (Value.int .i64 (0)), (Value.int .i64 (0)), (Value.int .i64 (0))]) 4) →
 ∃ h307 : Heap, StoresAt ⟨k305, 0, none⟩ h306 0 [(Value.slice a299 n300 c301), (Value.int .i64 (i302)), (Value.int .i64 (i303)), (Value.int .i64 (i304))] h307 ∧
 0 ≤ (0 : Int) ∧ (0 : Int) ≤ (IntKind.wrap .i64 (((n53 : Nat)) - (1)) : Int) ∧ (IntKind.wrap .i64 (((n53 : Nat)) - (1)) : Int) ≤ (c54 : Nat) ∧
 ∃ i325 : Int, cellH B h307 ⟨k293, 11, none⟩ = some (Value.int .i64 (i325)) ∧
 ∃ i326 : Int, cellH B h307 ⟨k305, 3, none⟩ = some (Value.int .i64 (i326)) ∧
 ((i325 : Int) = i326 →
 0 ≤ (1 : Int) ∧ (1 : Int) < (4 : Nat) ∧
 ∃ i328 : Int, cellH B h307 ⟨k293, 8, none⟩ = some (Value.int .i64 (i328)) ∧
 ∃ i329 : Int, cellH B h307 ⟨k305, 3, none⟩ = some (Value.int .i64 (i329)) ∧
 ((i328 : Int) = i329 →
 ∃ p331 : Option Addr, ∃ p332 : Option Addr, ∃ p333 : Option Addr, ∃ i334 : Int, ∃ i335 : Int, ∃ i336 : Int, ∃ i337 : Int, CellsAt B h307 ⟨k293, 0, none⟩ 0 [(Value.pointer p331), (Value.pointer p332), (Value.pointer p333), (Value.int .i64 (i334)), (Value.int .i64 (i335)), (Value.int .i64 (i336)), (Value.int .i64 (i337))] ∧
 ∃ a338 : Option Addr, ∃ n339 : Nat, ∃ c340 : Nat, ∃ i341 : Int, ∃ i342 : Int, CellsAt B h307 ⟨k305, 0, none⟩ 0 [(Value.slice a338 n339 c340), (Value.int .i64 (i341)), (Value.int .i64 (i342))] ∧
 C_countermandlaw17_same B p331 p332 p333 (i334) (i335) (i336) (i337) a338 n339 c340 (i341) (i342) h307 (fun b344 h343 =>
 (b344 = true →
 Fin B h343 (fun h' => S_countermandlaw17_MarkPops_J4 B a1 n2 c3 k8 k18 k21 a52 n53 c54 i55 m57 J60 k293 k305 (false) h' Q)) ∧ (b344 = false →
 Fin B h343 (fun h' => S_countermandlaw17_MarkPops_J4 B a1 n2 c3 k8 k18 k21 a52 n53 c54 i55 m57 J60 k293 k305 (true) h' Q)))) ∧ (¬ ((i328 : Int) = i329) →
 Fin B h307 (fun h' => S_countermandlaw17_MarkPops_J4 B a1 n2 c3 k8 k18 k21 a52 n53 c54 i55 m57 J60 k293 k305 (true) h' Q))) ∧ (¬ ((i325 : Int) = i326) →
 Fin B h307 (fun h' => S_countermandlaw17_MarkPops_J4 B a1 n2 c3 k8 k18 k21 a52 n53 c54 i55 m57 J60 k293 k305 (true) h' Q))) ∧ (¬ (true = (decide (((n53 : Nat) : Int) > (0)))) →
 Fin B h295 (Q (false)))) ∧ (b288 = false →
 ∀ k289 : Nat, h275 k289 = none → B k289 = none → ∀ h290 : Heap, h290 = Heap.set h275 k289 (.vec 151 (plains [(Value.pointer none), (Value.pointer none), (Value.pointer none), (Value.int .i64 (0)), (Value.int .i64 (0)), (Value.int .i64 (0)), (Value.int .i64 (0)), (Value.int .i64 (0)), (Value.int .i64 (0)), (Value.int .i64 (0)), (Value.int .i64 (0)), (Value.int .i64 (0))]) 12) →
 ∃ h291 : Heap, StoresAt ⟨k289, 0, none⟩ h290 0 [(Value.pointer p276), (Value.pointer p277), (Value.pointer p278), (Value.int .i64 (i279)), (Value.int .i64 (i280)), (Value.int .i64 (i281)), (Value.int .i64 (i282)), (Value.int .i64 (i283)), (Value.int .i64 (i284)), (Value.int .i64 (i285)), (Value.int .i64 (i286)), (Value.int .i64 (i287))] h291 ∧
 (false = (decide (((n53 : Nat) : Int) > (0))) →
 Fin B h291 (fun h' => ∃ m', m' < m57 ∧ J60 a52 n53 c54 (IntKind.wrap .i64 ((i55) + (1))) m' h')) ∧ (¬ (false = (decide (((n53 : Nat) : Int) > (0)))) →
 Fin B h291 (Q (false)))))) ∧ (¬ ((i92 : Int) = 4) →
 ((i92 : Int) = 5 →
 C_mark_Stack_Clear B (some ⟨k8, 0, none⟩) h69 (fun h346 =>
 Fin B h346 (fun h' => S_countermandlaw17_MarkPops_J2 B a1 n2 c3 k8 k18 k21 i55 m57 J60 none 0 0 h' Q))) ∧ (¬ ((i92 : Int) = 5) →
 Fin B h69 (fun h' => S_countermandlaw17_MarkPops_J2 B a1 n2 c3 k8 k18 k21 i55 m57 J60 a52 n53 c54 h' Q)))))))) ∧ (¬ ((i55 : Int) < ((n2 : Nat))) →
 Fin B h56 (fun h' => S_countermandlaw17_MarkPops_J1 B h' Q))))) ∧ (b6 = false →
 Fin B h5 (Q (false))))
def S_countermandlaw17_alive_J1 (B : RO) (k2 : Nat) (h16 : Heap) (Q : Bool → Heap → Prop) : Prop :=
 C_mark_Stack_Pop B (some ⟨k2, 0, none⟩) h16 (fun p18 p19 p20 i21 i22 i23 i24 i25 i26 i27 i28 i29 b30 h17 =>
 (b30 = true →
 ∀ k34 : Nat, h17 k34 = none → B k34 = none → ∀ h35 : Heap, h35 = Heap.set h17 k34 (.vec 151 (plains [(Value.pointer none), (Value.pointer none), (Value.pointer none), (Value.int .i64 (0)), (Value.int .i64 (0)), (Value.int .i64 (0)), (Value.int .i64 (0)), (Value.int .i64 (0)), (Value.int .i64 (0)), (Value.int .i64 (0)), (Value.int .i64 (0)), (Value.int .i64 (0))]) 12) →
 ∃ h36 : Heap, StoresAt ⟨k34, 0, none⟩ h35 0 [(Value.pointer p18), (Value.pointer p19), (Value.pointer p20), (Value.int .i64 (i21)), (Value.int .i64 (i22)), (Value.int .i64 (i23)), (Value.int .i64 (i24)), (Value.int .i64 (i25)), (Value.int .i64 (i26)), (Value.int .i64 (i27)), (Value.int .i64 (i28)), (Value.int .i64 (i29))] h36 ∧
 ∃ i37 : Int, cellH B h36 ⟨k34, 11, none⟩ = some (Value.int .i64 (i37)) ∧
 ((i37 : Int) = 5 →
 0 ≤ (0 : Int) ∧ (0 : Int) < (4 : Nat) ∧
 ∃ i39 : Int, cellH B h36 ⟨k34, 3, none⟩ = some (Value.int .i64 (i39)) ∧
 Fin B h36 (Q (((i39 : Int) == (1))))) ∧ (¬ ((i37 : Int) = 5) →
 Fin B h36 (Q (false)))) ∧ (b30 = false →
 ∀ k31 : Nat, h17 k31 = none → B k31 = none → ∀ h32 : Heap, h32 = Heap.set h17 k31 (.vec 151 (plains [(Value.pointer none), (Value.pointer none), (Value.pointer none), (Value.int .i64 (0)), (Value.int .i64 (0)), (Value.int .i64 (0)), (Value.int .i64 (0)), (Value.int .i64 (0)), (Value.int .i64 (0)), (Value.int .i64 (0)), (Value.int .i64 (0)), (Value.int .i64 (0))]) 12) →
 ∃ h33 : Heap, StoresAt ⟨k31, 0, none⟩ h32 0 [(Value.pointer p18), (Value.pointer p19), (Value.pointer p20), (Value.int .i64 (i21)), (Value.int .i64 (i22)), (Value.int .i64 (i23)), (Value.int .i64 (i24)), (Value.int .i64 (i25)), (Value.int .i64 (i26)), (Value.int .i64 (i27)), (Value.int .i64 (i28)), (Value.int .i64 (i29))] h33 ∧
 Fin B h33 (Q (false))))
def S_countermandlaw17_alive (B : RO) (h : Heap) (Q : Bool → Heap → Prop) : Prop :=
 ∀ k2 : Nat, h k2 = none → B k2 = none → ∀ h3 : Heap, h3 = Heap.set h k2 (.vec 134 (plains [(Value.slice none 0 0)]) 1) →
 C_mark_Fresh B (1) (0) (0) (0) h3 (fun p5 p6 p7 i8 i9 i10 i11 h4 =>
 ∀ k12 : Nat, h4 k12 = none → B k12 = none → ∀ h13 : Heap, h13 = Heap.set h4 k12 (.vec 140 (plains [(Value.pointer none), (Value.pointer none), (Value.pointer none), (Value.int .i64 (0)), (Value.int .i64 (0)), (Value.int .i64 (0)), (Value.int .i64 (0))]) 7) →
 ∃ h14 : Heap, StoresAt ⟨k12, 0, none⟩ h13 0 [(Value.pointer p5), (Value.pointer p6), (Value.pointer p7), (Value.int .i64 (i8)), (Value.int .i64 (i9)), (Value.int .i64 (i10)), (Value.int .i64 (i11))] h14 ∧
 ∃ p40 : Option Addr, ∃ p41 : Option Addr, ∃ p42 : Option Addr, ∃ i43 : Int, ∃ i44 : Int, ∃ i45 : Int, ∃ i46 : Int, CellsAt B h14 ⟨k12, 0, none⟩ 0 [(Value.pointer p40), (Value.pointer p41), (Value.pointer p42), (Value.int .i64 (i43)), (Value.int .i64 (i44)), (Value.int .i64 (i45)), (Value.int .i64 (i46))] ∧
 C_mark_Stack_Push B (some ⟨k2, 0, none⟩) p40 p41 p42 (i43) (i44) (i45) (i46) (0) (0) (0) (0) (5) h14 (fun b48 h47 =>
 (b48 = true →
 C_mark_Stack_Len B (some ⟨k2, 0, none⟩) h47 (fun i50 h49 =>
 ((i50 : Int) = 1 →
 Fin B h49 (fun h' => S_countermandlaw17_alive_J1 B k2 h' Q)) ∧ (¬ ((i50 : Int) = 1) →
 Fin B h49 (Q (false))))) ∧ (b48 = false →
 Fin B h47 (Q (false)))))
def S_mark_Fresh_J1 (B : RO) (k12 : Nat) (k14 : Nat) (i18 : Int) (i19 : Int) (i20 : Int) (i21 : Int) (A69 : Addr) (p70 : Option Addr) (A71 : Addr) (h72 : Heap) (Q : Option Addr → Option Addr → Option Addr → Int → Int → Int → Int → Heap → Prop) : Prop :=
 ∃ h74 : Heap, StoresAt ⟨k14, 0, none⟩ h72 0 [(Value.pointer (some A69)), (Value.pointer p70), (Value.pointer (some A71)), (Value.int .i64 (i18)), (Value.int .i64 (i19)), (Value.int .i64 (i20)), (Value.int .i64 (i21))] h74 ∧
 ∃ p75 : Option Addr, ∃ p76 : Option Addr, ∃ p77 : Option Addr, ∃ i78 : Int, ∃ i79 : Int, ∃ i80 : Int, ∃ i81 : Int, CellsAt B h74 ⟨k14, 0, none⟩ 0 [(Value.pointer p75), (Value.pointer p76), (Value.pointer p77), (Value.int .i64 (i78)), (Value.int .i64 (i79)), (Value.int .i64 (i80)), (Value.int .i64 (i81))] ∧ Fin B h74 (Q p75 p76 p77 (i78) (i79) (i80) (i81))
def S_mark_Fresh (B : RO) (i1 : Int) (i2 : Int) (i3 : Int) (i4 : Int) (h : Heap) (Q : Option Addr → Option Addr → Option Addr → Int → Int → Int → Int → Heap → Prop) : Prop :=
 ∀ k12 : Nat, h k12 = none → B k12 = none → ∀ h13 : Heap, h13 = Heap.set h k12 (.vec 138 (plains [(Value.int .i64 (i1)), (Value.int .i64 (i2)), (Value.int .i64 (i3)), (Value.int .i64 (i4))]) 4) →
 ∀ k14 : Nat, h13 k14 = none → B k14 = none → ∀ h15 : Heap, h15 = Heap.set h13 k14 (.vec 140 (plains [(Value.pointer none), (Value.pointer none), (Value.pointer none), (Value.int .i64 (0)), (Value.int .i64 (0)), (Value.int .i64 (0)), (Value.int .i64 (0))]) 7) →
 ∃ i18 : Int, ∃ i19 : Int, ∃ i20 : Int, ∃ i21 : Int, CellsAt B h15 ⟨k12, 0, none⟩ 0 [(Value.int .i64 (i18)), (Value.int .i64 (i19)), (Value.int .i64 (i20)), (Value.int .i64 (i21))] ∧
 (∀ k82 : Nat, h15 k82 = none → B k82 = none → ∀ h83 : Heap, h83 = Heap.set h15 k82 (.vec 220 (plains [(Value.slice none 0 0)]) 1) →
 CellsAt B h83 ⟨k12, 0, none⟩ 0 [(Value.int .i64 (i18)), (Value.int .i64 (i19)), (Value.int .i64 (i20)), (Value.int .i64 (i21))] ∧
 (C_sheet_New B h83 (fun p86 h85 =>
 CellsAt B h85 ⟨k12, 0, none⟩ 0 [(Value.int .i64 (i18)), (Value.int .i64 (i19)), (Value.int .i64 (i20)), (Value.int .i64 (i21))] ∧
 ∀ k88 : Nat, h85 k88 = none → B k88 = none → ∀ h89 : Heap, h89 = Heap.set h85 k88 (.vec 224 (plains [(Value.int .i64 (0)), (Value.int .i64 (0)), (Value.int .i64 (0))]) 3) →
 CellsAt B h89 ⟨k12, 0, none⟩ 0 [(Value.int .i64 (i18)), (Value.int .i64 (i19)), (Value.int .i64 (i20)), (Value.int .i64 (i21))] ∧
 S_mark_Fresh_J1 B k12 k14 i18 i19 i20 i21 ⟨k82, 0, none⟩ p86 ⟨k88, 0, none⟩ h89 Q)) ∧
 (∀ k91 : Nat, h83 k91 = none → B k91 = none → ∀ h92 : Heap, h92 = Heap.set h83 k91 (.vec 224 (plains [(Value.int .i64 (0)), (Value.int .i64 (0)), (Value.int .i64 (0))]) 3) →
 CellsAt B h92 ⟨k12, 0, none⟩ 0 [(Value.int .i64 (i18)), (Value.int .i64 (i19)), (Value.int .i64 (i20)), (Value.int .i64 (i21))] ∧
 C_sheet_New B h92 (fun p95 h94 =>
 CellsAt B h94 ⟨k12, 0, none⟩ 0 [(Value.int .i64 (i18)), (Value.int .i64 (i19)), (Value.int .i64 (i20)), (Value.int .i64 (i21))] ∧
 S_mark_Fresh_J1 B k12 k14 i18 i19 i20 i21 ⟨k82, 0, none⟩ p95 ⟨k91, 0, none⟩ h94 Q))) ∧
 (C_sheet_New B h15 (fun p98 h97 =>
 CellsAt B h97 ⟨k12, 0, none⟩ 0 [(Value.int .i64 (i18)), (Value.int .i64 (i19)), (Value.int .i64 (i20)), (Value.int .i64 (i21))] ∧
 (∀ k100 : Nat, h97 k100 = none → B k100 = none → ∀ h101 : Heap, h101 = Heap.set h97 k100 (.vec 220 (plains [(Value.slice none 0 0)]) 1) →
 CellsAt B h101 ⟨k12, 0, none⟩ 0 [(Value.int .i64 (i18)), (Value.int .i64 (i19)), (Value.int .i64 (i20)), (Value.int .i64 (i21))] ∧
 ∀ k103 : Nat, h101 k103 = none → B k103 = none → ∀ h104 : Heap, h104 = Heap.set h101 k103 (.vec 224 (plains [(Value.int .i64 (0)), (Value.int .i64 (0)), (Value.int .i64 (0))]) 3) →
 CellsAt B h104 ⟨k12, 0, none⟩ 0 [(Value.int .i64 (i18)), (Value.int .i64 (i19)), (Value.int .i64 (i20)), (Value.int .i64 (i21))] ∧
 S_mark_Fresh_J1 B k12 k14 i18 i19 i20 i21 ⟨k100, 0, none⟩ p98 ⟨k103, 0, none⟩ h104 Q) ∧
 (∀ k106 : Nat, h97 k106 = none → B k106 = none → ∀ h107 : Heap, h107 = Heap.set h97 k106 (.vec 224 (plains [(Value.int .i64 (0)), (Value.int .i64 (0)), (Value.int .i64 (0))]) 3) →
 CellsAt B h107 ⟨k12, 0, none⟩ 0 [(Value.int .i64 (i18)), (Value.int .i64 (i19)), (Value.int .i64 (i20)), (Value.int .i64 (i21))] ∧
 ∀ k109 : Nat, h107 k109 = none → B k109 = none → ∀ h110 : Heap, h110 = Heap.set h107 k109 (.vec 220 (plains [(Value.slice none 0 0)]) 1) →
 CellsAt B h110 ⟨k12, 0, none⟩ 0 [(Value.int .i64 (i18)), (Value.int .i64 (i19)), (Value.int .i64 (i20)), (Value.int .i64 (i21))] ∧
 S_mark_Fresh_J1 B k12 k14 i18 i19 i20 i21 ⟨k109, 0, none⟩ p98 ⟨k106, 0, none⟩ h110 Q))) ∧
 (∀ k112 : Nat, h15 k112 = none → B k112 = none → ∀ h113 : Heap, h113 = Heap.set h15 k112 (.vec 224 (plains [(Value.int .i64 (0)), (Value.int .i64 (0)), (Value.int .i64 (0))]) 3) →
 CellsAt B h113 ⟨k12, 0, none⟩ 0 [(Value.int .i64 (i18)), (Value.int .i64 (i19)), (Value.int .i64 (i20)), (Value.int .i64 (i21))] ∧
 (∀ k115 : Nat, h113 k115 = none → B k115 = none → ∀ h116 : Heap, h116 = Heap.set h113 k115 (.vec 220 (plains [(Value.slice none 0 0)]) 1) →
 CellsAt B h116 ⟨k12, 0, none⟩ 0 [(Value.int .i64 (i18)), (Value.int .i64 (i19)), (Value.int .i64 (i20)), (Value.int .i64 (i21))] ∧
 C_sheet_New B h116 (fun p119 h118 =>
 CellsAt B h118 ⟨k12, 0, none⟩ 0 [(Value.int .i64 (i18)), (Value.int .i64 (i19)), (Value.int .i64 (i20)), (Value.int .i64 (i21))] ∧
 S_mark_Fresh_J1 B k12 k14 i18 i19 i20 i21 ⟨k115, 0, none⟩ p119 ⟨k112, 0, none⟩ h118 Q)) ∧
 (C_sheet_New B h113 (fun p122 h121 =>
 CellsAt B h121 ⟨k12, 0, none⟩ 0 [(Value.int .i64 (i18)), (Value.int .i64 (i19)), (Value.int .i64 (i20)), (Value.int .i64 (i21))] ∧
 ∀ k124 : Nat, h121 k124 = none → B k124 = none → ∀ h125 : Heap, h125 = Heap.set h121 k124 (.vec 220 (plains [(Value.slice none 0 0)]) 1) →
 CellsAt B h125 ⟨k12, 0, none⟩ 0 [(Value.int .i64 (i18)), (Value.int .i64 (i19)), (Value.int .i64 (i20)), (Value.int .i64 (i21))] ∧
 S_mark_Fresh_J1 B k12 k14 i18 i19 i20 i21 ⟨k124, 0, none⟩ p122 ⟨k112, 0, none⟩ h125 Q)))
def S_draft_Draft_int_Put (B : RO) (p1 : Option Addr) (i2 : Int) (i3 : Int) (h : Heap) (Q : Bool → Heap → Prop) : Prop :=
 (p1 = none →
 Fin B h (Q (false))) ∧ (¬ (p1 = none) →
 C_draft_Draft_int_find B p1 (i2) h (fun i7 b8 h6 =>
 (b8 = true →
 ∃ A24 : Addr, p1 = some A24 ∧
 LdSl B h6 A24 fun a26 n27 c28 h29 =>
 ∃ A30 : Addr, a26 = some A30 ∧ 0 ≤ (i7 : Int) ∧ (i7 : Int) < (n27 : Nat) ∧
 ∃ h32 : Heap, storeH h29 (Addr.add (Addr.add A30 (Int.toNat (i7) * 2)) 1) (Value.int .i64 (i3)) = some h32 ∧
 Fin B h32 (Q (true))) ∧ (b8 = false →
 ∃ A9 : Addr, p1 = some A9 ∧
 LdSl B h6 A9 fun a11 n12 c13 h14 =>
 ∀ k15 : Nat, h14 k15 = none → B k15 = none → ∀ h16 : Heap, h16 = Heap.set h14 k15 (.vec 228 (plains [(Value.int .i64 (i2)), (Value.int .i64 (i3))]) 2) →
 C_slices_Insert_s_draft_entry_int_draft_entry_int B a11 n12 c13 (i7) (some ⟨k15, 0, none⟩) 1 1 h16 (fun a18 n19 c20 h17 =>
 ∃ A21 : Addr, p1 = some A21 ∧
 ∃ h23 : Heap, storeH h17 A21 (Value.slice a18 n19 c20) = some h23 ∧
 Fin B h23 (Q (true))))))
def S_cursor_Cursor_Step_J1 (B : RO) (p1 : Option Addr) (i2 : Int) (h5 : Heap) (Q : Bool → Heap → Prop) : Prop :=
 ∃ A6 : Addr, p1 = some A6 ∧
 0 ≤ (i2 : Int) ∧ (i2 : Int) < (3 : Nat) ∧
 ∃ i8 : Int, cellH B h5 (Addr.add A6 (Int.toNat (i2) * 1)) = some (Value.int .i64 (i8)) ∧
 ∃ A9 : Addr, p1 = some A9 ∧
 0 ≤ (i2 : Int) ∧ (i2 : Int) < (3 : Nat) ∧
 ∃ h11 : Heap, storeH h5 (Addr.add A9 (Int.toNat (i2) * 1)) (Value.int .i64 (IntKind.wrap .i64 ((i8) + (1)))) = some h11 ∧
 Fin B h11 (Q (true))
def S_cursor_Cursor_Step (B : RO) (p1 : Option Addr) (i2 : Int) (h : Heap) (Q : Bool → Heap → Prop) : Prop :=
 (p1 = none →
 Fin B h (Q (false))) ∧ (¬ (p1 = none) →
 C_cursor_is B (i2) h (fun b14 h13 =>
 (b14 = true →
 ∃ A15 : Addr, p1 = some A15 ∧
 0 ≤ (i2 : Int) ∧ (i2 : Int) < (3 : Nat) ∧
 ∃ i17 : Int, cellH B h13 (Addr.add A15 (Int.toNat (i2) * 1)) = some (Value.int .i64 (i17)) ∧
 ((i17 : Int) ≥ (64) →
 Fin B h13 (Q (false))) ∧ (¬ ((i17 : Int) ≥ (64)) →
 Fin B h13 (fun h' => S_cursor_Cursor_Step_J1 B p1 i2 h' Q))) ∧ (b14 = false →
 Fin B h13 (Q (false)))))
def S_mark_Stack_Push (B : RO) (p1 : Option Addr) (p2 : Option Addr) (p3 : Option Addr) (p4 : Option Addr) (i5 : Int) (i6 : Int) (i7 : Int) (i8 : Int) (i9 : Int) (i10 : Int) (i11 : Int) (i12 : Int) (i13 : Int) (h : Heap) (Q : Bool → Heap → Prop) : Prop :=
 ∀ k15 : Nat, h k15 = none → B k15 = none → ∀ h16 : Heap, h16 = Heap.set h k15 (.vec 151 (plains [(Value.pointer p2), (Value.pointer p3), (Value.pointer p4), (Value.int .i64 (i5)), (Value.int .i64 (i6)), (Value.int .i64 (i7)), (Value.int .i64 (i8)), (Value.int .i64 (i9)), (Value.int .i64 (i10)), (Value.int .i64 (i11)), (Value.int .i64 (i12)), (Value.int .i64 (i13))]) 12) →
 (p1 = none →
 Fin B h16 (Q (false))) ∧ (¬ (p1 = none) →
 ∃ p18 : Option Addr, ∃ p19 : Option Addr, ∃ p20 : Option Addr, ∃ i21 : Int, ∃ i22 : Int, ∃ i23 : Int, ∃ i24 : Int, CellsAt B h16 ⟨k15, 0, none⟩ 0 [(Value.pointer p18), (Value.pointer p19), (Value.pointer p20), (Value.int .i64 (i21)), (Value.int .i64 (i22)), (Value.int .i64 (i23)), (Value.int .i64 (i24))] ∧
 C_mark_State_Copy B p18 p19 p20 (i21) (i22) (i23) (i24) h16 (fun p26 p27 p28 i29 i30 i31 i32 h25 =>
 ∃ h33 : Heap, StoresAt ⟨k15, 0, none⟩ h25 0 [(Value.pointer p26), (Value.pointer p27), (Value.pointer p28), (Value.int .i64 (i29)), (Value.int .i64 (i30)), (Value.int .i64 (i31)), (Value.int .i64 (i32))] h33 ∧
 ∃ A36 : Addr, p1 = some A36 ∧
 ∃ a40 : Option Addr, ∃ n41 : Nat, ∃ c42 : Nat, cellH B h33 A36 = some (Value.slice a40 n41 c42) ∧
 ∃ p44 : Option Addr, ∃ p45 : Option Addr, ∃ p46 : Option Addr, ∃ i47 : Int, ∃ i48 : Int, ∃ i49 : Int, ∃ i50 : Int, ∃ i51 : Int, ∃ i52 : Int, ∃ i53 : Int, ∃ i54 : Int, ∃ i55 : Int, CellsAt B h33 ⟨k15, 0, none⟩ 0 [(Value.pointer p44), (Value.pointer p45), (Value.pointer p46), (Value.int .i64 (i47)), (Value.int .i64 (i48)), (Value.int .i64 (i49)), (Value.int .i64 (i50)), (Value.int .i64 (i51)), (Value.int .i64 (i52)), (Value.int .i64 (i53)), (Value.int .i64 (i54)), (Value.int .i64 (i55))] ∧
 ∀ k57 : Nat, h33 k57 = none → B k57 = none → ∀ h58 : Heap, h58 = Heap.set h33 k57 (.vec 151 (plains [(Value.pointer p44), (Value.pointer p45), (Value.pointer p46), (Value.int .i64 (i47)), (Value.int .i64 (i48)), (Value.int .i64 (i49)), (Value.int .i64 (i50)), (Value.int .i64 (i51)), (Value.int .i64 (i52)), (Value.int .i64 (i53)), (Value.int .i64 (i54)), (Value.int .i64 (i55))]) 12) →
 cellH B h58 A36 = some (Value.slice a40 n41 c42) ∧ CellsAt B h58 ⟨k15, 0, none⟩ 0 [(Value.pointer p44), (Value.pointer p45), (Value.pointer p46), (Value.int .i64 (i47)), (Value.int .i64 (i48)), (Value.int .i64 (i49)), (Value.int .i64 (i50)), (Value.int .i64 (i51)), (Value.int .i64 (i52)), (Value.int .i64 (i53)), (Value.int .i64 (i54)), (Value.int .i64 (i55))] ∧
 semH PG B (Builtin.append_ #[132, 132] 132 #[(Value.slice a40 n41 c42), (Value.slice (some ⟨k57, 0, none⟩) 1 1)]) h58 (fun v h61 => ∃ a62 : Option Addr, ∃ n63 : Nat, ∃ c64 : Nat, v = (Value.slice a62 n63 c64) ∧
 cellH B h61 A36 = some (Value.slice a40 n41 c42) ∧ CellsAt B h61 ⟨k15, 0, none⟩ 0 [(Value.pointer p44), (Value.pointer p45), (Value.pointer p46), (Value.int .i64 (i47)), (Value.int .i64 (i48)), (Value.int .i64 (i49)), (Value.int .i64 (i50)), (Value.int .i64 (i51)), (Value.int .i64 (i52)), (Value.int .i64 (i53)), (Value.int .i64 (i54)), (Value.int .i64 (i55))] ∧
 ∃ A67 : Addr, p1 = some A67 ∧
 ∃ h69 : Heap, storeH h61 A67 (Value.slice a62 n63 c64) = some h69 ∧
 Fin B h69 (Q (true)))))
def S_countermandref17_Copy (B : RO) (a1 : Option Addr) (n2 : Nat) (c3 : Nat) (i4 : Int) (i5 : Int) (h : Heap) (Q : Option Addr → Nat → Nat → Int → Int → Heap → Prop) : Prop :=
 ∀ k11 : Nat, h k11 = none → B k11 = none → ∀ h12 : Heap, h12 = Heap.set h k11 (.vec 144 (plains [(Value.slice a1 n2 c3), (Value.int .i64 (i4)), (Value.int .i64 (i5))]) 3) →
 ∀ k13 : Nat, h12 k13 = none → B k13 = none → ∀ h14 : Heap, h14 = Heap.set h12 k13 (.vec 144 (plains [(Value.slice none 0 0), (Value.int .i64 (0)), (Value.int .i64 (0))]) 3) →
 ∃ a16 : Option Addr, ∃ n17 : Nat, ∃ c18 : Nat, cellH B h14 ⟨k11, 0, none⟩ = some (Value.slice a16 n17 c18) ∧
 ∃ i21 : Int, cellH B h14 ⟨k11, 1, none⟩ = some (Value.int .i64 (i21)) ∧
 ∃ i24 : Int, cellH B h14 ⟨k11, 2, none⟩ = some (Value.int .i64 (i24)) ∧
 ∀ k26 : Nat, h14 k26 = none → B k26 = none → ∀ h27 : Heap, h27 = Heap.set h14 k26 (.vec 148 [] 0) →
 cellH B h27 ⟨k11, 0, none⟩ = some (Value.slice a16 n17 c18) ∧ cellH B h27 ⟨k11, 1, none⟩ = some (Value.int .i64 (i21)) ∧ cellH B h27 ⟨k11, 2, none⟩ = some (Value.int .i64 (i24)) ∧
 semH PG B (Builtin.append_ #[142, 142] 142 #[(Value.slice (some ⟨k26, 0, none⟩) 0 0), (Value.slice a16 n17 c18)]) h27 (fun v h31 => ∃ a32 : Option Addr, ∃ n33 : Nat, ∃ c34 : Nat, v = (Value.slice a32 n33 c34) ∧
 cellH B h31 ⟨k11, 0, none⟩ = some (Value.slice a16 n17 c18) ∧ cellH B h31 ⟨k11, 1, none⟩ = some (Value.int .i64 (i21)) ∧ cellH B h31 ⟨k11, 2, none⟩ = some (Value.int .i64 (i24)) ∧
 ∃ h38 : Heap, StoresAt ⟨k13, 0, none⟩ h31 0 [(Value.slice a32 n33 c34), (Value.int .i64 (i21)), (Value.int .i64 (i24))] h38 ∧
 ∃ a39 : Option Addr, ∃ n40 : Nat, ∃ c41 : Nat, ∃ i42 : Int, ∃ i43 : Int, CellsAt B h38 ⟨k13, 0, none⟩ 0 [(Value.slice a39 n40 c41), (Value.int .i64 (i42)), (Value.int .i64 (i43))] ∧ Fin B h38 (Q a39 n40 c41 (i42) (i43)))
def S_mark_Stack_Pop_J1 (B : RO) (p1 : Option Addr) (k15 : Nat) (h18 : Heap) (Q : Option Addr → Option Addr → Option Addr → Int → Int → Int → Int → Int → Int → Int → Int → Int → Bool → Heap → Prop) : Prop :=
 ∃ A19 : Addr, p1 = some A19 ∧
 LdSl B h18 A19 fun a21 n22 c23 h24 =>
 ∃ A25 : Addr, p1 = some A25 ∧
 LdSl B h24 A25 fun a27 n28 c29 h30 =>
 ∃ A31 : Addr, a27 = some A31 ∧ 0 ≤ (IntKind.wrap .i64 (((n22 : Nat)) - (1)) : Int) ∧ (IntKind.wrap .i64 (((n22 : Nat)) - (1)) : Int) < (n28 : Nat) ∧
 ∃ p33 : Option Addr, ∃ p34 : Option Addr, ∃ p35 : Option Addr, ∃ i36 : Int, ∃ i37 : Int, ∃ i38 : Int, ∃ i39 : Int, ∃ i40 : Int, ∃ i41 : Int, ∃ i42 : Int, ∃ i43 : Int, ∃ i44 : Int, CellsAt B h30 (Addr.add A31 (Int.toNat (IntKind.wrap .i64 (((n22 : Nat)) - (1))) * 12)) 0 [(Value.pointer p33), (Value.pointer p34), (Value.pointer p35), (Value.int .i64 (i36)), (Value.int .i64 (i37)), (Value.int .i64 (i38)), (Value.int .i64 (i39)), (Value.int .i64 (i40)), (Value.int .i64 (i41)), (Value.int .i64 (i42)), (Value.int .i64 (i43)), (Value.int .i64 (i44))] ∧
 ∀ k45 : Nat, h30 k45 = none → B k45 = none → ∀ h46 : Heap, h46 = Heap.set h30 k45 (.vec 151 (plains [(Value.pointer none), (Value.pointer none), (Value.pointer none), (Value.int .i64 (0)), (Value.int .i64 (0)), (Value.int .i64 (0)), (Value.int .i64 (0)), (Value.int .i64 (0)), (Value.int .i64 (0)), (Value.int .i64 (0)), (Value.int .i64 (0)), (Value.int .i64 (0))]) 12) →
 ∃ h47 : Heap, StoresAt ⟨k45, 0, none⟩ h46 0 [(Value.pointer p33), (Value.pointer p34), (Value.pointer p35), (Value.int .i64 (i36)), (Value.int .i64 (i37)), (Value.int .i64 (i38)), (Value.int .i64 (i39)), (Value.int .i64 (i40)), (Value.int .i64 (i41)), (Value.int .i64 (i42)), (Value.int .i64 (i43)), (Value.int .i64 (i44))] h47 ∧
 ∃ A48 : Addr, p1 = some A48 ∧
 LdSl B h47 A48 fun a50 n51 c52 h53 =>
 C_slices_Delete_s_mark_Mark_mark_Mark B a50 n51 c52 (IntKind.wrap .i64 (((n22 : Nat)) - (1))) (IntKind.wrap .i64 ((IntKind.wrap .i64 (((n22 : Nat)) - (1))) + (1))) h53 (fun a55 n56 c57 h54 =>
 ∃ A58 : Addr, p1 = some A58 ∧
 ∃ h60 : Heap, storeH h54 A58 (Value.slice a55 n56 c57) = some h60 ∧
 ∃ p61 : Option Addr, ∃ p62 : Option Addr, ∃ p63 : Option Addr, ∃ i64 : Int, ∃ i65 : Int, ∃ i66 : Int, ∃ i67 : Int, ∃ i68 : Int, ∃ i69 : Int, ∃ i70 : Int, ∃ i71 : Int, ∃ i72 : Int, CellsAt B h60 ⟨k45, 0, none⟩ 0 [(Value.pointer p61), (Value.pointer p62), (Value.pointer p63), (Value.int .i64 (i64)), (Value.int .i64 (i65)), (Value.int .i64 (i66)), (Value.int .i64 (i67)), (Value.int .i64 (i68)), (Value.int .i64 (i69)), (Value.int .i64 (i70)), (Value.int .i64 (i71)), (Value.int .i64 (i72))] ∧
 ∃ h73 : Heap, StoresAt ⟨k15, 0, none⟩ h60 0 [(Value.pointer p61), (Value.pointer p62), (Value.pointer p63), (Value.int .i64 (i64)), (Value.int .i64 (i65)), (Value.int .i64 (i66)), (Value.int .i64 (i67)), (Value.int .i64 (i68)), (Value.int .i64 (i69)), (Value.int .i64 (i70)), (Value.int .i64 (i71)), (Value.int .i64 (i72))] h73 ∧
 ∃ p74 : Option Addr, ∃ p75 : Option Addr, ∃ p76 : Option Addr, ∃ i77 : Int, ∃ i78 : Int, ∃ i79 : Int, ∃ i80 : Int, ∃ i81 : Int, ∃ i82 : Int, ∃ i83 : Int, ∃ i84 : Int, ∃ i85 : Int, CellsAt B h73 ⟨k15, 0, none⟩ 0 [(Value.pointer p74), (Value.pointer p75), (Value.pointer p76), (Value.int .i64 (i77)), (Value.int .i64 (i78)), (Value.int .i64 (i79)), (Value.int .i64 (i80)), (Value.int .i64 (i81)), (Value.int .i64 (i82)), (Value.int .i64 (i83)), (Value.int .i64 (i84)), (Value.int .i64 (i85))] ∧ Fin B h73 (Q p74 p75 p76 (i77) (i78) (i79) (i80) (i81) (i82) (i83) (i84) (i85) (true)))
def S_mark_Stack_Pop (B : RO) (p1 : Option Addr) (h : Heap) (Q : Option Addr → Option Addr → Option Addr → Int → Int → Int → Int → Int → Int → Int → Int → Int → Bool → Heap → Prop) : Prop :=
 ∀ k15 : Nat, h k15 = none → B k15 = none → ∀ h16 : Heap, h16 = Heap.set h k15 (.vec 151 (plains [(Value.pointer none), (Value.pointer none), (Value.pointer none), (Value.int .i64 (0)), (Value.int .i64 (0)), (Value.int .i64 (0)), (Value.int .i64 (0)), (Value.int .i64 (0)), (Value.int .i64 (0)), (Value.int .i64 (0)), (Value.int .i64 (0)), (Value.int .i64 (0))]) 12) →
 (p1 = none →
 ∃ h87 : Heap, StoresAt ⟨k15, 0, none⟩ h16 0 [(Value.pointer none), (Value.pointer none), (Value.pointer none), (Value.int .i64 (0)), (Value.int .i64 (0)), (Value.int .i64 (0)), (Value.int .i64 (0)), (Value.int .i64 (0)), (Value.int .i64 (0)), (Value.int .i64 (0)), (Value.int .i64 (0)), (Value.int .i64 (0))] h87 ∧
 ∃ p88 : Option Addr, ∃ p89 : Option Addr, ∃ p90 : Option Addr, ∃ i91 : Int, ∃ i92 : Int, ∃ i93 : Int, ∃ i94 : Int, ∃ i95 : Int, ∃ i96 : Int, ∃ i97 : Int, ∃ i98 : Int, ∃ i99 : Int, CellsAt B h87 ⟨k15, 0, none⟩ 0 [(Value.pointer p88), (Value.pointer p89), (Value.pointer p90), (Value.int .i64 (i91)), (Value.int .i64 (i92)), (Value.int .i64 (i93)), (Value.int .i64 (i94)), (Value.int .i64 (i95)), (Value.int .i64 (i96)), (Value.int .i64 (i97)), (Value.int .i64 (i98)), (Value.int .i64 (i99))] ∧ Fin B h87 (Q p88 p89 p90 (i91) (i92) (i93) (i94) (i95) (i96) (i97) (i98) (i99) (false))) ∧ (¬ (p1 = none) →
 ∃ A100 : Addr, p1 = some A100 ∧
 LdSl B h16 A100 fun a102 n103 c104 h105 =>
 (((n103 : Nat) : Int) = 0 →
 ∃ h107 : Heap, StoresAt ⟨k15, 0, none⟩ h105 0 [(Value.pointer none), (Value.pointer none), (Value.pointer none), (Value.int .i64 (0)), (Value.int .i64 (0)), (Value.int .i64 (0)), (Value.int .i64 (0)), (Value.int .i64 (0)), (Value.int .i64 (0)), (Value.int .i64 (0)), (Value.int .i64 (0)), (Value.int .i64 (0))] h107 ∧
 ∃ p108 : Option Addr, ∃ p109 : Option Addr, ∃ p110 : Option Addr, ∃ i111 : Int, ∃ i112 : Int, ∃ i113 : Int, ∃ i114 : Int, ∃ i115 : Int, ∃ i116 : Int, ∃ i117 : Int, ∃ i118 : Int, ∃ i119 : Int, CellsAt B h107 ⟨k15, 0, none⟩ 0 [(Value.pointer p108), (Value.pointer p109), (Value.pointer p110), (Value.int .i64 (i111)), (Value.int .i64 (i112)), (Value.int .i64 (i113)), (Value.int .i64 (i114)), (Value.int .i64 (i115)), (Value.int .i64 (i116)), (Value.int .i64 (i117)), (Value.int .i64 (i118)), (Value.int .i64 (i119))] ∧ Fin B h107 (Q p108 p109 p110 (i111) (i112) (i113) (i114) (i115) (i116) (i117) (i118) (i119) (false))) ∧ (¬ (((n103 : Nat) : Int) = 0) →
 Fin B h105 (fun h' => S_mark_Stack_Pop_J1 B p1 k15 h' Q)))
def S_countermandlaw17_same_J2 (B : RO) (k14 : Nat) (k16 : Nat) (k18 : Nat) (k28 : Nat) (k31 : Nat) (i36 : Int) (a38 : Option Addr) (n39 : Nat) (c40 : Nat) (p47 : Option Addr) (i50 : Int) (i64 : Int) (i65 : Int) (h66 : Heap) (Q : Bool → Heap → Prop) : Prop :=
 ∃ h71 : Heap, storeH h66 ⟨k18, 0, none⟩ (Value.bool ((i64 : Int) == (i65))) = some h71 ∧
 ∃ b72 : Bool, cellH B h71 ⟨k18, 0, none⟩ = some (Value.bool b72) ∧ Fin B h71 (Q (b72))
def S_countermandlaw17_same_J3 (B : RO) (k14 : Nat) (k16 : Nat) (k18 : Nat) (k28 : Nat) (k31 : Nat) (i36 : Int) (a38 : Option Addr) (n39 : Nat) (c40 : Nat) (p47 : Option Addr) (i50 : Int) (h78 : Heap) (Q : Bool → Heap → Prop) : Prop :=
 ∃ h83 : Heap, storeH h78 ⟨k18, 0, none⟩ (Value.bool false) = some h83 ∧
 ∃ b84 : Bool, cellH B h83 ⟨k18, 0, none⟩ = some (Value.bool b84) ∧ Fin B h83 (Q (b84))
def S_countermandlaw17_same_J4 (B : RO) (k18 : Nat) (k28 : Nat) (k31 : Nat) (i36 : Int) (a38 : Option Addr) (n39 : Nat) (c40 : Nat) (h88 : Heap) (Q : Bool → Heap → Prop) : Prop :=
 ∃ h91 : Heap, storeH h88 ⟨k18, 0, none⟩ (Value.bool false) = some h91 ∧
 ∃ b92 : Bool, cellH B h91 ⟨k18, 0, none⟩ = some (Value.bool b92) ∧ Fin B h91 (Q (b92))
def S_countermandlaw17_same_J1 (B : RO) (k14 : Nat) (k16 : Nat) (k18 : Nat) (k28 : Nat) (k31 : Nat) (h35 : Heap) (Q : Bool → Heap → Prop) : Prop :=
 ∃ i36 : Int, cellH B h35 ⟨k31, 0, none⟩ = some (Value.int .i64 (i36)) ∧
 ∃ a38 : Option Addr, ∃ n39 : Nat, ∃ c40 : Nat, cellH B h35 ⟨k28, 0, none⟩ = some (Value.slice a38 n39 c40) ∧
 ((i36 : Int) = (n39 : Nat) →
 ∃ p47 : Option Addr, cellH B h35 ⟨k14, 2, none⟩ = some (Value.pointer p47) ∧
 ∃ i50 : Int, cellH B h35 ⟨k16, 1, none⟩ = some (Value.int .i64 (i50)) ∧
 C_cursor_Cursor_Read B p47 (0) h35 (fun i53 h52 =>
 cellH B h52 ⟨k31, 0, none⟩ = some (Value.int .i64 (i36)) ∧ cellH B h52 ⟨k28, 0, none⟩ = some (Value.slice a38 n39 c40) ∧ cellH B h52 ⟨k14, 2, none⟩ = some (Value.pointer p47) ∧ cellH B h52 ⟨k16, 1, none⟩ = some (Value.int .i64 (i50)) ∧
 ((i53 : Int) = i50 →
 0 ≤ (0 : Int) ∧ (0 : Int) < (4 : Nat) ∧
 (∃ i73 : Int, cellH B h52 ⟨k14, 3, none⟩ = some (Value.int .i64 (i73)) ∧
 ∃ i74 : Int, cellH B h52 ⟨k16, 2, none⟩ = some (Value.int .i64 (i74)) ∧
 S_countermandlaw17_same_J2 B k14 k16 k18 k28 k31 i36 a38 n39 c40 p47 i50 (i73) (i74) h52 Q) ∧
 (∃ i75 : Int, cellH B h52 ⟨k16, 2, none⟩ = some (Value.int .i64 (i75)) ∧
 ∃ i76 : Int, cellH B h52 ⟨k14, 3, none⟩ = some (Value.int .i64 (i76)) ∧
 S_countermandlaw17_same_J2 B k14 k16 k18 k28 k31 i36 a38 n39 c40 p47 i50 (i76) (i75) h52 Q)) ∧ (¬ ((i53 : Int) = i50) →
 (S_countermandlaw17_same_J3 B k14 k16 k18 k28 k31 i36 a38 n39 c40 p47 i50 h52 Q) ∧
 (S_countermandlaw17_same_J3 B k14 k16 k18 k28 k31 i36 a38 n39 c40 p47 i50 h52 Q)))) ∧ (¬ ((i36 : Int) = (n39 : Nat)) →
 (S_countermandlaw17_same_J4 B k18 k28 k31 i36 a38 n39 c40 h35 Q) ∧
 (S_countermandlaw17_same_J4 B k18 k28 k31 i36 a38 n39 c40 h35 Q))
def S_countermandlaw17_same (B : RO) (p1 : Option Addr) (p2 : Option Addr) (p3 : Option Addr) (i4 : Int) (i5 : Int) (i6 : Int) (i7 : Int) (a8 : Option Addr) (n9 : Nat) (c10 : Nat) (i11 : Int) (i12 : Int) (h : Heap) (Q : Bool → Heap → Prop) : Prop :=
 ∀ k14 : Nat, h k14 = none → B k14 = none → ∀ h15 : Heap, h15 = Heap.set h k14 (.vec 140 (plains [(Value.pointer p1), (Value.pointer p2), (Value.pointer p3), (Value.int .i64 (i4)), (Value.int .i64 (i5)), (Value.int .i64 (i6)), (Value.int .i64 (i7))]) 7) →
 ∀ k16 : Nat, h15 k16 = none → B k16 = none → ∀ h17 : Heap, h17 = Heap.set h15 k16 (.vec 144 (plains [(Value.slice a8 n9 c10), (Value.int .i64 (i11)), (Value.int .i64 (i12))]) 3) →
 ∀ k18 : Nat, h17 k18 = none → B k18 = none → ∀ h19 : Heap, h19 = Heap.set h17 k18 (.vec 4 (plains [(Value.bool false)]) 1) →
 LdSl B h19 ⟨k16, 0, none⟩ fun a20 n21 c22 h23 =>
 C_countermandref13_Numbers B a20 n21 c22 h23 (fun a25 n26 c27 h24 =>
 ∀ k28 : Nat, h24 k28 = none → B k28 = none → ∀ h29 : Heap, h29 = Heap.set h24 k28 (.vec 26 (plains [(Value.slice none 0 0)]) 1) →
 ∃ h30 : Heap, storeH h29 ⟨k28, 0, none⟩ (Value.slice a25 n26 c27) = some h30 ∧
 ∀ k31 : Nat, h30 k31 = none → B k31 = none → ∀ h32 : Heap, h32 = Heap.set h30 k31 (.vec 3 (plains [(Value.int .i64 (0))]) 1) →
 ∃ h33 : Heap, storeH h32 ⟨k31, 0, none⟩ (Value.int .i64 (0)) = some h33 ∧
 ∃ p93 : Option Addr, cellH B h33 ⟨k14, 0, none⟩ = some (Value.pointer p93) ∧
 C_draft_Draft_int_All B p93 h33 (fun v95 h94 =>
 ∃ (xs102 : List (Int × Int)) (G98 : Heap → Prop) (J101 : Nat → Heap → Prop), Iter PG B v95 (xs102.map (fun x : Int × Int => [(Value.int .i64 (x.1)), (Value.int .i64 (x.2))])) G98 ∧ Ins G98 ∧ (∀ i h, J101 i h → G98 h) ∧ Fin B h94 (J101 0) ∧
 (∀ (q100 : Nat) (h99 : Heap) (i96 : Int) (i97 : Int), xs102[q100]? = some (i96, i97) → J101 q100 h99 →
 LdSl B h99 ⟨k16, 0, none⟩ fun a103 n104 c105 h106 =>
 C_countermandref13_Get B a103 n104 c105 (i96) h106 (fun i108 b109 h107 =>
 ∃ i110 : Int, cellH B h107 ⟨k31, 0, none⟩ = some (Value.int .i64 (i110)) ∧
 LdSl B h107 ⟨k28, 0, none⟩ fun a111 n112 c113 h114 =>
 ((i110 : Int) ≥ ((n112 : Nat)) →
 ∃ h116 : Heap, storeH h114 ⟨k18, 0, none⟩ (Value.bool false) = some h116 ∧
 ∃ b117 : Bool, cellH B h116 ⟨k18, 0, none⟩ = some (Value.bool b117) ∧ Fin B h116 (Q (b117))) ∧ (¬ ((i110 : Int) ≥ ((n112 : Nat))) →
 LdSl B h114 ⟨k28, 0, none⟩ fun a118 n119 c120 h121 =>
 ∃ i122 : Int, cellH B h121 ⟨k31, 0, none⟩ = some (Value.int .i64 (i122)) ∧
 ∃ A123 : Addr, a118 = some A123 ∧ 0 ≤ (i122 : Int) ∧ (i122 : Int) < (n119 : Nat) ∧
 ∃ i125 : Int, cellH B h121 (Addr.add A123 (Int.toNat (i122) * 1)) = some (Value.int .i64 (i125)) ∧
 ((i96 : Int) = i125 →
 ((i97 : Int) = i108 →
 ∃ i128 : Int, cellH B h121 ⟨k31, 0, none⟩ = some (Value.int .i64 (i128)) ∧
 ∃ h129 : Heap, storeH h121 ⟨k31, 0, none⟩ (Value.int .i64 (IntKind.wrap .i64 ((i128) + (1)))) = some h129 ∧
 Fin B h129 (J101 (q100 + 1))) ∧ (¬ ((i97 : Int) = i108) →
 ∃ h130 : Heap, storeH h121 ⟨k18, 0, none⟩ (Value.bool false) = some h130 ∧
 ∃ b131 : Bool, cellH B h130 ⟨k18, 0, none⟩ = some (Value.bool b131) ∧ Fin B h130 (Q (b131)))) ∧ (¬ ((i96 : Int) = i125) →
 ∃ h132 : Heap, storeH h121 ⟨k18, 0, none⟩ (Value.bool false) = some h132 ∧
 ∃ b133 : Bool, cellH B h132 ⟨k18, 0, none⟩ = some (Value.bool b133) ∧ Fin B h132 (Q (b133)))))) ∧
 (∀ (h99 : Heap), J101 xs102.length h99 →
 Fin B h99 (fun h' => S_countermandlaw17_same_J1 B k14 k16 k18 k28 k31 h' Q))))
def S_mark_Stack_Clear (B : RO) (p1 : Option Addr) (h : Heap) (Q : Heap → Prop) : Prop :=
 (p1 = none →
 Fin B h (Q)) ∧ (¬ (p1 = none) →
 ∃ A3 : Addr, p1 = some A3 ∧
 LdSl B h A3 fun a5 n6 c7 h8 =>
 semH PG B (Builtin.clear_ #[132] 0 #[(Value.slice a5 n6 c7)]) h8 (fun v h9 => v = (Value.tuple #[]) ∧
 ∃ A10 : Addr, p1 = some A10 ∧
 LdSl B h9 A10 fun a12 n13 c14 h15 =>
 0 ≤ (0 : Int) ∧ (0 : Int) ≤ (0 : Int) ∧ (0 : Int) ≤ (c14 : Nat) ∧
 ∃ A16 : Addr, p1 = some A16 ∧
 ∃ h18 : Heap, storeH h15 A16 (Value.slice (if c14 = Int.toNat (0) then a12 else Option.map (·.add (Int.toNat (0) * 12)) a12) (Int.toNat (0) - Int.toNat (0)) (c14 - Int.toNat (0))) = some h18 ∧
 Fin B h18 (Q)))
def S_mark_Stack_Len (B : RO) (p1 : Option Addr) (h : Heap) (Q : Int → Heap → Prop) : Prop :=
 (p1 = none →
 Fin B h (Q (0))) ∧ (¬ (p1 = none) →
 ∃ A4 : Addr, p1 = some A4 ∧
 LdSl B h A4 fun a6 n7 c8 h9 =>
 Fin B h9 (Q ((n7 : Nat))))
def S_sheet_New (B : RO) (h : Heap) (Q : Option Addr → Heap → Prop) : Prop :=
 ∀ k2 : Nat, h k2 = none → B k2 = none → ∀ h3 : Heap, h3 = Heap.set h k2 (.vec 193 (plains [(Value.slice none 0 0)]) 1) →
 ∀ k4 : Nat, h3 k4 = none → B k4 = none → ∀ h5 : Heap, h5 = Heap.set h3 k4 (.vec 262 (plains [(Value.pointer (some ⟨k2, 0, none⟩))]) 1) →
 Fin B h5 (Q (some ⟨k4, 0, none⟩))
def S_draft_Draft_int_find (B : RO) (p1 : Option Addr) (i2 : Int) (h : Heap) (Q : Int → Bool → Heap → Prop) : Prop :=
 ∃ A5 : Addr, p1 = some A5 ∧
 LdSl B h A5 fun a7 n8 c9 h10 =>
 C_slices_BinarySearchFunc_s_draft_entry_int_draft_entry_int_int B a7 n8 c9 (i2) (Value.func (.func 151) #[] #[]) h10 (fun i12 b13 h11 =>
 Fin B h11 (Q (i12) (b13)))
def S_slices_Insert_s_draft_entry_int_draft_entry_int (B : RO) (a1 : Option Addr) (n2 : Nat) (c3 : Nat) (i4 : Int) (a5 : Option Addr) (n6 : Nat) (c7 : Nat) (h : Heap) (Q : Option Addr → Nat → Nat → Heap → Prop) : Prop :=
 0 ≤ (i4 : Int) ∧ (i4 : Int) ≤ ((n2 : Nat) : Int) ∧ ((n2 : Nat) : Int) ≤ (c3 : Nat) ∧
 (((n6 : Nat) : Int) = 0 →
 Fin B h (Q a1 n2 c3)) ∧ (¬ (((n6 : Nat) : Int) = 0) →
 ((i4 : Int) = (n2 : Nat) →
 semH PG B (Builtin.append_ #[218, 218] 218 #[(Value.slice a1 n2 c3), (Value.slice a5 n6 c7)]) h (fun v h13 => ∃ a14 : Option Addr, ∃ n15 : Nat, ∃ c16 : Nat, v = (Value.slice a14 n15 c16) ∧
 Fin B h13 (Q a14 n15 c16))) ∧ (¬ ((i4 : Int) = (n2 : Nat)) →
 ((IntKind.wrap .i64 (((n2 : Nat)) + ((n6 : Nat))) : Int) > ((c3 : Nat)) →
 0 ≤ (0 : Int) ∧ (0 : Int) ≤ (i4 : Int) ∧ (i4 : Int) ≤ (c3 : Nat) ∧
 semH PG B (Builtin.append_ #[218, 3] 218 #[(Value.slice (if c3 = Int.toNat (0) then a1 else Option.map (·.add (Int.toNat (0) * 2)) a1) (Int.toNat (i4) - Int.toNat (0)) (c3 - Int.toNat (0))), (Value.int .i64 (IntKind.wrap .i64 ((IntKind.wrap .i64 (((n2 : Nat)) + ((n6 : Nat)))) - (i4))))]) h (fun v h18 => ∃ a19 : Option Addr, ∃ n20 : Nat, ∃ c21 : Nat, v = (Value.slice a19 n20 c21) ∧
 0 ≤ (i4 : Int) ∧ (i4 : Int) ≤ ((n20 : Nat) : Int) ∧ ((n20 : Nat) : Int) ≤ (c21 : Nat) ∧
 semH PG B (Builtin.copy_ #[218, 218] 3 #[(Value.slice (if c21 = Int.toNat (i4) then a19 else Option.map (·.add (Int.toNat (i4) * 2)) a19) (Int.toNat ((n20 : Nat)) - Int.toNat (i4)) (c21 - Int.toNat (i4))), (Value.slice a5 n6 c7)]) h18 (fun v h22 => ∃ i23 : Int, v = (Value.int .i64 (i23)) ∧
 0 ≤ (IntKind.wrap .i64 ((i4) + ((n6 : Nat))) : Int) ∧ (IntKind.wrap .i64 ((i4) + ((n6 : Nat))) : Int) ≤ ((n20 : Nat) : Int) ∧ ((n20 : Nat) : Int) ≤ (c21 : Nat) ∧
 0 ≤ (i4 : Int) ∧ (i4 : Int) ≤ ((n2 : Nat) : Int) ∧ ((n2 : Nat) : Int) ≤ (c3 : Nat) ∧
 semH PG B (Builtin.copy_ #[218, 218] 3 #[(Value.slice (if c21 = Int.toNat (IntKind.wrap .i64 ((i4) + ((n6 : Nat)))) then a19 else Option.map (·.add (Int.toNat (IntKind.wrap .i64 ((i4) + ((n6 : Nat)))) * 2)) a19) (Int.toNat ((n20 : Nat)) - Int.toNat (IntKind.wrap .i64 ((i4) + ((n6 : Nat))))) (c21 - Int.toNat (IntKind.wrap .i64 ((i4) + ((n6 : Nat)))))), (Value.slice (if c3 = Int.toNat (i4) then a1 else Option.map (·.add (Int.toNat (i4) * 2)) a1) (Int.toNat ((n2 : Nat)) - Int.toNat (i4)) (c3 - Int.toNat (i4)))]) h22 (fun v h24 => ∃ i25 : Int, v = (Value.int .i64 (i25)) ∧
 Fin B h24 (Q a19 n20 c21))))) ∧ (¬ ((IntKind.wrap .i64 (((n2 : Nat)) + ((n6 : Nat))) : Int) > ((c3 : Nat))) →
 0 ≤ (0 : Int) ∧ (0 : Int) ≤ (IntKind.wrap .i64 (((n2 : Nat)) + ((n6 : Nat))) : Int) ∧ (IntKind.wrap .i64 (((n2 : Nat)) + ((n6 : Nat))) : Int) ≤ (c3 : Nat) ∧
 0 ≤ (IntKind.wrap .i64 ((i4) + ((n6 : Nat))) : Int) ∧ (IntKind.wrap .i64 ((i4) + ((n6 : Nat))) : Int) ≤ (((Int.toNat (IntKind.wrap .i64 (((n2 : Nat)) + ((n6 : Nat)))) - Int.toNat (0)) : Nat) : Int) ∧ (((Int.toNat (IntKind.wrap .i64 (((n2 : Nat)) + ((n6 : Nat)))) - Int.toNat (0)) : Nat) : Int) ≤ ((c3 - Int.toNat (0)) : Nat) ∧
 semH PG B (Extern.SlicesOverlaps.overlaps #[218, 218] #[4] #[(Value.slice a5 n6 c7), (Value.slice (if (c3 - Int.toNat (0)) = Int.toNat (IntKind.wrap .i64 ((i4) + ((n6 : Nat)))) then (if c3 = Int.toNat (0) then a1 else Option.map (·.add (Int.toNat (0) * 2)) a1) else Option.map (·.add (Int.toNat (IntKind.wrap .i64 ((i4) + ((n6 : Nat)))) * 2)) (if c3 = Int.toNat (0) then a1 else Option.map (·.add (Int.toNat (0) * 2)) a1)) (Int.toNat (((Int.toNat (IntKind.wrap .i64 (((n2 : Nat)) + ((n6 : Nat)))) - Int.toNat (0)) : Nat)) - Int.toNat (IntKind.wrap .i64 ((i4) + ((n6 : Nat))))) ((c3 - Int.toNat (0)) - Int.toNat (IntKind.wrap .i64 ((i4) + ((n6 : Nat))))))]) h (fun v h26 => ∃ b27 : Bool, v = (Value.bool b27) ∧
 (b27 = true →
 0 ≤ ((n2 : Nat) : Int) ∧ ((n2 : Nat) : Int) ≤ (((Int.toNat (IntKind.wrap .i64 (((n2 : Nat)) + ((n6 : Nat)))) - Int.toNat (0)) : Nat) : Int) ∧ (((Int.toNat (IntKind.wrap .i64 (((n2 : Nat)) + ((n6 : Nat)))) - Int.toNat (0)) : Nat) : Int) ≤ ((c3 - Int.toNat (0)) : Nat) ∧
 semH PG B (Builtin.copy_ #[218, 218] 3 #[(Value.slice (if (c3 - Int.toNat (0)) = Int.toNat ((n2 : Nat)) then (if c3 = Int.toNat (0) then a1 else Option.map (·.add (Int.toNat (0) * 2)) a1) else Option.map (·.add (Int.toNat ((n2 : Nat)) * 2)) (if c3 = Int.toNat (0) then a1 else Option.map (·.add (Int.toNat (0) * 2)) a1)) (Int.toNat (((Int.toNat (IntKind.wrap .i64 (((n2 : Nat)) + ((n6 : Nat)))) - Int.toNat (0)) : Nat)) - Int.toNat ((n2 : Nat))) ((c3 - Int.toNat (0)) - Int.toNat ((n2 : Nat)))), (Value.slice a5 n6 c7)]) h26 (fun v h32 => ∃ i33 : Int, v = (Value.int .i64 (i33)) ∧
 0 ≤ (i4 : Int) ∧ (i4 : Int) ≤ (((Int.toNat (IntKind.wrap .i64 (((n2 : Nat)) + ((n6 : Nat)))) - Int.toNat (0)) : Nat) : Int) ∧ (((Int.toNat (IntKind.wrap .i64 (((n2 : Nat)) + ((n6 : Nat)))) - Int.toNat (0)) : Nat) : Int) ≤ ((c3 - Int.toNat (0)) : Nat) ∧
 C_slices_rotateRight_draft_entry_int B (if (c3 - Int.toNat (0)) = Int.toNat (i4) then (if c3 = Int.toNat (0) then a1 else Option.map (·.add (Int.toNat (0) * 2)) a1) else Option.map (·.add (Int.toNat (i4) * 2)) (if c3 = Int.toNat (0) then a1 else Option.map (·.add (Int.toNat (0) * 2)) a1)) (Int.toNat (((Int.toNat (IntKind.wrap .i64 (((n2 : Nat)) + ((n6 : Nat)))) - Int.toNat (0)) : Nat)) - Int.toNat (i4)) ((c3 - Int.toNat (0)) - Int.toNat (i4)) ((n6 : Nat)) h32 (fun h34 =>
 Fin B h34 (Q (if c3 = Int.toNat (0) then a1 else Option.map (·.add (Int.toNat (0) * 2)) a1) (Int.toNat (IntKind.wrap .i64 (((n2 : Nat)) + ((n6 : Nat)))) - Int.toNat (0)) (c3 - Int.toNat (0)))))) ∧ (b27 = false →
 0 ≤ (IntKind.wrap .i64 ((i4) + ((n6 : Nat))) : Int) ∧ (IntKind.wrap .i64 ((i4) + ((n6 : Nat))) : Int) ≤ (((Int.toNat (IntKind.wrap .i64 (((n2 : Nat)) + ((n6 : Nat)))) - Int.toNat (0)) : Nat) : Int) ∧ (((Int.toNat (IntKind.wrap .i64 (((n2 : Nat)) + ((n6 : Nat)))) - Int.toNat (0)) : Nat) : Int) ≤ ((c3 - Int.toNat (0)) : Nat) ∧
 0 ≤ (i4 : Int) ∧ (i4 : Int) ≤ (((Int.toNat (IntKind.wrap .i64 (((n2 : Nat)) + ((n6 : Nat)))) - Int.toNat (0)) : Nat) : Int) ∧ (((Int.toNat (IntKind.wrap .i64 (((n2 : Nat)) + ((n6 : Nat)))) - Int.toNat (0)) : Nat) : Int) ≤ ((c3 - Int.toNat (0)) : Nat) ∧
 semH PG B (Builtin.copy_ #[218, 218] 3 #[(Value.slice (if (c3 - Int.toNat (0)) = Int.toNat (IntKind.wrap .i64 ((i4) + ((n6 : Nat)))) then (if c3 = Int.toNat (0) then a1 else Option.map (·.add (Int.toNat (0) * 2)) a1) else Option.map (·.add (Int.toNat (IntKind.wrap .i64 ((i4) + ((n6 : Nat)))) * 2)) (if c3 = Int.toNat (0) then a1 else Option.map (·.add (Int.toNat (0) * 2)) a1)) (Int.toNat (((Int.toNat (IntKind.wrap .i64 (((n2 : Nat)) + ((n6 : Nat)))) - Int.toNat (0)) : Nat)) - Int.toNat (IntKind.wrap .i64 ((i4) + ((n6 : Nat))))) ((c3 - Int.toNat (0)) - Int.toNat (IntKind.wrap .i64 ((i4) + ((n6 : Nat)))))), (Value.slice (if (c3 - Int.toNat (0)) = Int.toNat (i4) then (if c3 = Int.toNat (0) then a1 else Option.map (·.add (Int.toNat (0) * 2)) a1) else Option.map (·.add (Int.toNat (i4) * 2)) (if c3 = Int.toNat (0) then a1 else Option.map (·.add (Int.toNat (0) * 2)) a1)) (Int.toNat (((Int.toNat (IntKind.wrap .i64 (((n2 : Nat)) + ((n6 : Nat)))) - Int.toNat (0)) : Nat)) - Int.toNat (i4)) ((c3 - Int.toNat (0)) - Int.toNat (i4)))]) h26 (fun v h28 => ∃ i29 : Int, v = (Value.int .i64 (i29)) ∧
 0 ≤ (i4 : Int) ∧ (i4 : Int) ≤ (((Int.toNat (IntKind.wrap .i64 (((n2 : Nat)) + ((n6 : Nat)))) - Int.toNat (0)) : Nat) : Int) ∧ (((Int.toNat (IntKind.wrap .i64 (((n2 : Nat)) + ((n6 : Nat)))) - Int.toNat (0)) : Nat) : Int) ≤ ((c3 - Int.toNat (0)) : Nat) ∧
 semH PG B (Builtin.copy_ #[218, 218] 3 #[(Value.slice (if (c3 - Int.toNat (0)) = Int.toNat (i4) then (if c3 = Int.toNat (0) then a1 else Option.map (·.add (Int.toNat (0) * 2)) a1) else Option.map (·.add (Int.toNat (i4) * 2)) (if c3 = Int.toNat (0) then a1 else Option.map (·.add (Int.toNat (0) * 2)) a1)) (Int.toNat (((Int.toNat (IntKind.wrap .i64 (((n2 : Nat)) + ((n6 : Nat)))) - Int.toNat (0)) : Nat)) - Int.toNat (i4)) ((c3 - Int.toNat (0)) - Int.toNat (i4))), (Value.slice a5 n6 c7)]) h28 (fun v h30 => ∃ i31 : Int, v = (Value.int .i64 (i31)) ∧
 Fin B h30 (Q (if c3 = Int.toNat (0) then a1 else Option.map (·.add (Int.toNat (0) * 2)) a1) (Int.toNat (IntKind.wrap .i64 (((n2 : Nat)) + ((n6 : Nat)))) - Int.toNat (0)) (c3 - Int.toNat (0))))))))))
def S_cursor_is (B : RO) (i1 : Int) (h : Heap) (Q : Bool → Heap → Prop) : Prop :=
 ((i1 : Int) ≥ (0) →
 Fin B h (Q ((decide ((i1 : Int) < (3)))))) ∧ (¬ ((i1 : Int) ≥ (0)) →
 Fin B h (Q (false)))
def S_mark_State_Copy (B : RO) (p1 : Option Addr) (p2 : Option Addr) (p3 : Option Addr) (i4 : Int) (i5 : Int) (i6 : Int) (i7 : Int) (h : Heap) (Q : Option Addr → Option Addr → Option Addr → Int → Int → Int → Int → Heap → Prop) : Prop :=
 ∀ k15 : Nat, h k15 = none → B k15 = none → ∀ h16 : Heap, h16 = Heap.set h k15 (.vec 140 (plains [(Value.pointer p1), (Value.pointer p2), (Value.pointer p3), (Value.int .i64 (i4)), (Value.int .i64 (i5)), (Value.int .i64 (i6)), (Value.int .i64 (i7))]) 7) →
 ∀ k17 : Nat, h16 k17 = none → B k17 = none → ∀ h18 : Heap, h18 = Heap.set h16 k17 (.vec 140 (plains [(Value.pointer none), (Value.pointer none), (Value.pointer none), (Value.int .i64 (0)), (Value.int .i64 (0)), (Value.int .i64 (0)), (Value.int .i64 (0))]) 7) →
 ∃ p20 : Option Addr, cellH B h18 ⟨k15, 0, none⟩ = some (Value.pointer p20) ∧
 ∃ p23 : Option Addr, cellH B h18 ⟨k15, 1, none⟩ = some (Value.pointer p23) ∧
 ∃ p26 : Option Addr, cellH B h18 ⟨k15, 2, none⟩ = some (Value.pointer p26) ∧
 ∃ i29 : Int, ∃ i30 : Int, ∃ i31 : Int, ∃ i32 : Int, CellsAt B h18 ⟨k15, 3, none⟩ 0 [(Value.int .i64 (i29)), (Value.int .i64 (i30)), (Value.int .i64 (i31)), (Value.int .i64 (i32))] ∧
 C_draft_Draft_int_Copy B p20 h18 (fun p35 h34 =>
 cellH B h34 ⟨k15, 0, none⟩ = some (Value.pointer p20) ∧ cellH B h34 ⟨k15, 1, none⟩ = some (Value.pointer p23) ∧ cellH B h34 ⟨k15, 2, none⟩ = some (Value.pointer p26) ∧ CellsAt B h34 ⟨k15, 3, none⟩ 0 [(Value.int .i64 (i29)), (Value.int .i64 (i30)), (Value.int .i64 (i31)), (Value.int .i64 (i32))] ∧
 C_sheet_Sheet_Copy B p23 h34 (fun p41 h40 =>
 cellH B h40 ⟨k15, 0, none⟩ = some (Value.pointer p20) ∧ cellH B h40 ⟨k15, 1, none⟩ = some (Value.pointer p23) ∧ cellH B h40 ⟨k15, 2, none⟩ = some (Value.pointer p26) ∧ CellsAt B h40 ⟨k15, 3, none⟩ 0 [(Value.int .i64 (i29)), (Value.int .i64 (i30)), (Value.int .i64 (i31)), (Value.int .i64 (i32))] ∧
 C_cursor_Cursor_Copy B p26 h40 (fun p47 h46 =>
 cellH B h46 ⟨k15, 0, none⟩ = some (Value.pointer p20) ∧ cellH B h46 ⟨k15, 1, none⟩ = some (Value.pointer p23) ∧ cellH B h46 ⟨k15, 2, none⟩ = some (Value.pointer p26) ∧ CellsAt B h46 ⟨k15, 3, none⟩ 0 [(Value.int .i64 (i29)), (Value.int .i64 (i30)), (Value.int .i64 (i31)), (Value.int .i64 (i32))] ∧
 ∃ h52 : Heap, StoresAt ⟨k17, 0, none⟩ h46 0 [(Value.pointer p35), (Value.pointer p41), (Value.pointer p47), (Value.int .i64 (i29)), (Value.int .i64 (i30)), (Value.int .i64 (i31)), (Value.int .i64 (i32))] h52 ∧
 ∃ p53 : Option Addr, ∃ p54 : Option Addr, ∃ p55 : Option Addr, ∃ i56 : Int, ∃ i57 : Int, ∃ i58 : Int, ∃ i59 : Int, CellsAt B h52 ⟨k17, 0, none⟩ 0 [(Value.pointer p53), (Value.pointer p54), (Value.pointer p55), (Value.int .i64 (i56)), (Value.int .i64 (i57)), (Value.int .i64 (i58)), (Value.int .i64 (i59))] ∧ Fin B h52 (Q p53 p54 p55 (i56) (i57) (i58) (i59)))))
def S_slices_Delete_s_mark_Mark_mark_Mark (B : RO) (a1 : Option Addr) (n2 : Nat) (c3 : Nat) (i4 : Int) (i5 : Int) (h : Heap) (Q : Option Addr → Nat → Nat → Heap → Prop) : Prop :=
 0 ≤ (i4 : Int) ∧ (i4 : Int) ≤ (i5 : Int) ∧ (i5 : Int) ≤ ((n2 : Nat) : Int) ∧ ((n2 : Nat) : Int) ≤ (c3 : Nat) ∧
 ((i4 : Int) = i5 →
 Fin B h (Q a1 n2 c3)) ∧ (¬ ((i4 : Int) = i5) →
 0 ≤ (0 : Int) ∧ (0 : Int) ≤ (i4 : Int) ∧ (i4 : Int) ≤ (c3 : Nat) ∧
 0 ≤ (i5 : Int) ∧ (i5 : Int) ≤ ((n2 : Nat) : Int) ∧ ((n2 : Nat) : Int) ≤ (c3 : Nat) ∧
 semH PG B (Builtin.append_ #[132, 132] 132 #[(Value.slice (if c3 = Int.toNat (0) then a1 else Option.map (·.add (Int.toNat (0) * 12)) a1) (Int.toNat (i4) - Int.toNat (0)) (c3 - Int.toNat (0))), (Value.slice (if c3 = Int.toNat (i5) then a1 else Option.map (·.add (Int.toNat (i5) * 12)) a1) (Int.toNat ((n2 : Nat)) - Int.toNat (i5)) (c3 - Int.toNat (i5)))]) h (fun v h22 => ∃ a23 : Option Addr, ∃ n24 : Nat, ∃ c25 : Nat, v = (Value.slice a23 n24 c25) ∧
 0 ≤ ((n24 : Nat) : Int) ∧ ((n24 : Nat) : Int) ≤ ((n2 : Nat) : Int) ∧ ((n2 : Nat) : Int) ≤ (c25 : Nat) ∧
 semH PG B (Builtin.clear_ #[132] 0 #[(Value.slice (if c25 = Int.toNat ((n24 : Nat)) then a23 else Option.map (·.add (Int.toNat ((n24 : Nat)) * 12)) a23) (Int.toNat ((n2 : Nat)) - Int.toNat ((n24 : Nat))) (c25 - Int.toNat ((n24 : Nat))))]) h22 (fun v h26 => v = (Value.tuple #[]) ∧
 Fin B h26 (Q a23 n24 c25))))
def S_countermandref13_Numbers_J3 (B : RO) (a1 : Option Addr) (n2 : Nat) (c3 : Nat) (a7 : Option Addr) (n8 : Nat) (c9 : Nat) (i10 : Int) (m12 : Nat) (J15 : Option Addr → Nat → Nat → Int → Nat → Heap → Prop) (k21 : Nat) (i25 : Int) (i37 : Int) (a76 : Option Addr) (n77 : Nat) (c78 : Nat) (a79 : Option Addr) (n80 : Nat) (c81 : Nat) (h82 : Heap) (Q : Option Addr → Nat → Nat → Heap → Prop) : Prop :=
 semH PG B (Builtin.append_ #[26, 26] 26 #[(Value.slice a76 n77 c78), (Value.slice a79 n80 c81)]) h82 (fun v h84 => ∃ a85 : Option Addr, ∃ n86 : Nat, ∃ c87 : Nat, v = (Value.slice a85 n86 c87) ∧
 cellH B h84 ⟨k21, 0, none⟩ = some (Value.int .i64 (i37)) ∧
 semH PG B (Builtin.append_ #[26, 26] 26 #[(Value.slice a85 n86 c87), (Value.slice (if c9 = Int.toNat (i25) then a7 else Option.map (·.add (Int.toNat (i25) * 1)) a7) (Int.toNat ((n8 : Nat)) - Int.toNat (i25)) (c9 - Int.toNat (i25)))]) h84 (fun v h89 => ∃ a90 : Option Addr, ∃ n91 : Nat, ∃ c92 : Nat, v = (Value.slice a90 n91 c92) ∧
 cellH B h89 ⟨k21, 0, none⟩ = some (Value.int .i64 (i37)) ∧
 Fin B h89 (fun h' => ∃ m', m' < m12 ∧ J15 a90 n91 c92 (IntKind.wrap .i64 ((i10) + (1))) m' h')))
def S_countermandref13_Numbers_J2 (B : RO) (a1 : Option Addr) (n2 : Nat) (c3 : Nat) (a7 : Option Addr) (n8 : Nat) (c9 : Nat) (i10 : Int) (m12 : Nat) (J15 : Option Addr → Nat → Nat → Int → Nat → Heap → Prop) (k21 : Nat) (i25 : Int) (b28 : Bool) (h29 : Heap) (Q : Option Addr → Nat → Nat → Heap → Prop) : Prop :=
 (b28 = true →
 0 ≤ (0 : Int) ∧ (0 : Int) ≤ (i25 : Int) ∧ (i25 : Int) ≤ (c9 : Nat) ∧
 ∃ i37 : Int, cellH B h29 ⟨k21, 0, none⟩ = some (Value.int .i64 (i37)) ∧
 0 ≤ (i25 : Int) ∧ (i25 : Int) ≤ ((n8 : Nat) : Int) ∧ ((n8 : Nat) : Int) ≤ (c9 : Nat) ∧
 (∀ k94 : Nat, h29 k94 = none → B k94 = none → ∀ h95 : Heap, h95 = Heap.set h29 k94 (.vec 3 [] 0) →
 cellH B h95 ⟨k21, 0, none⟩ = some (Value.int .i64 (i37)) ∧
 (semH PG B (Builtin.append_ #[26, 26] 26 #[(Value.slice (some ⟨k94, 0, none⟩) 0 0), (Value.slice (if c9 = Int.toNat (0) then a7 else Option.map (·.add (Int.toNat (0) * 1)) a7) (Int.toNat (i25) - Int.toNat (0)) (c9 - Int.toNat (0)))]) h95 (fun v h97 => ∃ a98 : Option Addr, ∃ n99 : Nat, ∃ c100 : Nat, v = (Value.slice a98 n99 c100) ∧
 cellH B h97 ⟨k21, 0, none⟩ = some (Value.int .i64 (i37)) ∧
 ∀ k102 : Nat, h97 k102 = none → B k102 = none → ∀ h103 : Heap, h103 = Heap.set h97 k102 (.vec 3 (plains [(Value.int .i64 (i37))]) 1) →
 cellH B h103 ⟨k21, 0, none⟩ = some (Value.int .i64 (i37)) ∧
 S_countermandref13_Numbers_J3 B a1 n2 c3 a7 n8 c9 i10 m12 J15 k21 i25 i37 a98 n99 c100 (some ⟨k102, 0, none⟩) 1 1 h103 Q)) ∧
 (∀ k105 : Nat, h95 k105 = none → B k105 = none → ∀ h106 : Heap, h106 = Heap.set h95 k105 (.vec 3 (plains [(Value.int .i64 (i37))]) 1) →
 cellH B h106 ⟨k21, 0, none⟩ = some (Value.int .i64 (i37)) ∧
 semH PG B (Builtin.append_ #[26, 26] 26 #[(Value.slice (some ⟨k94, 0, none⟩) 0 0), (Value.slice (if c9 = Int.toNat (0) then a7 else Option.map (·.add (Int.toNat (0) * 1)) a7) (Int.toNat (i25) - Int.toNat (0)) (c9 - Int.toNat (0)))]) h106 (fun v h108 => ∃ a109 : Option Addr, ∃ n110 : Nat, ∃ c111 : Nat, v = (Value.slice a109 n110 c111) ∧
 cellH B h108 ⟨k21, 0, none⟩ = some (Value.int .i64 (i37)) ∧
 S_countermandref13_Numbers_J3 B a1 n2 c3 a7 n8 c9 i10 m12 J15 k21 i25 i37 a109 n110 c111 (some ⟨k105, 0, none⟩) 1 1 h108 Q))) ∧
 (∀ k113 : Nat, h29 k113 = none → B k113 = none → ∀ h114 : Heap, h114 = Heap.set h29 k113 (.vec 3 (plains [(Value.int .i64 (i37))]) 1) →
 cellH B h114 ⟨k21, 0, none⟩ = some (Value.int .i64 (i37)) ∧
 ∀ k116 : Nat, h114 k116 = none → B k116 = none → ∀ h117 : Heap, h117 = Heap.set h114 k116 (.vec 3 [] 0) →
 cellH B h117 ⟨k21, 0, none⟩ = some (Value.int .i64 (i37)) ∧
 semH PG B (Builtin.append_ #[26, 26] 26 #[(Value.slice (some ⟨k116, 0, none⟩) 0 0), (Value.slice (if c9 = Int.toNat (0) then a7 else Option.map (·.add (Int.toNat (0) * 1)) a7) (Int.toNat (i25) - Int.toNat (0)) (c9 - Int.toNat (0)))]) h117 (fun v h119 => ∃ a120 : Option Addr, ∃ n121 : Nat, ∃ c122 : Nat, v = (Value.slice a120 n121 c122) ∧
 cellH B h119 ⟨k21, 0, none⟩ = some (Value.int .i64 (i37)) ∧
 S_countermandref13_Numbers_J3 B a1 n2 c3 a7 n8 c9 i10 m12 J15 k21 i25 i37 a120 n121 c122 (some ⟨k113, 0, none⟩) 1 1 h119 Q))) ∧ (b28 = false →
 Fin B h29 (fun h' => ∃ m', m' < m12 ∧ J15 a7 n8 c9 (IntKind.wrap .i64 ((i10) + (1))) m' h'))
def S_countermandref13_Numbers_J1 (B : RO) (a1 : Option Addr) (n2 : Nat) (c3 : Nat) (a7 : Option Addr) (n8 : Nat) (c9 : Nat) (i10 : Int) (m12 : Nat) (J15 : Option Addr → Nat → Nat → Int → Nat → Heap → Prop) (k21 : Nat) (i25 : Int) (h26 : Heap) (Q : Option Addr → Nat → Nat → Heap → Prop) : Prop :=
 ((i25 : Int) = (n8 : Nat) →
 Fin B h26 (fun h' => S_countermandref13_Numbers_J2 B a1 n2 c3 a7 n8 c9 i10 m12 J15 k21 i25 (true) h' Q)) ∧ (¬ ((i25 : Int) = (n8 : Nat)) →
 ∃ A125 : Addr, a7 = some A125 ∧ 0 ≤ (i25 : Int) ∧ (i25 : Int) < (n8 : Nat) ∧
 ∃ i127 : Int, cellH B h26 (Addr.add A125 (Int.toNat (i25) * 1)) = some (Value.int .i64 (i127)) ∧
 ∃ i128 : Int, cellH B h26 ⟨k21, 0, none⟩ = some (Value.int .i64 (i128)) ∧
 ((i127 : Int) = i128 →
 Fin B h26 (fun h' => S_countermandref13_Numbers_J2 B a1 n2 c3 a7 n8 c9 i10 m12 J15 k21 i25 (false) h' Q)) ∧ (¬ ((i127 : Int) = i128) →
 Fin B h26 (fun h' => S_countermandref13_Numbers_J2 B a1 n2 c3 a7 n8 c9 i10 m12 J15 k21 i25 (true) h' Q)))
def S_countermandref13_Numbers (B : RO) (a1 : Option Addr) (n2 : Nat) (c3 : Nat) (h : Heap) (Q : Option Addr → Nat → Nat → Heap → Prop) : Prop :=
 ∃ (J15 : Option Addr → Nat → Nat → Int → Nat → Heap → Prop) (m13 : Nat), Fin B h (J15 none 0 0 (0) m13) ∧
 ∀ (a7 : Option Addr) (n8 : Nat) (c9 : Nat) (i10 : Int) (m12 : Nat) (h11 : Heap), J15 a7 n8 c9 i10 m12 h11 →
 ((i10 : Int) < ((n2 : Nat)) →
 ∃ A17 : Addr, a1 = some A17 ∧ 0 ≤ (i10 : Int) ∧ (i10 : Int) < (n2 : Nat) ∧
 ∃ i19 : Int, ∃ i20 : Int, CellsAt B h11 (Addr.add A17 (Int.toNat (i10) * 2)) 0 [(Value.int .i64 (i19)), (Value.int .i64 (i20))] ∧
 ∀ k21 : Nat, h11 k21 = none → B k21 = none → ∀ h22 : Heap, h22 = Heap.set h11 k21 (.vec 148 (plains [(Value.int .i64 (0)), (Value.int .i64 (0))]) 2) →
 ∃ h23 : Heap, StoresAt ⟨k21, 0, none⟩ h22 0 [(Value.int .i64 (i19)), (Value.int .i64 (i20))] h23 ∧
 ∃ (J135 : Int → Nat → Heap → Prop) (m133 : Nat), Fin B h23 (J135 (0) m133) ∧
 ∀ (i130 : Int) (m132 : Nat) (h131 : Heap), J135 i130 m132 h131 →
 ((i130 : Int) < ((n8 : Nat)) →
 ∃ A137 : Addr, a7 = some A137 ∧ 0 ≤ (i130 : Int) ∧ (i130 : Int) < (n8 : Nat) ∧
 ∃ i139 : Int, cellH B h131 (Addr.add A137 (Int.toNat (i130) * 1)) = some (Value.int .i64 (i139)) ∧
 ∃ i140 : Int, cellH B h131 ⟨k21, 0, none⟩ = some (Value.int .i64 (i140)) ∧
 ((i139 : Int) < (i140) →
 Fin B h131 (fun h' => ∃ m', m' < m132 ∧ J135 (IntKind.wrap .i64 ((i130) + (1))) m' h')) ∧ (¬ ((i139 : Int) < (i140)) →
 Fin B h131 (fun h' => S_countermandref13_Numbers_J1 B a1 n2 c3 a7 n8 c9 i10 m12 J15 k21 (i130) h' Q))) ∧ (¬ ((i130 : Int) < ((n8 : Nat))) →
 Fin B h131 (fun h' => S_countermandref13_Numbers_J1 B a1 n2 c3 a7 n8 c9 i10 m12 J15 k21 (i130) h' Q))) ∧ (¬ ((i10 : Int) < ((n2 : Nat))) →
 Fin B h11 (Q a7 n8 c9))
def S_draft_Draft_int_All (B : RO) (p1 : Option Addr) (h : Heap) (Q : Value → Heap → Prop) : Prop :=
 ∀ k3 : Nat, h k3 = none → B k3 = none → ∀ h4 : Heap, h4 = Heap.set h k3 (.vec 135 [.plain (Value.pointer p1)] 1) →
 Fin B h4 (Q (Value.func (.func 157) #[] #[(Value.pointer (some ⟨k3, 0, none⟩))]))
def S_countermandref13_Get (B : RO) (a1 : Option Addr) (n2 : Nat) (c3 : Nat) (i4 : Int) (h : Heap) (Q : Int → Bool → Heap → Prop) : Prop :=
 ∃ (J12 : Int → Nat → Heap → Prop) (m10 : Nat), Fin B h (J12 (IntKind.wrap .i64 (((n2 : Nat)) - (1))) m10) ∧
 ∀ (i7 : Int) (m9 : Nat) (h8 : Heap), J12 i7 m9 h8 →
 ((i7 : Int) ≥ (0) →
 ∃ A14 : Addr, a1 = some A14 ∧ 0 ≤ (i7 : Int) ∧ (i7 : Int) < (n2 : Nat) ∧
 ∃ i16 : Int, cellH B h8 (Addr.add A14 (Int.toNat (i7) * 2)) = some (Value.int .i64 (i16)) ∧
 ((i16 : Int) = i4 →
 ∃ A18 : Addr, a1 = some A18 ∧ 0 ≤ (i7 : Int) ∧ (i7 : Int) < (n2 : Nat) ∧
 ∃ i20 : Int, cellH B h8 (Addr.add (Addr.add A18 (Int.toNat (i7) * 2)) 1) = some (Value.int .i64 (i20)) ∧
 Fin B h8 (Q (i20) (true))) ∧ (¬ ((i16 : Int) = i4) →
 Fin B h8 (fun h' => ∃ m', m' < m9 ∧ J12 (IntKind.wrap .i64 ((i7) - (1))) m' h'))) ∧ (¬ ((i7 : Int) ≥ (0)) →
 Fin B h8 (Q (0) (false)))
def S_cursor_Cursor_Read_J1 (B : RO) (p1 : Option Addr) (i2 : Int) (h5 : Heap) (Q : Int → Heap → Prop) : Prop :=
 ∃ A6 : Addr, p1 = some A6 ∧
 0 ≤ (i2 : Int) ∧ (i2 : Int) < (3 : Nat) ∧
 ∃ i8 : Int, cellH B h5 (Addr.add A6 (Int.toNat (i2) * 1)) = some (Value.int .i64 (i8)) ∧
 Fin B h5 (Q (i8))
def S_cursor_Cursor_Read (B : RO) (p1 : Option Addr) (i2 : Int) (h : Heap) (Q : Int → Heap → Prop) : Prop :=
 (p1 = none →
 Fin B h (Q (0))) ∧ (¬ (p1 = none) →
 C_cursor_is B (i2) h (fun b11 h10 =>
 (b11 = true →
 Fin B h10 (fun h' => S_cursor_Cursor_Read_J1 B p1 i2 h' Q)) ∧ (b11 = false →
 Fin B h10 (Q (0)))))
def S_slices_BinarySearchFunc_s_draft_entry_int_draft_entry_int_int_J1 (B : RO) (a1 : Option Addr) (n2 : Nat) (c3 : Nat) (i4 : Int) (v5 : Value) (i9 : Int) (h10 : Heap) (Q : Int → Bool → Heap → Prop) : Prop :=
 ((i9 : Int) < ((n2 : Nat)) →
 ∃ A12 : Addr, a1 = some A12 ∧ 0 ≤ (i9 : Int) ∧ (i9 : Int) < (n2 : Nat) ∧
 ∃ i14 : Int, ∃ i15 : Int, CellsAt B h10 (Addr.add A12 (Int.toNat (i9) * 2)) 0 [(Value.int .i64 (i14)), (Value.int .i64 (i15))] ∧
 CallV PG B v5 [(Value.agg #[(Value.int .i64 (i14)), (Value.int .i64 (i15))]), (Value.int .i64 (i4))] h10 (fun v h16 => ∃ i17 : Int, v = (Value.int .i64 (i17)) ∧
 Fin B h16 (Q (i9) (((i17 : Int) == (0)))))) ∧ (¬ ((i9 : Int) < ((n2 : Nat))) →
 Fin B h10 (Q (i9) (false)))
def S_slices_BinarySearchFunc_s_draft_entry_int_draft_entry_int_int (B : RO) (a1 : Option Addr) (n2 : Nat) (c3 : Nat) (i4 : Int) (v5 : Value) (h : Heap) (Q : Int → Bool → Heap → Prop) : Prop :=
 ∃ (J24 : Int → Int → Nat → Heap → Prop) (m22 : Nat), Fin B h (J24 (0) ((n2 : Nat)) m22) ∧
 ∀ (i18 : Int) (i19 : Int) (m21 : Nat) (h20 : Heap), J24 i18 i19 m21 h20 →
 ((i18 : Int) < (i19) →
 ¬ ((1 : Int) < 0) ∧
 ∃ A26 : Addr, a1 = some A26 ∧ 0 ≤ (IntKind.wrap .i64 (Int.fdiv (IntKind.wrap .u64 (IntKind.wrap .i64 ((i18) + (i19)))) (2 ^ (min (Int.toNat (1)) (IntKind.bits .u64)))) : Int) ∧ (IntKind.wrap .i64 (Int.fdiv (IntKind.wrap .u64 (IntKind.wrap .i64 ((i18) + (i19)))) (2 ^ (min (Int.toNat (1)) (IntKind.bits .u64)))) : Int) < (n2 : Nat) ∧
 ∃ i28 : Int, ∃ i29 : Int, CellsAt B h20 (Addr.add A26 (Int.toNat (IntKind.wrap .i64 (Int.fdiv (IntKind.wrap .u64 (IntKind.wrap .i64 ((i18) + (i19)))) (2 ^ (min (Int.toNat (1)) (IntKind.bits .u64))))) * 2)) 0 [(Value.int .i64 (i28)), (Value.int .i64 (i29))] ∧
 CallV PG B v5 [(Value.agg #[(Value.int .i64 (i28)), (Value.int .i64 (i29))]), (Value.int .i64 (i4))] h20 (fun v h30 => ∃ i31 : Int, v = (Value.int .i64 (i31)) ∧
 ((i31 : Int) < (0) →
 Fin B h30 (fun h' => ∃ m', m' < m21 ∧ J24 (IntKind.wrap .i64 ((IntKind.wrap .i64 (Int.fdiv (IntKind.wrap .u64 (IntKind.wrap .i64 ((i18) + (i19)))) (2 ^ (min (Int.toNat (1)) (IntKind.bits .u64))))) + (1))) (i19) m' h')) ∧ (¬ ((i31 : Int) < (0)) →
 Fin B h30 (fun h' => ∃ m', m' < m21 ∧ J24 (i18) (IntKind.wrap .i64 (Int.fdiv (IntKind.wrap .u64 (IntKind.wrap .i64 ((i18) + (i19)))) (2 ^ (min (Int.toNat (1)) (IntKind.bits .u64))))) m' h')))) ∧ (¬ ((i18 : Int) < (i19)) →
 Fin B h20 (fun h' => S_slices_BinarySearchFunc_s_draft_entry_int_draft_entry_int_int_J1 B a1 n2 c3 i4 v5 (i18) h' Q))
def S_draft_by_int (B : RO) (i1 : Int) (i2 : Int) (i3 : Int) (h : Heap) (Q : Int → Heap → Prop) : Prop :=
 ∀ k5 : Nat, h k5 = none → B k5 = none → ∀ h6 : Heap, h6 = Heap.set h k5 (.vec 228 (plains [(Value.int .i64 (i1)), (Value.int .i64 (i2))]) 2) →
 ∃ i7 : Int, cellH B h6 ⟨k5, 0, none⟩ = some (Value.int .i64 (i7)) ∧
 ((i7 : Int) < (i3) →
 Fin B h6 (Q ((-1)))) ∧ (¬ ((i7 : Int) < (i3)) →
 ∃ i9 : Int, cellH B h6 ⟨k5, 0, none⟩ = some (Value.int .i64 (i9)) ∧
 ((i9 : Int) > (i3) →
 Fin B h6 (Q (1))) ∧ (¬ ((i9 : Int) > (i3)) →
 Fin B h6 (Q (0))))
def S_slices_rotateRight_draft_entry_int (B : RO) (a1 : Option Addr) (n2 : Nat) (c3 : Nat) (i4 : Int) (h : Heap) (Q : Heap → Prop) : Prop :=
 C_slices_rotateLeft_draft_entry_int B a1 n2 c3 (IntKind.wrap .i64 (((n2 : Nat)) - (i4))) h (fun h5 =>
 Fin B h5 (Q))
def S_draft_Draft_int_Copy (B : RO) (p1 : Option Addr) (h : Heap) (Q : Option Addr → Heap → Prop) : Prop :=
 (p1 = none →
 Fin B h (Q none)) ∧ (¬ (p1 = none) →
 ∃ A4 : Addr, p1 = some A4 ∧
 LdSl B h A4 fun a6 n7 c8 h9 =>
 C_slices_Clone_s_draft_entry_int_draft_entry_int B a6 n7 c8 h9 (fun a11 n12 c13 h10 =>
 ∀ k14 : Nat, h10 k14 = none → B k14 = none → ∀ h15 : Heap, h15 = Heap.set h10 k14 (.vec 220 (plains [(Value.slice a11 n12 c13)]) 1) →
 Fin B h15 (Q (some ⟨k14, 0, none⟩))))
def S_sheet_Sheet_Copy (B : RO) (p1 : Option Addr) (h : Heap) (Q : Option Addr → Heap → Prop) : Prop :=
 (p1 = none →
 Fin B h (Q none)) ∧ (¬ (p1 = none) →
 ∃ A4 : Addr, p1 = some A4 ∧
 ∃ p6 : Option Addr, cellH B h A4 = some (Value.pointer p6) ∧
 C_draft_Draft_file_File_Copy B p6 h (fun p8 h7 =>
 ∀ k9 : Nat, h7 k9 = none → B k9 = none → ∀ h10 : Heap, h10 = Heap.set h7 k9 (.vec 262 (plains [(Value.pointer p8)]) 1) →
 Fin B h10 (Q (some ⟨k9, 0, none⟩))))
def S_cursor_Cursor_Copy (B : RO) (p1 : Option Addr) (h : Heap) (Q : Option Addr → Heap → Prop) : Prop :=
 (p1 = none →
 Fin B h (Q none)) ∧ (¬ (p1 = none) →
 ∃ A4 : Addr, p1 = some A4 ∧
 ∃ i6 : Int, ∃ i7 : Int, ∃ i8 : Int, CellsAt B h A4 0 [(Value.int .i64 (i6)), (Value.int .i64 (i7)), (Value.int .i64 (i8))] ∧
 ∀ k9 : Nat, h k9 = none → B k9 = none → ∀ h10 : Heap, h10 = Heap.set h k9 (.vec 224 (plains [(Value.int .i64 (0)), (Value.int .i64 (0)), (Value.int .i64 (0))]) 3) →
 ∃ h11 : Heap, StoresAt ⟨k9, 0, none⟩ h10 0 [(Value.int .i64 (i6)), (Value.int .i64 (i7)), (Value.int .i64 (i8))] h11 ∧
 Fin B h11 (Q (some ⟨k9, 0, none⟩)))
def S_draft_Draft_int_All_1 (B : RO) (v1 : Value) (A2 : Addr) (h : Heap) (Q : Heap → Prop) : Prop :=
 ∃ p3 : Option Addr, cellH B h A2 = some (Value.pointer p3) ∧
 (p3 = none →
 Fin B h (Q)) ∧ (¬ (p3 = none) →
 ∃ p5 : Option Addr, cellH B h A2 = some (Value.pointer p5) ∧
 ∃ A6 : Addr, p5 = some A6 ∧
 LdSl B h A6 fun a8 n9 c10 h11 =>
 ∃ (J17 : Int → Nat → Heap → Prop) (m15 : Nat), Fin B h11 (J17 (0) m15) ∧
 ∀ (i12 : Int) (m14 : Nat) (h13 : Heap), J17 i12 m14 h13 →
 ((i12 : Int) < ((n9 : Nat)) →
 ∃ A19 : Addr, a8 = some A19 ∧ 0 ≤ (i12 : Int) ∧ (i12 : Int) < (n9 : Nat) ∧
 ∃ i21 : Int, ∃ i22 : Int, CellsAt B h13 (Addr.add A19 (Int.toNat (i12) * 2)) 0 [(Value.int .i64 (i21)), (Value.int .i64 (i22))] ∧
 ∀ k23 : Nat, h13 k23 = none → B k23 = none → ∀ h24 : Heap, h24 = Heap.set h13 k23 (.vec 228 (plains [(Value.int .i64 (0)), (Value.int .i64 (0))]) 2) →
 ∃ h25 : Heap, StoresAt ⟨k23, 0, none⟩ h24 0 [(Value.int .i64 (i21)), (Value.int .i64 (i22))] h25 ∧
 ∃ i26 : Int, cellH B h25 ⟨k23, 0, none⟩ = some (Value.int .i64 (i26)) ∧
 ∃ i27 : Int, cellH B h25 ⟨k23, 1, none⟩ = some (Value.int .i64 (i27)) ∧
 CallV PG B v1 [(Value.int .i64 (i26)), (Value.int .i64 (i27))] h25 (fun v h28 => ∃ b29 : Bool, v = (Value.bool b29) ∧
 (b29 = true →
 Fin B h28 (fun h' => ∃ m', m' < m14 ∧ J17 (IntKind.wrap .i64 ((i12) + (1))) m' h')) ∧ (b29 = false →
 Fin B h28 (Q)))) ∧ (¬ ((i12 : Int) < ((n9 : Nat))) →
 Fin B h13 (Q)))
def S_slices_rotateLeft_draft_entry_int (B : RO) (a1 : Option Addr) (n2 : Nat) (c3 : Nat) (i4 : Int) (h : Heap) (Q : Heap → Prop) : Prop :=
 0 ≤ (0 : Int) ∧ (0 : Int) ≤ (i4 : Int) ∧ (i4 : Int) ≤ (c3 : Nat) ∧
 C_slices_Reverse_s_draft_entry_int_draft_entry_int B (if c3 = Int.toNat (0) then a1 else Option.map (·.add (Int.toNat (0) * 2)) a1) (Int.toNat (i4) - Int.toNat (0)) (c3 - Int.toNat (0)) h (fun h5 =>
 0 ≤ (i4 : Int) ∧ (i4 : Int) ≤ ((n2 : Nat) : Int) ∧ ((n2 : Nat) : Int) ≤ (c3 : Nat) ∧
 C_slices_Reverse_s_draft_entry_int_draft_entry_int B (if c3 = Int.toNat (i4) then a1 else Option.map (·.add (Int.toNat (i4) * 2)) a1) (Int.toNat ((n2 : Nat)) - Int.toNat (i4)) (c3 - Int.toNat (i4)) h5 (fun h6 =>
 C_slices_Reverse_s_draft_entry_int_draft_entry_int B a1 n2 c3 h6 (fun h7 =>
 Fin B h7 (Q))))
def S_slices_Clone_s_draft_entry_int_draft_entry_int (B : RO) (a1 : Option Addr) (n2 : Nat) (c3 : Nat) (h : Heap) (Q : Option Addr → Nat → Nat → Heap → Prop) : Prop :=
 (a1 = none →
 Fin B h (Q none 0 0)) ∧ (¬ (a1 = none) →
 ∀ k8 : Nat, h k8 = none → B k8 = none → ∀ h9 : Heap, h9 = Heap.set h k8 (.vec 228 [] 0) →
 semH PG B (Builtin.append_ #[218, 218] 218 #[(Value.slice (some ⟨k8, 0, none⟩) 0 0), (Value.slice a1 n2 c3)]) h9 (fun v h10 => ∃ a11 : Option Addr, ∃ n12 : Nat, ∃ c13 : Nat, v = (Value.slice a11 n12 c13) ∧
 Fin B h10 (Q a11 n12 c13)))
def S_draft_Draft_file_File_Copy (B : RO) (p1 : Option Addr) (h : Heap) (Q : Option Addr → Heap → Prop) : Prop :=
 (p1 = none →
 Fin B h (Q none)) ∧ (¬ (p1 = none) →
 ∃ A4 : Addr, p1 = some A4 ∧
 LdSl B h A4 fun a6 n7 c8 h9 =>
 C_slices_Clone_s_draft_entry_file_File_draft_entry_file_File B a6 n7 c8 h9 (fun a11 n12 c13 h10 =>
 ∀ k14 : Nat, h10 k14 = none → B k14 = none → ∀ h15 : Heap, h15 = Heap.set h10 k14 (.vec 193 (plains [(Value.slice a11 n12 c13)]) 1) →
 Fin B h15 (Q (some ⟨k14, 0, none⟩))))
def S_slices_Reverse_s_draft_entry_int_draft_entry_int (B : RO) (a1 : Option Addr) (n2 : Nat) (c3 : Nat) (h : Heap) (Q : Heap → Prop) : Prop :=
 ∃ (J10 : Int → Int → Nat → Heap → Prop) (m8 : Nat), Fin B h (J10 (0) (IntKind.wrap .i64 (((n2 : Nat)) - (1))) m8) ∧
 ∀ (i4 : Int) (i5 : Int) (m7 : Nat) (h6 : Heap), J10 i4 i5 m7 h6 →
 ((i4 : Int) < (i5) →
 ∃ A18 : Addr, a1 = some A18 ∧ 0 ≤ (i5 : Int) ∧ (i5 : Int) < (n2 : Nat) ∧
 ∃ i23 : Int, ∃ i24 : Int, CellsAt B h6 (Addr.add A18 (Int.toNat (i5) * 2)) 0 [(Value.int .i64 (i23)), (Value.int .i64 (i24))] ∧
 ∃ A28 : Addr, a1 = some A28 ∧ 0 ≤ (i4 : Int) ∧ (i4 : Int) < (n2 : Nat) ∧
 ∃ i33 : Int, ∃ i34 : Int, CellsAt B h6 (Addr.add A28 (Int.toNat (i4) * 2)) 0 [(Value.int .i64 (i33)), (Value.int .i64 (i34))] ∧
 ∃ A36 : Addr, a1 = some A36 ∧ 0 ≤ (i4 : Int) ∧ (i4 : Int) < (n2 : Nat) ∧
 ∃ h41 : Heap, StoresAt (Addr.add A36 (Int.toNat (i4) * 2)) h6 0 [(Value.int .i64 (i23)), (Value.int .i64 (i24))] h41 ∧
 CellsAt B h41 (Addr.add A18 (Int.toNat (i5) * 2)) 0 [(Value.int .i64 (i23)), (Value.int .i64 (i24))] ∧ CellsAt B h41 (Addr.add A28 (Int.toNat (i4) * 2)) 0 [(Value.int .i64 (i33)), (Value.int .i64 (i34))] ∧
 ∃ A44 : Addr, a1 = some A44 ∧ 0 ≤ (i5 : Int) ∧ (i5 : Int) < (n2 : Nat) ∧
 ∃ h46 : Heap, StoresAt (Addr.add A44 (Int.toNat (i5) * 2)) h41 0 [(Value.int .i64 (i33)), (Value.int .i64 (i34))] h46 ∧
 Fin B h46 (fun h' => ∃ m', m' < m7 ∧ J10 (IntKind.wrap .i64 ((i4) + (1))) (IntKind.wrap .i64 ((i5) - (1))) m' h')) ∧ (¬ ((i4 : Int) < (i5)) →
 Fin B h6 (Q))
def S_slices_Clone_s_draft_entry_file_File_draft_entry_file_File (B : RO) (a1 : Option Addr) (n2 : Nat) (c3 : Nat) (h : Heap) (Q : Option Addr → Nat → Nat → Heap → Prop) : Prop :=
 (a1 = none →
 Fin B h (Q none 0 0)) ∧ (¬ (a1 = none) →
 ∀ k8 : Nat, h k8 = none → B k8 = none → ∀ h9 : Heap, h9 = Heap.set h k8 (.vec 246 [] 0) →
 semH PG B (Builtin.append_ #[191, 191] 191 #[(Value.slice (some ⟨k8, 0, none⟩) 0 0), (Value.slice a1 n2 c3)]) h9 (fun v h10 => ∃ a11 : Option Addr, ∃ n12 : Nat, ∃ c13 : Nat, v = (Value.slice a11 n12 c13) ∧
 Fin B h10 (Q a11 n12 c13)))
end Go.Proofs.Ythloobpjkeodgaa.H
