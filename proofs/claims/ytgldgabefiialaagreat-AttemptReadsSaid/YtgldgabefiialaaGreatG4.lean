/- What the law's proof stands on, part 4. No condition. -/
import Derived.Test.YtgldgabefiialaaGreatG3
namespace Go.Proofs.YtgldgabefiialaaGreat.H
open Go
set_option linter.unusedVariables false
set_option maxRecDepth 100000
set_option maxHeartbeats 4000000
def xp (B : RO) (i26 : Int) (i27 : Int) (h29 : Heap) (Q : Bool → Heap → Prop) : Prop :=
 ((IntKind.wrap .i64 ((i26) + (i27)) : Int) = 0 →
 vr B none h29 (fun p31 h30 =>
 (p31 = none →
 xe B none h30 (fun p34 h33 =>
 (p34 = none →
 vw B none h33 (fun i37 i38 i39 i40 h36 =>
 (eqL [(.int .i64 (i37)), (.int .i64 (i38)), (.int .i64 (i39)), (.int .i64 (i40))] [(.int .i64 (0)), (.int .i64 (0)), (.int .i64 (0)), (.int .i64 (0))] = true →
 yH B none h36 (fun b43 h42 =>
 (b43 = true →
 Fin B h42 (Q (false))) ∧ (b43 = false →
 yW B none h42 (fun b45 h44 =>
 (b45 = true →
 Fin B h44 (Q (false))) ∧ (b45 = false →
 ve B none h44 (fun p47 p48 p49 i50 i51 i52 i53 h46 =>
 (p47 = none →
 xF B none h46 (fun l56 h55 =>
 ∃ i57 : Int, (l56 : List Value)[24]? = some (.int .i64 (i57)) ∧
 Fin B h55 (Q (((i57 : Int) == (0)))))) ∧ (¬ (p47 = none) →
 Fin B h46 (Q (false))))))))) ∧ (¬ (eqL [(.int .i64 (i37)), (.int .i64 (i38)), (.int .i64 (i39)), (.int .i64 (i40))] [(.int .i64 (0)), (.int .i64 (0)), (.int .i64 (0)), (.int .i64 (0))] = true) →
 Fin B h36 (Q (false))))) ∧ (¬ (p34 = none) →
 Fin B h33 (Q (false))))) ∧ (¬ (p31 = none) →
 Fin B h30 (Q (false))))) ∧ (¬ ((IntKind.wrap .i64 ((i26) + (i27)) : Int) = 0) →
 Fin B h29 (Q (false)))
def vR (B : RO) (i68 : Int) (i69 : Int) (h71 : Heap) (Q : Bool → Heap → Prop) : Prop :=
 Fin B h71 (Q (false))
def xo (B : RO) (h15 : Heap) (Q : Bool → Heap → Prop) : Prop :=
 wM B none (0) (0) (0) (0) h15 (fun h16 =>
 vv B none (0) h16 (fun h17 =>
 vx B none h17 (fun h18 =>
 vu B none h18 (fun i20 a21 n22 c23 b24 h19 =>
 (b24 = true →
 x9 B none h19 (fun i68 i69 h67 =>
 ∃ (J77 : Int → Nat → Heap → Prop) (m75 : Nat), Fin B h67 (J77 (0) m75) ∧
 ∀ (i72 : Int) (m74 : Nat) (h73 : Heap), J77 i72 m74 h73 →
 ((i72 : Int) < (9) →
 yx B none (i72) (0) (0) (0) h73 (fun i79 i80 h78 =>
 ((i80 : Int) = 2 →
 Fin B h78 (fun h' => ∃ m', m' < m74 ∧ J77 (IntKind.wrap .i64 ((i72) + (1))) m' h')) ∧ (¬ ((i80 : Int) = 2) →
 Fin B h78 (Q (false))))) ∧ (¬ ((i72 : Int) < (9)) →
 Fin B h73 (fun h' => vR B i68 i69 h' Q)))) ∧ (b24 = false →
 x9 B none h19 (fun i26 i27 h25 =>
 ∃ (J63 : Int → Nat → Heap → Prop) (m61 : Nat), Fin B h25 (J63 (0) m61) ∧
 ∀ (i58 : Int) (m60 : Nat) (h59 : Heap), J63 i58 m60 h59 →
 ((i58 : Int) < (9) →
 yx B none (i58) (0) (0) (0) h59 (fun i65 i66 h64 =>
 ((i66 : Int) = 2 →
 Fin B h64 (fun h' => ∃ m', m' < m60 ∧ J63 (IntKind.wrap .i64 ((i58) + (1))) m' h')) ∧ (¬ ((i66 : Int) = 2) →
 Fin B h64 (Q (false))))) ∧ (¬ ((i58 : Int) < (9)) →
 Fin B h59 (fun h' => xp B i26 i27 h' Q))))))))
def xt (B : RO) (a4 : Option Addr) (n5 : Nat) (c6 : Nat) (p13 : Option Addr) (i81 : Int) (m83 : Nat) (J86 : Int → Nat → Heap → Prop) (k95 : Nat) (h157 : Heap) (Q : Bool → Heap → Prop) : Prop :=
 ∃ A160 : Addr, p13 = some A160 ∧
 ∃ a164 : Option Addr, ∃ n165 : Nat, ∃ c166 : Nat, cellH B h157 (Addr.add A160 2) = some (.slice a164 n165 c166) ∧
 ∃ i169 : Int, ∃ i170 : Int, ∃ i171 : Int, ∃ i172 : Int, za B h157 ⟨k95, 1, none⟩ 0 [(.int .i64 (i169)), (.int .i64 (i170)), (.int .i64 (i171)), (.int .u8 (i172))] ∧
 ∀ k174 : Nat, h157 k174 = none → B k174 = none → ∀ h175 : Heap, h175 = Heap.set h157 k174 (.vec 38 (zc [(.int .i64 (i169)), (.int .i64 (i170)), (.int .i64 (i171)), (.int .u8 (i172))]) 4) →
 cellH B h175 (Addr.add A160 2) = some (.slice a164 n165 c166) ∧ za B h175 ⟨k95, 1, none⟩ 0 [(.int .i64 (i169)), (.int .i64 (i170)), (.int .i64 (i171)), (.int .u8 (i172))] ∧
 semH PG B (Builtin.append_ #[31, 31] 31 #[(.slice a164 n165 c166), (.slice (some ⟨k174, 0, none⟩) 1 1)]) h175 (fun v h178 => ∃ a179 : Option Addr, ∃ n180 : Nat, ∃ c181 : Nat, v = (.slice a179 n180 c181) ∧
 cellH B h178 (Addr.add A160 2) = some (.slice a164 n165 c166) ∧ za B h178 ⟨k95, 1, none⟩ 0 [(.int .i64 (i169)), (.int .i64 (i170)), (.int .i64 (i171)), (.int .u8 (i172))] ∧
 ∃ A184 : Addr, p13 = some A184 ∧
 ∃ h186 : Heap, ym h178 (Addr.add A184 2) (.slice a179 n180 c181) = some h186 ∧
 Fin B h186 (fun h' => ∃ m', m' < m83 ∧ J86 (IntKind.wrap .i64 ((i81) + (1))) m' h'))
def yU (B : RO) (a4 : Option Addr) (n5 : Nat) (c6 : Nat) (p13 : Option Addr) (i81 : Int) (m83 : Nat) (J86 : Int → Nat → Heap → Prop) (k95 : Nat) (i113 : Int) (i114 : Int) (i152 : Int) (h155 : Heap) (Q : Bool → Heap → Prop) : Prop :=
 ((i114 : Int) = 0 →
 ((i113 : Int) = i152 →
 Fin B h155 (fun h' => xt B a4 n5 c6 p13 i81 m83 J86 k95 h' Q)) ∧ (¬ ((i113 : Int) = i152) →
 Fin B h155 (Q (false)))) ∧ (¬ ((i114 : Int) = 0) →
 Fin B h155 (Q (false)))
def xr (B : RO) (a4 : Option Addr) (n5 : Nat) (c6 : Nat) (p13 : Option Addr) (i81 : Int) (m83 : Nat) (J86 : Int → Nat → Heap → Prop) (k95 : Nat) (i113 : Int) (i114 : Int) (i152 : Int) (h153 : Heap) (Q : Bool → Heap → Prop) : Prop :=
 ∃ i187 : Int, cellH B h153 ⟨k95, 1, none⟩ = some (.int .i64 (i187)) ∧
 ((i187 : Int) = 8 →
 ((i152 : Int) < (0) →
 ((i114 : Int) = 10 →
 Fin B h153 (fun h' => ∃ m', m' < m83 ∧ J86 (IntKind.wrap .i64 ((i81) + (1))) m' h')) ∧ (¬ ((i114 : Int) = 10) →
 Fin B h153 (Q (false)))) ∧ (¬ ((i152 : Int) < (0)) →
 Fin B h153 (fun h' => yU B a4 n5 c6 p13 i81 m83 J86 k95 i113 i114 i152 h' Q))) ∧ (¬ ((i187 : Int) = 8) →
 Fin B h153 (fun h' => yU B a4 n5 c6 p13 i81 m83 J86 k95 i113 i114 i152 h' Q))
def zy (B : RO) (a4 : Option Addr) (n5 : Nat) (c6 : Nat) (p13 : Option Addr) (i81 : Int) (m83 : Nat) (J86 : Int → Nat → Heap → Prop) (k95 : Nat) (i113 : Int) (i114 : Int) (i134 : Int) (k147 : Nat) (A189 : Addr) (a193 : Option Addr) (n194 : Nat) (c195 : Nat) (A198 : Addr) (l203 : List Value) (s205 : ByteArray) (s206 : ByteArray) (s207 : ByteArray) (A210 : Addr) (a214 : Option Addr) (n215 : Nat) (c216 : Nat) (i219 : Int) (i220 : Int) (i221 : Int) (i222 : Int) (A875 : Addr) (i876 : Int) (l877 : List Value) (h878 : Heap) (Q : Bool → Heap → Prop) : Prop :=
 List.length l877 = 23 ∧ ∃ h884 : Heap, zi A875 h878 0 l877 h884 ∧
 Fin B h884 (fun h' => xr B a4 n5 c6 p13 i81 m83 J86 k95 i113 i114 (i876) h' Q)
def yS (B : RO) (a4 : Option Addr) (n5 : Nat) (c6 : Nat) (p13 : Option Addr) (i81 : Int) (m83 : Nat) (J86 : Int → Nat → Heap → Prop) (k95 : Nat) (i113 : Int) (i114 : Int) (i134 : Int) (k147 : Nat) (A189 : Addr) (a193 : Option Addr) (n194 : Nat) (c195 : Nat) (A198 : Addr) (l203 : List Value) (s205 : ByteArray) (s206 : ByteArray) (s207 : ByteArray) (A210 : Addr) (a214 : Option Addr) (n215 : Nat) (c216 : Nat) (i219 : Int) (i220 : Int) (i221 : Int) (i222 : Int) (k1114 : Nat) (a1154 : Option Addr) (n1155 : Nat) (c1156 : Nat) (a1157 : Option Addr) (n1158 : Nat) (c1159 : Nat) (h1160 : Heap) (Q : Bool → Heap → Prop) : Prop :=
 semH PG B (Builtin.append_ #[31, 31] 31 #[(.slice a1154 n1155 c1156), (.slice a1157 n1158 c1159)]) h1160 (fun v h1166 => ∃ a1167 : Option Addr, ∃ n1168 : Nat, ∃ c1169 : Nat, v = (.slice a1167 n1168 c1169) ∧
 cellH B h1166 (Addr.add A189 3) = some (.slice a193 n194 c195) ∧ za B h1166 (Addr.add A198 (Int.toNat (i134) * 23)) 0 l203 ∧ za B h1166 ⟨k147, 0, none⟩ 0 [(.string s205), (.string s206), (.string s207)] ∧ cellH B h1166 (Addr.add A210 2) = some (.slice a214 n215 c216) ∧ za B h1166 ⟨k95, 1, none⟩ 0 [(.int .i64 (i219)), (.int .i64 (i220)), (.int .i64 (i221)), (.int .u8 (i222))] ∧
 zQ B l203 s205 s206 s207 a1167 n1168 c1169 h1166 (fun i1176 l1177 h1175 =>
 cellH B h1175 (Addr.add A189 3) = some (.slice a193 n194 c195) ∧ za B h1175 (Addr.add A198 (Int.toNat (i134) * 23)) 0 l203 ∧ za B h1175 ⟨k147, 0, none⟩ 0 [(.string s205), (.string s206), (.string s207)] ∧ cellH B h1175 (Addr.add A210 2) = some (.slice a214 n215 c216) ∧ za B h1175 ⟨k95, 1, none⟩ 0 [(.int .i64 (i219)), (.int .i64 (i220)), (.int .i64 (i221)), (.int .u8 (i222))] ∧
 zy B a4 n5 c6 p13 i81 m83 J86 k95 i113 i114 i134 k147 A189 a193 n194 c195 A198 l203 s205 s206 s207 A210 a214 n215 c216 i219 i220 i221 i222 ⟨k1114, 0, none⟩ (i1176) l1177 h1175 Q))
def yC (B : RO) (a4 : Option Addr) (n5 : Nat) (c6 : Nat) (p13 : Option Addr) (i81 : Int) (m83 : Nat) (J86 : Int → Nat → Heap → Prop) (k95 : Nat) (i113 : Int) (i114 : Int) (i134 : Int) (k147 : Nat) (A189 : Addr) (a193 : Option Addr) (n194 : Nat) (c195 : Nat) (A198 : Addr) (l203 : List Value) (s205 : ByteArray) (s206 : ByteArray) (s207 : ByteArray) (A210 : Addr) (a214 : Option Addr) (n215 : Nat) (c216 : Nat) (i219 : Int) (i220 : Int) (i221 : Int) (i222 : Int) (k1374 : Nat) (a1444 : Option Addr) (n1445 : Nat) (c1446 : Nat) (a1447 : Option Addr) (n1448 : Nat) (c1449 : Nat) (h1450 : Heap) (Q : Bool → Heap → Prop) : Prop :=
 semH PG B (Builtin.append_ #[31, 31] 31 #[(.slice a1444 n1445 c1446), (.slice a1447 n1448 c1449)]) h1450 (fun v h1456 => ∃ a1457 : Option Addr, ∃ n1458 : Nat, ∃ c1459 : Nat, v = (.slice a1457 n1458 c1459) ∧
 cellH B h1456 (Addr.add A189 3) = some (.slice a193 n194 c195) ∧ za B h1456 (Addr.add A198 (Int.toNat (i134) * 23)) 0 l203 ∧ za B h1456 ⟨k147, 0, none⟩ 0 [(.string s205), (.string s206), (.string s207)] ∧ cellH B h1456 (Addr.add A210 2) = some (.slice a214 n215 c216) ∧ za B h1456 ⟨k95, 1, none⟩ 0 [(.int .i64 (i219)), (.int .i64 (i220)), (.int .i64 (i221)), (.int .u8 (i222))] ∧
 zQ B l203 s205 s206 s207 a1457 n1458 c1459 h1456 (fun i1466 l1467 h1465 =>
 cellH B h1465 (Addr.add A189 3) = some (.slice a193 n194 c195) ∧ za B h1465 (Addr.add A198 (Int.toNat (i134) * 23)) 0 l203 ∧ za B h1465 ⟨k147, 0, none⟩ 0 [(.string s205), (.string s206), (.string s207)] ∧ cellH B h1465 (Addr.add A210 2) = some (.slice a214 n215 c216) ∧ za B h1465 ⟨k95, 1, none⟩ 0 [(.int .i64 (i219)), (.int .i64 (i220)), (.int .i64 (i221)), (.int .u8 (i222))] ∧
 zy B a4 n5 c6 p13 i81 m83 J86 k95 i113 i114 i134 k147 A189 a193 n194 c195 A198 l203 s205 s206 s207 A210 a214 n215 c216 i219 i220 i221 i222 ⟨k1374, 0, none⟩ (i1466) l1467 h1465 Q))
def xq (B : RO) (a4 : Option Addr) (n5 : Nat) (c6 : Nat) (p13 : Option Addr) (i81 : Int) (m83 : Nat) (J86 : Int → Nat → Heap → Prop) (k95 : Nat) (i113 : Int) (i114 : Int) (i134 : Int) (h136 : Heap) (Q : Bool → Heap → Prop) : Prop :=
 ∃ A137 : Addr, p13 = some A137 ∧
 ∃ p139 : Option Addr, cellH B h136 A137 = some (.pointer p139) ∧
 yI B p139 h136 (fun l141 s142 s143 s144 h140 =>
 ∀ k145 : Nat, h140 k145 = none → B k145 = none → ∀ h146 : Heap, h146 = Heap.set h140 k145 (.vec 55 (zc [(.int .i64 (0)), (.int .i64 (0)), (.int .i64 (0)), (.int .i64 (0)), (.int .i64 (0)), (.int .i64 (0)), (.int .i64 (0)), (.int .i64 (0)), (.bool false), (.string ByteArray.empty), (.bool false), (.string ByteArray.empty), (.bool false), (.string ByteArray.empty), (.bool false), (.string ByteArray.empty), (.bool false), (.string ByteArray.empty), (.bool false), (.string ByteArray.empty), (.int .i64 (0)), (.int .i64 (0)), (.int .i64 (0))]) 23) →
 ∀ k147 : Nat, h146 k147 = none → B k147 = none → ∀ h148 : Heap, h148 = Heap.set h146 k147 (.vec 56 (zc [(.string ByteArray.empty), (.string ByteArray.empty), (.string ByteArray.empty)]) 3) →
 List.length l141 = 23 ∧ ∃ h149 : Heap, zi ⟨k145, 0, none⟩ h148 0 l141 h149 ∧
 ∃ h150 : Heap, zi ⟨k147, 0, none⟩ h149 0 [(.string s142), (.string s143), (.string s144)] h150 ∧
 ∃ A189 : Addr, p13 = some A189 ∧
 ∃ a193 : Option Addr, ∃ n194 : Nat, ∃ c195 : Nat, cellH B h150 (Addr.add A189 3) = some (.slice a193 n194 c195) ∧
 ∃ A198 : Addr, a193 = some A198 ∧ 0 ≤ (i134 : Int) ∧ (i134 : Int) < (n194 : Nat) ∧
 ∃ l203 : List Value, List.length l203 = 23 ∧ za B h150 (Addr.add A198 (Int.toNat (i134) * 23)) 0 l203 ∧
 ∃ s205 : ByteArray, ∃ s206 : ByteArray, ∃ s207 : ByteArray, za B h150 ⟨k147, 0, none⟩ 0 [(.string s205), (.string s206), (.string s207)] ∧
 ∃ A210 : Addr, p13 = some A210 ∧
 ∃ a214 : Option Addr, ∃ n215 : Nat, ∃ c216 : Nat, cellH B h150 (Addr.add A210 2) = some (.slice a214 n215 c216) ∧
 ∃ i219 : Int, ∃ i220 : Int, ∃ i221 : Int, ∃ i222 : Int, za B h150 ⟨k95, 1, none⟩ 0 [(.int .i64 (i219)), (.int .i64 (i220)), (.int .i64 (i221)), (.int .u8 (i222))] ∧
 (∀ k885 : Nat, h150 k885 = none → B k885 = none → ∀ h886 : Heap, h886 = Heap.set h150 k885 (.vec 38 [] 0) →
 cellH B h886 (Addr.add A189 3) = some (.slice a193 n194 c195) ∧ za B h886 (Addr.add A198 (Int.toNat (i134) * 23)) 0 l203 ∧ za B h886 ⟨k147, 0, none⟩ 0 [(.string s205), (.string s206), (.string s207)] ∧ cellH B h886 (Addr.add A210 2) = some (.slice a214 n215 c216) ∧ za B h886 ⟨k95, 1, none⟩ 0 [(.int .i64 (i219)), (.int .i64 (i220)), (.int .i64 (i221)), (.int .u8 (i222))] ∧
 (semH PG B (Builtin.append_ #[31, 31] 31 #[(.slice (some ⟨k885, 0, none⟩) 0 0), (.slice a214 n215 c216)]) h886 (fun v h892 => ∃ a893 : Option Addr, ∃ n894 : Nat, ∃ c895 : Nat, v = (.slice a893 n894 c895) ∧
 cellH B h892 (Addr.add A189 3) = some (.slice a193 n194 c195) ∧ za B h892 (Addr.add A198 (Int.toNat (i134) * 23)) 0 l203 ∧ za B h892 ⟨k147, 0, none⟩ 0 [(.string s205), (.string s206), (.string s207)] ∧ cellH B h892 (Addr.add A210 2) = some (.slice a214 n215 c216) ∧ za B h892 ⟨k95, 1, none⟩ 0 [(.int .i64 (i219)), (.int .i64 (i220)), (.int .i64 (i221)), (.int .u8 (i222))] ∧
 (∀ k901 : Nat, h892 k901 = none → B k901 = none → ∀ h902 : Heap, h902 = Heap.set h892 k901 (.vec 38 (zc [(.int .i64 (i219)), (.int .i64 (i220)), (.int .i64 (i221)), (.int .u8 (i222))]) 4) →
 cellH B h902 (Addr.add A189 3) = some (.slice a193 n194 c195) ∧ za B h902 (Addr.add A198 (Int.toNat (i134) * 23)) 0 l203 ∧ za B h902 ⟨k147, 0, none⟩ 0 [(.string s205), (.string s206), (.string s207)] ∧ cellH B h902 (Addr.add A210 2) = some (.slice a214 n215 c216) ∧ za B h902 ⟨k95, 1, none⟩ 0 [(.int .i64 (i219)), (.int .i64 (i220)), (.int .i64 (i221)), (.int .u8 (i222))] ∧
 (semH PG B (Builtin.append_ #[31, 31] 31 #[(.slice a893 n894 c895), (.slice (some ⟨k901, 0, none⟩) 1 1)]) h902 (fun v h908 => ∃ a909 : Option Addr, ∃ n910 : Nat, ∃ c911 : Nat, v = (.slice a909 n910 c911) ∧
 cellH B h908 (Addr.add A189 3) = some (.slice a193 n194 c195) ∧ za B h908 (Addr.add A198 (Int.toNat (i134) * 23)) 0 l203 ∧ za B h908 ⟨k147, 0, none⟩ 0 [(.string s205), (.string s206), (.string s207)] ∧ cellH B h908 (Addr.add A210 2) = some (.slice a214 n215 c216) ∧ za B h908 ⟨k95, 1, none⟩ 0 [(.int .i64 (i219)), (.int .i64 (i220)), (.int .i64 (i221)), (.int .u8 (i222))] ∧
 (zQ B l203 s205 s206 s207 a909 n910 c911 h908 (fun i918 l919 h917 =>
 cellH B h917 (Addr.add A189 3) = some (.slice a193 n194 c195) ∧ za B h917 (Addr.add A198 (Int.toNat (i134) * 23)) 0 l203 ∧ za B h917 ⟨k147, 0, none⟩ 0 [(.string s205), (.string s206), (.string s207)] ∧ cellH B h917 (Addr.add A210 2) = some (.slice a214 n215 c216) ∧ za B h917 ⟨k95, 1, none⟩ 0 [(.int .i64 (i219)), (.int .i64 (i220)), (.int .i64 (i221)), (.int .u8 (i222))] ∧
 ∀ k925 : Nat, h917 k925 = none → B k925 = none → ∀ h926 : Heap, h926 = Heap.set h917 k925 (.vec 55 (zc [(.int .i64 (0)), (.int .i64 (0)), (.int .i64 (0)), (.int .i64 (0)), (.int .i64 (0)), (.int .i64 (0)), (.int .i64 (0)), (.int .i64 (0)), (.bool false), (.string ByteArray.empty), (.bool false), (.string ByteArray.empty), (.bool false), (.string ByteArray.empty), (.bool false), (.string ByteArray.empty), (.bool false), (.string ByteArray.empty), (.bool false), (.string ByteArray.empty), (.int .i64 (0)), (.int .i64 (0)), (.int .i64 (0))]) 23) →
 cellH B h926 (Addr.add A189 3) = some (.slice a193 n194 c195) ∧ za B h926 (Addr.add A198 (Int.toNat (i134) * 23)) 0 l203 ∧ za B h926 ⟨k147, 0, none⟩ 0 [(.string s205), (.string s206), (.string s207)] ∧ cellH B h926 (Addr.add A210 2) = some (.slice a214 n215 c216) ∧ za B h926 ⟨k95, 1, none⟩ 0 [(.int .i64 (i219)), (.int .i64 (i220)), (.int .i64 (i221)), (.int .u8 (i222))] ∧
 zy B a4 n5 c6 p13 i81 m83 J86 k95 i113 i114 i134 k147 A189 a193 n194 c195 A198 l203 s205 s206 s207 A210 a214 n215 c216 i219 i220 i221 i222 ⟨k925, 0, none⟩ (i918) l919 h926 Q)) ∧
 (∀ k932 : Nat, h908 k932 = none → B k932 = none → ∀ h933 : Heap, h933 = Heap.set h908 k932 (.vec 55 (zc [(.int .i64 (0)), (.int .i64 (0)), (.int .i64 (0)), (.int .i64 (0)), (.int .i64 (0)), (.int .i64 (0)), (.int .i64 (0)), (.int .i64 (0)), (.bool false), (.string ByteArray.empty), (.bool false), (.string ByteArray.empty), (.bool false), (.string ByteArray.empty), (.bool false), (.string ByteArray.empty), (.bool false), (.string ByteArray.empty), (.bool false), (.string ByteArray.empty), (.int .i64 (0)), (.int .i64 (0)), (.int .i64 (0))]) 23) →
 cellH B h933 (Addr.add A189 3) = some (.slice a193 n194 c195) ∧ za B h933 (Addr.add A198 (Int.toNat (i134) * 23)) 0 l203 ∧ za B h933 ⟨k147, 0, none⟩ 0 [(.string s205), (.string s206), (.string s207)] ∧ cellH B h933 (Addr.add A210 2) = some (.slice a214 n215 c216) ∧ za B h933 ⟨k95, 1, none⟩ 0 [(.int .i64 (i219)), (.int .i64 (i220)), (.int .i64 (i221)), (.int .u8 (i222))] ∧
 zQ B l203 s205 s206 s207 a909 n910 c911 h933 (fun i940 l941 h939 =>
 cellH B h939 (Addr.add A189 3) = some (.slice a193 n194 c195) ∧ za B h939 (Addr.add A198 (Int.toNat (i134) * 23)) 0 l203 ∧ za B h939 ⟨k147, 0, none⟩ 0 [(.string s205), (.string s206), (.string s207)] ∧ cellH B h939 (Addr.add A210 2) = some (.slice a214 n215 c216) ∧ za B h939 ⟨k95, 1, none⟩ 0 [(.int .i64 (i219)), (.int .i64 (i220)), (.int .i64 (i221)), (.int .u8 (i222))] ∧
 zy B a4 n5 c6 p13 i81 m83 J86 k95 i113 i114 i134 k147 A189 a193 n194 c195 A198 l203 s205 s206 s207 A210 a214 n215 c216 i219 i220 i221 i222 ⟨k932, 0, none⟩ (i940) l941 h939 Q)))) ∧
 (∀ k947 : Nat, h902 k947 = none → B k947 = none → ∀ h948 : Heap, h948 = Heap.set h902 k947 (.vec 55 (zc [(.int .i64 (0)), (.int .i64 (0)), (.int .i64 (0)), (.int .i64 (0)), (.int .i64 (0)), (.int .i64 (0)), (.int .i64 (0)), (.int .i64 (0)), (.bool false), (.string ByteArray.empty), (.bool false), (.string ByteArray.empty), (.bool false), (.string ByteArray.empty), (.bool false), (.string ByteArray.empty), (.bool false), (.string ByteArray.empty), (.bool false), (.string ByteArray.empty), (.int .i64 (0)), (.int .i64 (0)), (.int .i64 (0))]) 23) →
 cellH B h948 (Addr.add A189 3) = some (.slice a193 n194 c195) ∧ za B h948 (Addr.add A198 (Int.toNat (i134) * 23)) 0 l203 ∧ za B h948 ⟨k147, 0, none⟩ 0 [(.string s205), (.string s206), (.string s207)] ∧ cellH B h948 (Addr.add A210 2) = some (.slice a214 n215 c216) ∧ za B h948 ⟨k95, 1, none⟩ 0 [(.int .i64 (i219)), (.int .i64 (i220)), (.int .i64 (i221)), (.int .u8 (i222))] ∧
 semH PG B (Builtin.append_ #[31, 31] 31 #[(.slice a893 n894 c895), (.slice (some ⟨k901, 0, none⟩) 1 1)]) h948 (fun v h954 => ∃ a955 : Option Addr, ∃ n956 : Nat, ∃ c957 : Nat, v = (.slice a955 n956 c957) ∧
 cellH B h954 (Addr.add A189 3) = some (.slice a193 n194 c195) ∧ za B h954 (Addr.add A198 (Int.toNat (i134) * 23)) 0 l203 ∧ za B h954 ⟨k147, 0, none⟩ 0 [(.string s205), (.string s206), (.string s207)] ∧ cellH B h954 (Addr.add A210 2) = some (.slice a214 n215 c216) ∧ za B h954 ⟨k95, 1, none⟩ 0 [(.int .i64 (i219)), (.int .i64 (i220)), (.int .i64 (i221)), (.int .u8 (i222))] ∧
 zQ B l203 s205 s206 s207 a955 n956 c957 h954 (fun i964 l965 h963 =>
 cellH B h963 (Addr.add A189 3) = some (.slice a193 n194 c195) ∧ za B h963 (Addr.add A198 (Int.toNat (i134) * 23)) 0 l203 ∧ za B h963 ⟨k147, 0, none⟩ 0 [(.string s205), (.string s206), (.string s207)] ∧ cellH B h963 (Addr.add A210 2) = some (.slice a214 n215 c216) ∧ za B h963 ⟨k95, 1, none⟩ 0 [(.int .i64 (i219)), (.int .i64 (i220)), (.int .i64 (i221)), (.int .u8 (i222))] ∧
 zy B a4 n5 c6 p13 i81 m83 J86 k95 i113 i114 i134 k147 A189 a193 n194 c195 A198 l203 s205 s206 s207 A210 a214 n215 c216 i219 i220 i221 i222 ⟨k947, 0, none⟩ (i964) l965 h963 Q)))) ∧
 (∀ k971 : Nat, h892 k971 = none → B k971 = none → ∀ h972 : Heap, h972 = Heap.set h892 k971 (.vec 55 (zc [(.int .i64 (0)), (.int .i64 (0)), (.int .i64 (0)), (.int .i64 (0)), (.int .i64 (0)), (.int .i64 (0)), (.int .i64 (0)), (.int .i64 (0)), (.bool false), (.string ByteArray.empty), (.bool false), (.string ByteArray.empty), (.bool false), (.string ByteArray.empty), (.bool false), (.string ByteArray.empty), (.bool false), (.string ByteArray.empty), (.bool false), (.string ByteArray.empty), (.int .i64 (0)), (.int .i64 (0)), (.int .i64 (0))]) 23) →
 cellH B h972 (Addr.add A189 3) = some (.slice a193 n194 c195) ∧ za B h972 (Addr.add A198 (Int.toNat (i134) * 23)) 0 l203 ∧ za B h972 ⟨k147, 0, none⟩ 0 [(.string s205), (.string s206), (.string s207)] ∧ cellH B h972 (Addr.add A210 2) = some (.slice a214 n215 c216) ∧ za B h972 ⟨k95, 1, none⟩ 0 [(.int .i64 (i219)), (.int .i64 (i220)), (.int .i64 (i221)), (.int .u8 (i222))] ∧
 ∀ k978 : Nat, h972 k978 = none → B k978 = none → ∀ h979 : Heap, h979 = Heap.set h972 k978 (.vec 38 (zc [(.int .i64 (i219)), (.int .i64 (i220)), (.int .i64 (i221)), (.int .u8 (i222))]) 4) →
 cellH B h979 (Addr.add A189 3) = some (.slice a193 n194 c195) ∧ za B h979 (Addr.add A198 (Int.toNat (i134) * 23)) 0 l203 ∧ za B h979 ⟨k147, 0, none⟩ 0 [(.string s205), (.string s206), (.string s207)] ∧ cellH B h979 (Addr.add A210 2) = some (.slice a214 n215 c216) ∧ za B h979 ⟨k95, 1, none⟩ 0 [(.int .i64 (i219)), (.int .i64 (i220)), (.int .i64 (i221)), (.int .u8 (i222))] ∧
 semH PG B (Builtin.append_ #[31, 31] 31 #[(.slice a893 n894 c895), (.slice (some ⟨k978, 0, none⟩) 1 1)]) h979 (fun v h985 => ∃ a986 : Option Addr, ∃ n987 : Nat, ∃ c988 : Nat, v = (.slice a986 n987 c988) ∧
 cellH B h985 (Addr.add A189 3) = some (.slice a193 n194 c195) ∧ za B h985 (Addr.add A198 (Int.toNat (i134) * 23)) 0 l203 ∧ za B h985 ⟨k147, 0, none⟩ 0 [(.string s205), (.string s206), (.string s207)] ∧ cellH B h985 (Addr.add A210 2) = some (.slice a214 n215 c216) ∧ za B h985 ⟨k95, 1, none⟩ 0 [(.int .i64 (i219)), (.int .i64 (i220)), (.int .i64 (i221)), (.int .u8 (i222))] ∧
 zQ B l203 s205 s206 s207 a986 n987 c988 h985 (fun i995 l996 h994 =>
 cellH B h994 (Addr.add A189 3) = some (.slice a193 n194 c195) ∧ za B h994 (Addr.add A198 (Int.toNat (i134) * 23)) 0 l203 ∧ za B h994 ⟨k147, 0, none⟩ 0 [(.string s205), (.string s206), (.string s207)] ∧ cellH B h994 (Addr.add A210 2) = some (.slice a214 n215 c216) ∧ za B h994 ⟨k95, 1, none⟩ 0 [(.int .i64 (i219)), (.int .i64 (i220)), (.int .i64 (i221)), (.int .u8 (i222))] ∧
 zy B a4 n5 c6 p13 i81 m83 J86 k95 i113 i114 i134 k147 A189 a193 n194 c195 A198 l203 s205 s206 s207 A210 a214 n215 c216 i219 i220 i221 i222 ⟨k971, 0, none⟩ (i995) l996 h994 Q))))) ∧
 (∀ k1002 : Nat, h886 k1002 = none → B k1002 = none → ∀ h1003 : Heap, h1003 = Heap.set h886 k1002 (.vec 38 (zc [(.int .i64 (i219)), (.int .i64 (i220)), (.int .i64 (i221)), (.int .u8 (i222))]) 4) →
 cellH B h1003 (Addr.add A189 3) = some (.slice a193 n194 c195) ∧ za B h1003 (Addr.add A198 (Int.toNat (i134) * 23)) 0 l203 ∧ za B h1003 ⟨k147, 0, none⟩ 0 [(.string s205), (.string s206), (.string s207)] ∧ cellH B h1003 (Addr.add A210 2) = some (.slice a214 n215 c216) ∧ za B h1003 ⟨k95, 1, none⟩ 0 [(.int .i64 (i219)), (.int .i64 (i220)), (.int .i64 (i221)), (.int .u8 (i222))] ∧
 (semH PG B (Builtin.append_ #[31, 31] 31 #[(.slice (some ⟨k885, 0, none⟩) 0 0), (.slice a214 n215 c216)]) h1003 (fun v h1009 => ∃ a1010 : Option Addr, ∃ n1011 : Nat, ∃ c1012 : Nat, v = (.slice a1010 n1011 c1012) ∧
 cellH B h1009 (Addr.add A189 3) = some (.slice a193 n194 c195) ∧ za B h1009 (Addr.add A198 (Int.toNat (i134) * 23)) 0 l203 ∧ za B h1009 ⟨k147, 0, none⟩ 0 [(.string s205), (.string s206), (.string s207)] ∧ cellH B h1009 (Addr.add A210 2) = some (.slice a214 n215 c216) ∧ za B h1009 ⟨k95, 1, none⟩ 0 [(.int .i64 (i219)), (.int .i64 (i220)), (.int .i64 (i221)), (.int .u8 (i222))] ∧
 (semH PG B (Builtin.append_ #[31, 31] 31 #[(.slice a1010 n1011 c1012), (.slice (some ⟨k1002, 0, none⟩) 1 1)]) h1009 (fun v h1018 => ∃ a1019 : Option Addr, ∃ n1020 : Nat, ∃ c1021 : Nat, v = (.slice a1019 n1020 c1021) ∧
 cellH B h1018 (Addr.add A189 3) = some (.slice a193 n194 c195) ∧ za B h1018 (Addr.add A198 (Int.toNat (i134) * 23)) 0 l203 ∧ za B h1018 ⟨k147, 0, none⟩ 0 [(.string s205), (.string s206), (.string s207)] ∧ cellH B h1018 (Addr.add A210 2) = some (.slice a214 n215 c216) ∧ za B h1018 ⟨k95, 1, none⟩ 0 [(.int .i64 (i219)), (.int .i64 (i220)), (.int .i64 (i221)), (.int .u8 (i222))] ∧
 (zQ B l203 s205 s206 s207 a1019 n1020 c1021 h1018 (fun i1028 l1029 h1027 =>
 cellH B h1027 (Addr.add A189 3) = some (.slice a193 n194 c195) ∧ za B h1027 (Addr.add A198 (Int.toNat (i134) * 23)) 0 l203 ∧ za B h1027 ⟨k147, 0, none⟩ 0 [(.string s205), (.string s206), (.string s207)] ∧ cellH B h1027 (Addr.add A210 2) = some (.slice a214 n215 c216) ∧ za B h1027 ⟨k95, 1, none⟩ 0 [(.int .i64 (i219)), (.int .i64 (i220)), (.int .i64 (i221)), (.int .u8 (i222))] ∧
 ∀ k1035 : Nat, h1027 k1035 = none → B k1035 = none → ∀ h1036 : Heap, h1036 = Heap.set h1027 k1035 (.vec 55 (zc [(.int .i64 (0)), (.int .i64 (0)), (.int .i64 (0)), (.int .i64 (0)), (.int .i64 (0)), (.int .i64 (0)), (.int .i64 (0)), (.int .i64 (0)), (.bool false), (.string ByteArray.empty), (.bool false), (.string ByteArray.empty), (.bool false), (.string ByteArray.empty), (.bool false), (.string ByteArray.empty), (.bool false), (.string ByteArray.empty), (.bool false), (.string ByteArray.empty), (.int .i64 (0)), (.int .i64 (0)), (.int .i64 (0))]) 23) →
 cellH B h1036 (Addr.add A189 3) = some (.slice a193 n194 c195) ∧ za B h1036 (Addr.add A198 (Int.toNat (i134) * 23)) 0 l203 ∧ za B h1036 ⟨k147, 0, none⟩ 0 [(.string s205), (.string s206), (.string s207)] ∧ cellH B h1036 (Addr.add A210 2) = some (.slice a214 n215 c216) ∧ za B h1036 ⟨k95, 1, none⟩ 0 [(.int .i64 (i219)), (.int .i64 (i220)), (.int .i64 (i221)), (.int .u8 (i222))] ∧
 zy B a4 n5 c6 p13 i81 m83 J86 k95 i113 i114 i134 k147 A189 a193 n194 c195 A198 l203 s205 s206 s207 A210 a214 n215 c216 i219 i220 i221 i222 ⟨k1035, 0, none⟩ (i1028) l1029 h1036 Q)) ∧
 (∀ k1042 : Nat, h1018 k1042 = none → B k1042 = none → ∀ h1043 : Heap, h1043 = Heap.set h1018 k1042 (.vec 55 (zc [(.int .i64 (0)), (.int .i64 (0)), (.int .i64 (0)), (.int .i64 (0)), (.int .i64 (0)), (.int .i64 (0)), (.int .i64 (0)), (.int .i64 (0)), (.bool false), (.string ByteArray.empty), (.bool false), (.string ByteArray.empty), (.bool false), (.string ByteArray.empty), (.bool false), (.string ByteArray.empty), (.bool false), (.string ByteArray.empty), (.bool false), (.string ByteArray.empty), (.int .i64 (0)), (.int .i64 (0)), (.int .i64 (0))]) 23) →
 cellH B h1043 (Addr.add A189 3) = some (.slice a193 n194 c195) ∧ za B h1043 (Addr.add A198 (Int.toNat (i134) * 23)) 0 l203 ∧ za B h1043 ⟨k147, 0, none⟩ 0 [(.string s205), (.string s206), (.string s207)] ∧ cellH B h1043 (Addr.add A210 2) = some (.slice a214 n215 c216) ∧ za B h1043 ⟨k95, 1, none⟩ 0 [(.int .i64 (i219)), (.int .i64 (i220)), (.int .i64 (i221)), (.int .u8 (i222))] ∧
 zQ B l203 s205 s206 s207 a1019 n1020 c1021 h1043 (fun i1050 l1051 h1049 =>
 cellH B h1049 (Addr.add A189 3) = some (.slice a193 n194 c195) ∧ za B h1049 (Addr.add A198 (Int.toNat (i134) * 23)) 0 l203 ∧ za B h1049 ⟨k147, 0, none⟩ 0 [(.string s205), (.string s206), (.string s207)] ∧ cellH B h1049 (Addr.add A210 2) = some (.slice a214 n215 c216) ∧ za B h1049 ⟨k95, 1, none⟩ 0 [(.int .i64 (i219)), (.int .i64 (i220)), (.int .i64 (i221)), (.int .u8 (i222))] ∧
 zy B a4 n5 c6 p13 i81 m83 J86 k95 i113 i114 i134 k147 A189 a193 n194 c195 A198 l203 s205 s206 s207 A210 a214 n215 c216 i219 i220 i221 i222 ⟨k1042, 0, none⟩ (i1050) l1051 h1049 Q)))) ∧
 (∀ k1057 : Nat, h1009 k1057 = none → B k1057 = none → ∀ h1058 : Heap, h1058 = Heap.set h1009 k1057 (.vec 55 (zc [(.int .i64 (0)), (.int .i64 (0)), (.int .i64 (0)), (.int .i64 (0)), (.int .i64 (0)), (.int .i64 (0)), (.int .i64 (0)), (.int .i64 (0)), (.bool false), (.string ByteArray.empty), (.bool false), (.string ByteArray.empty), (.bool false), (.string ByteArray.empty), (.bool false), (.string ByteArray.empty), (.bool false), (.string ByteArray.empty), (.bool false), (.string ByteArray.empty), (.int .i64 (0)), (.int .i64 (0)), (.int .i64 (0))]) 23) →
 cellH B h1058 (Addr.add A189 3) = some (.slice a193 n194 c195) ∧ za B h1058 (Addr.add A198 (Int.toNat (i134) * 23)) 0 l203 ∧ za B h1058 ⟨k147, 0, none⟩ 0 [(.string s205), (.string s206), (.string s207)] ∧ cellH B h1058 (Addr.add A210 2) = some (.slice a214 n215 c216) ∧ za B h1058 ⟨k95, 1, none⟩ 0 [(.int .i64 (i219)), (.int .i64 (i220)), (.int .i64 (i221)), (.int .u8 (i222))] ∧
 semH PG B (Builtin.append_ #[31, 31] 31 #[(.slice a1010 n1011 c1012), (.slice (some ⟨k1002, 0, none⟩) 1 1)]) h1058 (fun v h1064 => ∃ a1065 : Option Addr, ∃ n1066 : Nat, ∃ c1067 : Nat, v = (.slice a1065 n1066 c1067) ∧
 cellH B h1064 (Addr.add A189 3) = some (.slice a193 n194 c195) ∧ za B h1064 (Addr.add A198 (Int.toNat (i134) * 23)) 0 l203 ∧ za B h1064 ⟨k147, 0, none⟩ 0 [(.string s205), (.string s206), (.string s207)] ∧ cellH B h1064 (Addr.add A210 2) = some (.slice a214 n215 c216) ∧ za B h1064 ⟨k95, 1, none⟩ 0 [(.int .i64 (i219)), (.int .i64 (i220)), (.int .i64 (i221)), (.int .u8 (i222))] ∧
 zQ B l203 s205 s206 s207 a1065 n1066 c1067 h1064 (fun i1074 l1075 h1073 =>
 cellH B h1073 (Addr.add A189 3) = some (.slice a193 n194 c195) ∧ za B h1073 (Addr.add A198 (Int.toNat (i134) * 23)) 0 l203 ∧ za B h1073 ⟨k147, 0, none⟩ 0 [(.string s205), (.string s206), (.string s207)] ∧ cellH B h1073 (Addr.add A210 2) = some (.slice a214 n215 c216) ∧ za B h1073 ⟨k95, 1, none⟩ 0 [(.int .i64 (i219)), (.int .i64 (i220)), (.int .i64 (i221)), (.int .u8 (i222))] ∧
 zy B a4 n5 c6 p13 i81 m83 J86 k95 i113 i114 i134 k147 A189 a193 n194 c195 A198 l203 s205 s206 s207 A210 a214 n215 c216 i219 i220 i221 i222 ⟨k1057, 0, none⟩ (i1074) l1075 h1073 Q))))) ∧
 (∀ k1081 : Nat, h1003 k1081 = none → B k1081 = none → ∀ h1082 : Heap, h1082 = Heap.set h1003 k1081 (.vec 55 (zc [(.int .i64 (0)), (.int .i64 (0)), (.int .i64 (0)), (.int .i64 (0)), (.int .i64 (0)), (.int .i64 (0)), (.int .i64 (0)), (.int .i64 (0)), (.bool false), (.string ByteArray.empty), (.bool false), (.string ByteArray.empty), (.bool false), (.string ByteArray.empty), (.bool false), (.string ByteArray.empty), (.bool false), (.string ByteArray.empty), (.bool false), (.string ByteArray.empty), (.int .i64 (0)), (.int .i64 (0)), (.int .i64 (0))]) 23) →
 cellH B h1082 (Addr.add A189 3) = some (.slice a193 n194 c195) ∧ za B h1082 (Addr.add A198 (Int.toNat (i134) * 23)) 0 l203 ∧ za B h1082 ⟨k147, 0, none⟩ 0 [(.string s205), (.string s206), (.string s207)] ∧ cellH B h1082 (Addr.add A210 2) = some (.slice a214 n215 c216) ∧ za B h1082 ⟨k95, 1, none⟩ 0 [(.int .i64 (i219)), (.int .i64 (i220)), (.int .i64 (i221)), (.int .u8 (i222))] ∧
 semH PG B (Builtin.append_ #[31, 31] 31 #[(.slice (some ⟨k885, 0, none⟩) 0 0), (.slice a214 n215 c216)]) h1082 (fun v h1088 => ∃ a1089 : Option Addr, ∃ n1090 : Nat, ∃ c1091 : Nat, v = (.slice a1089 n1090 c1091) ∧
 cellH B h1088 (Addr.add A189 3) = some (.slice a193 n194 c195) ∧ za B h1088 (Addr.add A198 (Int.toNat (i134) * 23)) 0 l203 ∧ za B h1088 ⟨k147, 0, none⟩ 0 [(.string s205), (.string s206), (.string s207)] ∧ cellH B h1088 (Addr.add A210 2) = some (.slice a214 n215 c216) ∧ za B h1088 ⟨k95, 1, none⟩ 0 [(.int .i64 (i219)), (.int .i64 (i220)), (.int .i64 (i221)), (.int .u8 (i222))] ∧
 semH PG B (Builtin.append_ #[31, 31] 31 #[(.slice a1089 n1090 c1091), (.slice (some ⟨k1002, 0, none⟩) 1 1)]) h1088 (fun v h1097 => ∃ a1098 : Option Addr, ∃ n1099 : Nat, ∃ c1100 : Nat, v = (.slice a1098 n1099 c1100) ∧
 cellH B h1097 (Addr.add A189 3) = some (.slice a193 n194 c195) ∧ za B h1097 (Addr.add A198 (Int.toNat (i134) * 23)) 0 l203 ∧ za B h1097 ⟨k147, 0, none⟩ 0 [(.string s205), (.string s206), (.string s207)] ∧ cellH B h1097 (Addr.add A210 2) = some (.slice a214 n215 c216) ∧ za B h1097 ⟨k95, 1, none⟩ 0 [(.int .i64 (i219)), (.int .i64 (i220)), (.int .i64 (i221)), (.int .u8 (i222))] ∧
 zQ B l203 s205 s206 s207 a1098 n1099 c1100 h1097 (fun i1107 l1108 h1106 =>
 cellH B h1106 (Addr.add A189 3) = some (.slice a193 n194 c195) ∧ za B h1106 (Addr.add A198 (Int.toNat (i134) * 23)) 0 l203 ∧ za B h1106 ⟨k147, 0, none⟩ 0 [(.string s205), (.string s206), (.string s207)] ∧ cellH B h1106 (Addr.add A210 2) = some (.slice a214 n215 c216) ∧ za B h1106 ⟨k95, 1, none⟩ 0 [(.int .i64 (i219)), (.int .i64 (i220)), (.int .i64 (i221)), (.int .u8 (i222))] ∧
 zy B a4 n5 c6 p13 i81 m83 J86 k95 i113 i114 i134 k147 A189 a193 n194 c195 A198 l203 s205 s206 s207 A210 a214 n215 c216 i219 i220 i221 i222 ⟨k1081, 0, none⟩ (i1107) l1108 h1106 Q))))) ∧
 (∀ k1114 : Nat, h886 k1114 = none → B k1114 = none → ∀ h1115 : Heap, h1115 = Heap.set h886 k1114 (.vec 55 (zc [(.int .i64 (0)), (.int .i64 (0)), (.int .i64 (0)), (.int .i64 (0)), (.int .i64 (0)), (.int .i64 (0)), (.int .i64 (0)), (.int .i64 (0)), (.bool false), (.string ByteArray.empty), (.bool false), (.string ByteArray.empty), (.bool false), (.string ByteArray.empty), (.bool false), (.string ByteArray.empty), (.bool false), (.string ByteArray.empty), (.bool false), (.string ByteArray.empty), (.int .i64 (0)), (.int .i64 (0)), (.int .i64 (0))]) 23) →
 cellH B h1115 (Addr.add A189 3) = some (.slice a193 n194 c195) ∧ za B h1115 (Addr.add A198 (Int.toNat (i134) * 23)) 0 l203 ∧ za B h1115 ⟨k147, 0, none⟩ 0 [(.string s205), (.string s206), (.string s207)] ∧ cellH B h1115 (Addr.add A210 2) = some (.slice a214 n215 c216) ∧ za B h1115 ⟨k95, 1, none⟩ 0 [(.int .i64 (i219)), (.int .i64 (i220)), (.int .i64 (i221)), (.int .u8 (i222))] ∧
 (semH PG B (Builtin.append_ #[31, 31] 31 #[(.slice (some ⟨k885, 0, none⟩) 0 0), (.slice a214 n215 c216)]) h1115 (fun v h1183 => ∃ a1184 : Option Addr, ∃ n1185 : Nat, ∃ c1186 : Nat, v = (.slice a1184 n1185 c1186) ∧
 cellH B h1183 (Addr.add A189 3) = some (.slice a193 n194 c195) ∧ za B h1183 (Addr.add A198 (Int.toNat (i134) * 23)) 0 l203 ∧ za B h1183 ⟨k147, 0, none⟩ 0 [(.string s205), (.string s206), (.string s207)] ∧ cellH B h1183 (Addr.add A210 2) = some (.slice a214 n215 c216) ∧ za B h1183 ⟨k95, 1, none⟩ 0 [(.int .i64 (i219)), (.int .i64 (i220)), (.int .i64 (i221)), (.int .u8 (i222))] ∧
 ∀ k1192 : Nat, h1183 k1192 = none → B k1192 = none → ∀ h1193 : Heap, h1193 = Heap.set h1183 k1192 (.vec 38 (zc [(.int .i64 (i219)), (.int .i64 (i220)), (.int .i64 (i221)), (.int .u8 (i222))]) 4) →
 cellH B h1193 (Addr.add A189 3) = some (.slice a193 n194 c195) ∧ za B h1193 (Addr.add A198 (Int.toNat (i134) * 23)) 0 l203 ∧ za B h1193 ⟨k147, 0, none⟩ 0 [(.string s205), (.string s206), (.string s207)] ∧ cellH B h1193 (Addr.add A210 2) = some (.slice a214 n215 c216) ∧ za B h1193 ⟨k95, 1, none⟩ 0 [(.int .i64 (i219)), (.int .i64 (i220)), (.int .i64 (i221)), (.int .u8 (i222))] ∧
 yS B a4 n5 c6 p13 i81 m83 J86 k95 i113 i114 i134 k147 A189 a193 n194 c195 A198 l203 s205 s206 s207 A210 a214 n215 c216 i219 i220 i221 i222 k1114 a1184 n1185 c1186 (some ⟨k1192, 0, none⟩) 1 1 h1193 Q)) ∧
 (∀ k1199 : Nat, h1115 k1199 = none → B k1199 = none → ∀ h1200 : Heap, h1200 = Heap.set h1115 k1199 (.vec 38 (zc [(.int .i64 (i219)), (.int .i64 (i220)), (.int .i64 (i221)), (.int .u8 (i222))]) 4) →
 cellH B h1200 (Addr.add A189 3) = some (.slice a193 n194 c195) ∧ za B h1200 (Addr.add A198 (Int.toNat (i134) * 23)) 0 l203 ∧ za B h1200 ⟨k147, 0, none⟩ 0 [(.string s205), (.string s206), (.string s207)] ∧ cellH B h1200 (Addr.add A210 2) = some (.slice a214 n215 c216) ∧ za B h1200 ⟨k95, 1, none⟩ 0 [(.int .i64 (i219)), (.int .i64 (i220)), (.int .i64 (i221)), (.int .u8 (i222))] ∧
 semH PG B (Builtin.append_ #[31, 31] 31 #[(.slice (some ⟨k885, 0, none⟩) 0 0), (.slice a214 n215 c216)]) h1200 (fun v h1206 => ∃ a1207 : Option Addr, ∃ n1208 : Nat, ∃ c1209 : Nat, v = (.slice a1207 n1208 c1209) ∧
 cellH B h1206 (Addr.add A189 3) = some (.slice a193 n194 c195) ∧ za B h1206 (Addr.add A198 (Int.toNat (i134) * 23)) 0 l203 ∧ za B h1206 ⟨k147, 0, none⟩ 0 [(.string s205), (.string s206), (.string s207)] ∧ cellH B h1206 (Addr.add A210 2) = some (.slice a214 n215 c216) ∧ za B h1206 ⟨k95, 1, none⟩ 0 [(.int .i64 (i219)), (.int .i64 (i220)), (.int .i64 (i221)), (.int .u8 (i222))] ∧
 yS B a4 n5 c6 p13 i81 m83 J86 k95 i113 i114 i134 k147 A189 a193 n194 c195 A198 l203 s205 s206 s207 A210 a214 n215 c216 i219 i220 i221 i222 k1114 a1207 n1208 c1209 (some ⟨k1199, 0, none⟩) 1 1 h1206 Q)))) ∧
 (∀ k1215 : Nat, h150 k1215 = none → B k1215 = none → ∀ h1216 : Heap, h1216 = Heap.set h150 k1215 (.vec 38 (zc [(.int .i64 (i219)), (.int .i64 (i220)), (.int .i64 (i221)), (.int .u8 (i222))]) 4) →
 cellH B h1216 (Addr.add A189 3) = some (.slice a193 n194 c195) ∧ za B h1216 (Addr.add A198 (Int.toNat (i134) * 23)) 0 l203 ∧ za B h1216 ⟨k147, 0, none⟩ 0 [(.string s205), (.string s206), (.string s207)] ∧ cellH B h1216 (Addr.add A210 2) = some (.slice a214 n215 c216) ∧ za B h1216 ⟨k95, 1, none⟩ 0 [(.int .i64 (i219)), (.int .i64 (i220)), (.int .i64 (i221)), (.int .u8 (i222))] ∧
 (∀ k1222 : Nat, h1216 k1222 = none → B k1222 = none → ∀ h1223 : Heap, h1223 = Heap.set h1216 k1222 (.vec 38 [] 0) →
 cellH B h1223 (Addr.add A189 3) = some (.slice a193 n194 c195) ∧ za B h1223 (Addr.add A198 (Int.toNat (i134) * 23)) 0 l203 ∧ za B h1223 ⟨k147, 0, none⟩ 0 [(.string s205), (.string s206), (.string s207)] ∧ cellH B h1223 (Addr.add A210 2) = some (.slice a214 n215 c216) ∧ za B h1223 ⟨k95, 1, none⟩ 0 [(.int .i64 (i219)), (.int .i64 (i220)), (.int .i64 (i221)), (.int .u8 (i222))] ∧
 (semH PG B (Builtin.append_ #[31, 31] 31 #[(.slice (some ⟨k1222, 0, none⟩) 0 0), (.slice a214 n215 c216)]) h1223 (fun v h1229 => ∃ a1230 : Option Addr, ∃ n1231 : Nat, ∃ c1232 : Nat, v = (.slice a1230 n1231 c1232) ∧
 cellH B h1229 (Addr.add A189 3) = some (.slice a193 n194 c195) ∧ za B h1229 (Addr.add A198 (Int.toNat (i134) * 23)) 0 l203 ∧ za B h1229 ⟨k147, 0, none⟩ 0 [(.string s205), (.string s206), (.string s207)] ∧ cellH B h1229 (Addr.add A210 2) = some (.slice a214 n215 c216) ∧ za B h1229 ⟨k95, 1, none⟩ 0 [(.int .i64 (i219)), (.int .i64 (i220)), (.int .i64 (i221)), (.int .u8 (i222))] ∧
 (semH PG B (Builtin.append_ #[31, 31] 31 #[(.slice a1230 n1231 c1232), (.slice (some ⟨k1215, 0, none⟩) 1 1)]) h1229 (fun v h1238 => ∃ a1239 : Option Addr, ∃ n1240 : Nat, ∃ c1241 : Nat, v = (.slice a1239 n1240 c1241) ∧
 cellH B h1238 (Addr.add A189 3) = some (.slice a193 n194 c195) ∧ za B h1238 (Addr.add A198 (Int.toNat (i134) * 23)) 0 l203 ∧ za B h1238 ⟨k147, 0, none⟩ 0 [(.string s205), (.string s206), (.string s207)] ∧ cellH B h1238 (Addr.add A210 2) = some (.slice a214 n215 c216) ∧ za B h1238 ⟨k95, 1, none⟩ 0 [(.int .i64 (i219)), (.int .i64 (i220)), (.int .i64 (i221)), (.int .u8 (i222))] ∧
 (zQ B l203 s205 s206 s207 a1239 n1240 c1241 h1238 (fun i1248 l1249 h1247 =>
 cellH B h1247 (Addr.add A189 3) = some (.slice a193 n194 c195) ∧ za B h1247 (Addr.add A198 (Int.toNat (i134) * 23)) 0 l203 ∧ za B h1247 ⟨k147, 0, none⟩ 0 [(.string s205), (.string s206), (.string s207)] ∧ cellH B h1247 (Addr.add A210 2) = some (.slice a214 n215 c216) ∧ za B h1247 ⟨k95, 1, none⟩ 0 [(.int .i64 (i219)), (.int .i64 (i220)), (.int .i64 (i221)), (.int .u8 (i222))] ∧
 ∀ k1255 : Nat, h1247 k1255 = none → B k1255 = none → ∀ h1256 : Heap, h1256 = Heap.set h1247 k1255 (.vec 55 (zc [(.int .i64 (0)), (.int .i64 (0)), (.int .i64 (0)), (.int .i64 (0)), (.int .i64 (0)), (.int .i64 (0)), (.int .i64 (0)), (.int .i64 (0)), (.bool false), (.string ByteArray.empty), (.bool false), (.string ByteArray.empty), (.bool false), (.string ByteArray.empty), (.bool false), (.string ByteArray.empty), (.bool false), (.string ByteArray.empty), (.bool false), (.string ByteArray.empty), (.int .i64 (0)), (.int .i64 (0)), (.int .i64 (0))]) 23) →
 cellH B h1256 (Addr.add A189 3) = some (.slice a193 n194 c195) ∧ za B h1256 (Addr.add A198 (Int.toNat (i134) * 23)) 0 l203 ∧ za B h1256 ⟨k147, 0, none⟩ 0 [(.string s205), (.string s206), (.string s207)] ∧ cellH B h1256 (Addr.add A210 2) = some (.slice a214 n215 c216) ∧ za B h1256 ⟨k95, 1, none⟩ 0 [(.int .i64 (i219)), (.int .i64 (i220)), (.int .i64 (i221)), (.int .u8 (i222))] ∧
 zy B a4 n5 c6 p13 i81 m83 J86 k95 i113 i114 i134 k147 A189 a193 n194 c195 A198 l203 s205 s206 s207 A210 a214 n215 c216 i219 i220 i221 i222 ⟨k1255, 0, none⟩ (i1248) l1249 h1256 Q)) ∧
 (∀ k1262 : Nat, h1238 k1262 = none → B k1262 = none → ∀ h1263 : Heap, h1263 = Heap.set h1238 k1262 (.vec 55 (zc [(.int .i64 (0)), (.int .i64 (0)), (.int .i64 (0)), (.int .i64 (0)), (.int .i64 (0)), (.int .i64 (0)), (.int .i64 (0)), (.int .i64 (0)), (.bool false), (.string ByteArray.empty), (.bool false), (.string ByteArray.empty), (.bool false), (.string ByteArray.empty), (.bool false), (.string ByteArray.empty), (.bool false), (.string ByteArray.empty), (.bool false), (.string ByteArray.empty), (.int .i64 (0)), (.int .i64 (0)), (.int .i64 (0))]) 23) →
 cellH B h1263 (Addr.add A189 3) = some (.slice a193 n194 c195) ∧ za B h1263 (Addr.add A198 (Int.toNat (i134) * 23)) 0 l203 ∧ za B h1263 ⟨k147, 0, none⟩ 0 [(.string s205), (.string s206), (.string s207)] ∧ cellH B h1263 (Addr.add A210 2) = some (.slice a214 n215 c216) ∧ za B h1263 ⟨k95, 1, none⟩ 0 [(.int .i64 (i219)), (.int .i64 (i220)), (.int .i64 (i221)), (.int .u8 (i222))] ∧
 zQ B l203 s205 s206 s207 a1239 n1240 c1241 h1263 (fun i1270 l1271 h1269 =>
 cellH B h1269 (Addr.add A189 3) = some (.slice a193 n194 c195) ∧ za B h1269 (Addr.add A198 (Int.toNat (i134) * 23)) 0 l203 ∧ za B h1269 ⟨k147, 0, none⟩ 0 [(.string s205), (.string s206), (.string s207)] ∧ cellH B h1269 (Addr.add A210 2) = some (.slice a214 n215 c216) ∧ za B h1269 ⟨k95, 1, none⟩ 0 [(.int .i64 (i219)), (.int .i64 (i220)), (.int .i64 (i221)), (.int .u8 (i222))] ∧
 zy B a4 n5 c6 p13 i81 m83 J86 k95 i113 i114 i134 k147 A189 a193 n194 c195 A198 l203 s205 s206 s207 A210 a214 n215 c216 i219 i220 i221 i222 ⟨k1262, 0, none⟩ (i1270) l1271 h1269 Q)))) ∧
 (∀ k1277 : Nat, h1229 k1277 = none → B k1277 = none → ∀ h1278 : Heap, h1278 = Heap.set h1229 k1277 (.vec 55 (zc [(.int .i64 (0)), (.int .i64 (0)), (.int .i64 (0)), (.int .i64 (0)), (.int .i64 (0)), (.int .i64 (0)), (.int .i64 (0)), (.int .i64 (0)), (.bool false), (.string ByteArray.empty), (.bool false), (.string ByteArray.empty), (.bool false), (.string ByteArray.empty), (.bool false), (.string ByteArray.empty), (.bool false), (.string ByteArray.empty), (.bool false), (.string ByteArray.empty), (.int .i64 (0)), (.int .i64 (0)), (.int .i64 (0))]) 23) →
 cellH B h1278 (Addr.add A189 3) = some (.slice a193 n194 c195) ∧ za B h1278 (Addr.add A198 (Int.toNat (i134) * 23)) 0 l203 ∧ za B h1278 ⟨k147, 0, none⟩ 0 [(.string s205), (.string s206), (.string s207)] ∧ cellH B h1278 (Addr.add A210 2) = some (.slice a214 n215 c216) ∧ za B h1278 ⟨k95, 1, none⟩ 0 [(.int .i64 (i219)), (.int .i64 (i220)), (.int .i64 (i221)), (.int .u8 (i222))] ∧
 semH PG B (Builtin.append_ #[31, 31] 31 #[(.slice a1230 n1231 c1232), (.slice (some ⟨k1215, 0, none⟩) 1 1)]) h1278 (fun v h1284 => ∃ a1285 : Option Addr, ∃ n1286 : Nat, ∃ c1287 : Nat, v = (.slice a1285 n1286 c1287) ∧
 cellH B h1284 (Addr.add A189 3) = some (.slice a193 n194 c195) ∧ za B h1284 (Addr.add A198 (Int.toNat (i134) * 23)) 0 l203 ∧ za B h1284 ⟨k147, 0, none⟩ 0 [(.string s205), (.string s206), (.string s207)] ∧ cellH B h1284 (Addr.add A210 2) = some (.slice a214 n215 c216) ∧ za B h1284 ⟨k95, 1, none⟩ 0 [(.int .i64 (i219)), (.int .i64 (i220)), (.int .i64 (i221)), (.int .u8 (i222))] ∧
 zQ B l203 s205 s206 s207 a1285 n1286 c1287 h1284 (fun i1294 l1295 h1293 =>
 cellH B h1293 (Addr.add A189 3) = some (.slice a193 n194 c195) ∧ za B h1293 (Addr.add A198 (Int.toNat (i134) * 23)) 0 l203 ∧ za B h1293 ⟨k147, 0, none⟩ 0 [(.string s205), (.string s206), (.string s207)] ∧ cellH B h1293 (Addr.add A210 2) = some (.slice a214 n215 c216) ∧ za B h1293 ⟨k95, 1, none⟩ 0 [(.int .i64 (i219)), (.int .i64 (i220)), (.int .i64 (i221)), (.int .u8 (i222))] ∧
 zy B a4 n5 c6 p13 i81 m83 J86 k95 i113 i114 i134 k147 A189 a193 n194 c195 A198 l203 s205 s206 s207 A210 a214 n215 c216 i219 i220 i221 i222 ⟨k1277, 0, none⟩ (i1294) l1295 h1293 Q))))) ∧
 (∀ k1301 : Nat, h1223 k1301 = none → B k1301 = none → ∀ h1302 : Heap, h1302 = Heap.set h1223 k1301 (.vec 55 (zc [(.int .i64 (0)), (.int .i64 (0)), (.int .i64 (0)), (.int .i64 (0)), (.int .i64 (0)), (.int .i64 (0)), (.int .i64 (0)), (.int .i64 (0)), (.bool false), (.string ByteArray.empty), (.bool false), (.string ByteArray.empty), (.bool false), (.string ByteArray.empty), (.bool false), (.string ByteArray.empty), (.bool false), (.string ByteArray.empty), (.bool false), (.string ByteArray.empty), (.int .i64 (0)), (.int .i64 (0)), (.int .i64 (0))]) 23) →
 cellH B h1302 (Addr.add A189 3) = some (.slice a193 n194 c195) ∧ za B h1302 (Addr.add A198 (Int.toNat (i134) * 23)) 0 l203 ∧ za B h1302 ⟨k147, 0, none⟩ 0 [(.string s205), (.string s206), (.string s207)] ∧ cellH B h1302 (Addr.add A210 2) = some (.slice a214 n215 c216) ∧ za B h1302 ⟨k95, 1, none⟩ 0 [(.int .i64 (i219)), (.int .i64 (i220)), (.int .i64 (i221)), (.int .u8 (i222))] ∧
 semH PG B (Builtin.append_ #[31, 31] 31 #[(.slice (some ⟨k1222, 0, none⟩) 0 0), (.slice a214 n215 c216)]) h1302 (fun v h1308 => ∃ a1309 : Option Addr, ∃ n1310 : Nat, ∃ c1311 : Nat, v = (.slice a1309 n1310 c1311) ∧
 cellH B h1308 (Addr.add A189 3) = some (.slice a193 n194 c195) ∧ za B h1308 (Addr.add A198 (Int.toNat (i134) * 23)) 0 l203 ∧ za B h1308 ⟨k147, 0, none⟩ 0 [(.string s205), (.string s206), (.string s207)] ∧ cellH B h1308 (Addr.add A210 2) = some (.slice a214 n215 c216) ∧ za B h1308 ⟨k95, 1, none⟩ 0 [(.int .i64 (i219)), (.int .i64 (i220)), (.int .i64 (i221)), (.int .u8 (i222))] ∧
 semH PG B (Builtin.append_ #[31, 31] 31 #[(.slice a1309 n1310 c1311), (.slice (some ⟨k1215, 0, none⟩) 1 1)]) h1308 (fun v h1317 => ∃ a1318 : Option Addr, ∃ n1319 : Nat, ∃ c1320 : Nat, v = (.slice a1318 n1319 c1320) ∧
 cellH B h1317 (Addr.add A189 3) = some (.slice a193 n194 c195) ∧ za B h1317 (Addr.add A198 (Int.toNat (i134) * 23)) 0 l203 ∧ za B h1317 ⟨k147, 0, none⟩ 0 [(.string s205), (.string s206), (.string s207)] ∧ cellH B h1317 (Addr.add A210 2) = some (.slice a214 n215 c216) ∧ za B h1317 ⟨k95, 1, none⟩ 0 [(.int .i64 (i219)), (.int .i64 (i220)), (.int .i64 (i221)), (.int .u8 (i222))] ∧
 zQ B l203 s205 s206 s207 a1318 n1319 c1320 h1317 (fun i1327 l1328 h1326 =>
 cellH B h1326 (Addr.add A189 3) = some (.slice a193 n194 c195) ∧ za B h1326 (Addr.add A198 (Int.toNat (i134) * 23)) 0 l203 ∧ za B h1326 ⟨k147, 0, none⟩ 0 [(.string s205), (.string s206), (.string s207)] ∧ cellH B h1326 (Addr.add A210 2) = some (.slice a214 n215 c216) ∧ za B h1326 ⟨k95, 1, none⟩ 0 [(.int .i64 (i219)), (.int .i64 (i220)), (.int .i64 (i221)), (.int .u8 (i222))] ∧
 zy B a4 n5 c6 p13 i81 m83 J86 k95 i113 i114 i134 k147 A189 a193 n194 c195 A198 l203 s205 s206 s207 A210 a214 n215 c216 i219 i220 i221 i222 ⟨k1301, 0, none⟩ (i1327) l1328 h1326 Q))))) ∧
 (∀ k1334 : Nat, h1216 k1334 = none → B k1334 = none → ∀ h1335 : Heap, h1335 = Heap.set h1216 k1334 (.vec 55 (zc [(.int .i64 (0)), (.int .i64 (0)), (.int .i64 (0)), (.int .i64 (0)), (.int .i64 (0)), (.int .i64 (0)), (.int .i64 (0)), (.int .i64 (0)), (.bool false), (.string ByteArray.empty), (.bool false), (.string ByteArray.empty), (.bool false), (.string ByteArray.empty), (.bool false), (.string ByteArray.empty), (.bool false), (.string ByteArray.empty), (.bool false), (.string ByteArray.empty), (.int .i64 (0)), (.int .i64 (0)), (.int .i64 (0))]) 23) →
 cellH B h1335 (Addr.add A189 3) = some (.slice a193 n194 c195) ∧ za B h1335 (Addr.add A198 (Int.toNat (i134) * 23)) 0 l203 ∧ za B h1335 ⟨k147, 0, none⟩ 0 [(.string s205), (.string s206), (.string s207)] ∧ cellH B h1335 (Addr.add A210 2) = some (.slice a214 n215 c216) ∧ za B h1335 ⟨k95, 1, none⟩ 0 [(.int .i64 (i219)), (.int .i64 (i220)), (.int .i64 (i221)), (.int .u8 (i222))] ∧
 ∀ k1341 : Nat, h1335 k1341 = none → B k1341 = none → ∀ h1342 : Heap, h1342 = Heap.set h1335 k1341 (.vec 38 [] 0) →
 cellH B h1342 (Addr.add A189 3) = some (.slice a193 n194 c195) ∧ za B h1342 (Addr.add A198 (Int.toNat (i134) * 23)) 0 l203 ∧ za B h1342 ⟨k147, 0, none⟩ 0 [(.string s205), (.string s206), (.string s207)] ∧ cellH B h1342 (Addr.add A210 2) = some (.slice a214 n215 c216) ∧ za B h1342 ⟨k95, 1, none⟩ 0 [(.int .i64 (i219)), (.int .i64 (i220)), (.int .i64 (i221)), (.int .u8 (i222))] ∧
 semH PG B (Builtin.append_ #[31, 31] 31 #[(.slice (some ⟨k1341, 0, none⟩) 0 0), (.slice a214 n215 c216)]) h1342 (fun v h1348 => ∃ a1349 : Option Addr, ∃ n1350 : Nat, ∃ c1351 : Nat, v = (.slice a1349 n1350 c1351) ∧
 cellH B h1348 (Addr.add A189 3) = some (.slice a193 n194 c195) ∧ za B h1348 (Addr.add A198 (Int.toNat (i134) * 23)) 0 l203 ∧ za B h1348 ⟨k147, 0, none⟩ 0 [(.string s205), (.string s206), (.string s207)] ∧ cellH B h1348 (Addr.add A210 2) = some (.slice a214 n215 c216) ∧ za B h1348 ⟨k95, 1, none⟩ 0 [(.int .i64 (i219)), (.int .i64 (i220)), (.int .i64 (i221)), (.int .u8 (i222))] ∧
 semH PG B (Builtin.append_ #[31, 31] 31 #[(.slice a1349 n1350 c1351), (.slice (some ⟨k1215, 0, none⟩) 1 1)]) h1348 (fun v h1357 => ∃ a1358 : Option Addr, ∃ n1359 : Nat, ∃ c1360 : Nat, v = (.slice a1358 n1359 c1360) ∧
 cellH B h1357 (Addr.add A189 3) = some (.slice a193 n194 c195) ∧ za B h1357 (Addr.add A198 (Int.toNat (i134) * 23)) 0 l203 ∧ za B h1357 ⟨k147, 0, none⟩ 0 [(.string s205), (.string s206), (.string s207)] ∧ cellH B h1357 (Addr.add A210 2) = some (.slice a214 n215 c216) ∧ za B h1357 ⟨k95, 1, none⟩ 0 [(.int .i64 (i219)), (.int .i64 (i220)), (.int .i64 (i221)), (.int .u8 (i222))] ∧
 zQ B l203 s205 s206 s207 a1358 n1359 c1360 h1357 (fun i1367 l1368 h1366 =>
 cellH B h1366 (Addr.add A189 3) = some (.slice a193 n194 c195) ∧ za B h1366 (Addr.add A198 (Int.toNat (i134) * 23)) 0 l203 ∧ za B h1366 ⟨k147, 0, none⟩ 0 [(.string s205), (.string s206), (.string s207)] ∧ cellH B h1366 (Addr.add A210 2) = some (.slice a214 n215 c216) ∧ za B h1366 ⟨k95, 1, none⟩ 0 [(.int .i64 (i219)), (.int .i64 (i220)), (.int .i64 (i221)), (.int .u8 (i222))] ∧
 zy B a4 n5 c6 p13 i81 m83 J86 k95 i113 i114 i134 k147 A189 a193 n194 c195 A198 l203 s205 s206 s207 A210 a214 n215 c216 i219 i220 i221 i222 ⟨k1334, 0, none⟩ (i1367) l1368 h1366 Q))))) ∧
 (∀ k1374 : Nat, h150 k1374 = none → B k1374 = none → ∀ h1375 : Heap, h1375 = Heap.set h150 k1374 (.vec 55 (zc [(.int .i64 (0)), (.int .i64 (0)), (.int .i64 (0)), (.int .i64 (0)), (.int .i64 (0)), (.int .i64 (0)), (.int .i64 (0)), (.int .i64 (0)), (.bool false), (.string ByteArray.empty), (.bool false), (.string ByteArray.empty), (.bool false), (.string ByteArray.empty), (.bool false), (.string ByteArray.empty), (.bool false), (.string ByteArray.empty), (.bool false), (.string ByteArray.empty), (.int .i64 (0)), (.int .i64 (0)), (.int .i64 (0))]) 23) →
 cellH B h1375 (Addr.add A189 3) = some (.slice a193 n194 c195) ∧ za B h1375 (Addr.add A198 (Int.toNat (i134) * 23)) 0 l203 ∧ za B h1375 ⟨k147, 0, none⟩ 0 [(.string s205), (.string s206), (.string s207)] ∧ cellH B h1375 (Addr.add A210 2) = some (.slice a214 n215 c216) ∧ za B h1375 ⟨k95, 1, none⟩ 0 [(.int .i64 (i219)), (.int .i64 (i220)), (.int .i64 (i221)), (.int .u8 (i222))] ∧
 (∀ k1473 : Nat, h1375 k1473 = none → B k1473 = none → ∀ h1474 : Heap, h1474 = Heap.set h1375 k1473 (.vec 38 [] 0) →
 cellH B h1474 (Addr.add A189 3) = some (.slice a193 n194 c195) ∧ za B h1474 (Addr.add A198 (Int.toNat (i134) * 23)) 0 l203 ∧ za B h1474 ⟨k147, 0, none⟩ 0 [(.string s205), (.string s206), (.string s207)] ∧ cellH B h1474 (Addr.add A210 2) = some (.slice a214 n215 c216) ∧ za B h1474 ⟨k95, 1, none⟩ 0 [(.int .i64 (i219)), (.int .i64 (i220)), (.int .i64 (i221)), (.int .u8 (i222))] ∧
 (semH PG B (Builtin.append_ #[31, 31] 31 #[(.slice (some ⟨k1473, 0, none⟩) 0 0), (.slice a214 n215 c216)]) h1474 (fun v h1480 => ∃ a1481 : Option Addr, ∃ n1482 : Nat, ∃ c1483 : Nat, v = (.slice a1481 n1482 c1483) ∧
 cellH B h1480 (Addr.add A189 3) = some (.slice a193 n194 c195) ∧ za B h1480 (Addr.add A198 (Int.toNat (i134) * 23)) 0 l203 ∧ za B h1480 ⟨k147, 0, none⟩ 0 [(.string s205), (.string s206), (.string s207)] ∧ cellH B h1480 (Addr.add A210 2) = some (.slice a214 n215 c216) ∧ za B h1480 ⟨k95, 1, none⟩ 0 [(.int .i64 (i219)), (.int .i64 (i220)), (.int .i64 (i221)), (.int .u8 (i222))] ∧
 ∀ k1489 : Nat, h1480 k1489 = none → B k1489 = none → ∀ h1490 : Heap, h1490 = Heap.set h1480 k1489 (.vec 38 (zc [(.int .i64 (i219)), (.int .i64 (i220)), (.int .i64 (i221)), (.int .u8 (i222))]) 4) →
 cellH B h1490 (Addr.add A189 3) = some (.slice a193 n194 c195) ∧ za B h1490 (Addr.add A198 (Int.toNat (i134) * 23)) 0 l203 ∧ za B h1490 ⟨k147, 0, none⟩ 0 [(.string s205), (.string s206), (.string s207)] ∧ cellH B h1490 (Addr.add A210 2) = some (.slice a214 n215 c216) ∧ za B h1490 ⟨k95, 1, none⟩ 0 [(.int .i64 (i219)), (.int .i64 (i220)), (.int .i64 (i221)), (.int .u8 (i222))] ∧
 yC B a4 n5 c6 p13 i81 m83 J86 k95 i113 i114 i134 k147 A189 a193 n194 c195 A198 l203 s205 s206 s207 A210 a214 n215 c216 i219 i220 i221 i222 k1374 a1481 n1482 c1483 (some ⟨k1489, 0, none⟩) 1 1 h1490 Q)) ∧
 (∀ k1496 : Nat, h1474 k1496 = none → B k1496 = none → ∀ h1497 : Heap, h1497 = Heap.set h1474 k1496 (.vec 38 (zc [(.int .i64 (i219)), (.int .i64 (i220)), (.int .i64 (i221)), (.int .u8 (i222))]) 4) →
 cellH B h1497 (Addr.add A189 3) = some (.slice a193 n194 c195) ∧ za B h1497 (Addr.add A198 (Int.toNat (i134) * 23)) 0 l203 ∧ za B h1497 ⟨k147, 0, none⟩ 0 [(.string s205), (.string s206), (.string s207)] ∧ cellH B h1497 (Addr.add A210 2) = some (.slice a214 n215 c216) ∧ za B h1497 ⟨k95, 1, none⟩ 0 [(.int .i64 (i219)), (.int .i64 (i220)), (.int .i64 (i221)), (.int .u8 (i222))] ∧
 semH PG B (Builtin.append_ #[31, 31] 31 #[(.slice (some ⟨k1473, 0, none⟩) 0 0), (.slice a214 n215 c216)]) h1497 (fun v h1503 => ∃ a1504 : Option Addr, ∃ n1505 : Nat, ∃ c1506 : Nat, v = (.slice a1504 n1505 c1506) ∧
 cellH B h1503 (Addr.add A189 3) = some (.slice a193 n194 c195) ∧ za B h1503 (Addr.add A198 (Int.toNat (i134) * 23)) 0 l203 ∧ za B h1503 ⟨k147, 0, none⟩ 0 [(.string s205), (.string s206), (.string s207)] ∧ cellH B h1503 (Addr.add A210 2) = some (.slice a214 n215 c216) ∧ za B h1503 ⟨k95, 1, none⟩ 0 [(.int .i64 (i219)), (.int .i64 (i220)), (.int .i64 (i221)), (.int .u8 (i222))] ∧
 yC B a4 n5 c6 p13 i81 m83 J86 k95 i113 i114 i134 k147 A189 a193 n194 c195 A198 l203 s205 s206 s207 A210 a214 n215 c216 i219 i220 i221 i222 k1374 a1504 n1505 c1506 (some ⟨k1496, 0, none⟩) 1 1 h1503 Q))) ∧
 (∀ k1512 : Nat, h1375 k1512 = none → B k1512 = none → ∀ h1513 : Heap, h1513 = Heap.set h1375 k1512 (.vec 38 (zc [(.int .i64 (i219)), (.int .i64 (i220)), (.int .i64 (i221)), (.int .u8 (i222))]) 4) →
 cellH B h1513 (Addr.add A189 3) = some (.slice a193 n194 c195) ∧ za B h1513 (Addr.add A198 (Int.toNat (i134) * 23)) 0 l203 ∧ za B h1513 ⟨k147, 0, none⟩ 0 [(.string s205), (.string s206), (.string s207)] ∧ cellH B h1513 (Addr.add A210 2) = some (.slice a214 n215 c216) ∧ za B h1513 ⟨k95, 1, none⟩ 0 [(.int .i64 (i219)), (.int .i64 (i220)), (.int .i64 (i221)), (.int .u8 (i222))] ∧
 ∀ k1519 : Nat, h1513 k1519 = none → B k1519 = none → ∀ h1520 : Heap, h1520 = Heap.set h1513 k1519 (.vec 38 [] 0) →
 cellH B h1520 (Addr.add A189 3) = some (.slice a193 n194 c195) ∧ za B h1520 (Addr.add A198 (Int.toNat (i134) * 23)) 0 l203 ∧ za B h1520 ⟨k147, 0, none⟩ 0 [(.string s205), (.string s206), (.string s207)] ∧ cellH B h1520 (Addr.add A210 2) = some (.slice a214 n215 c216) ∧ za B h1520 ⟨k95, 1, none⟩ 0 [(.int .i64 (i219)), (.int .i64 (i220)), (.int .i64 (i221)), (.int .u8 (i222))] ∧
 semH PG B (Builtin.append_ #[31, 31] 31 #[(.slice (some ⟨k1519, 0, none⟩) 0 0), (.slice a214 n215 c216)]) h1520 (fun v h1526 => ∃ a1527 : Option Addr, ∃ n1528 : Nat, ∃ c1529 : Nat, v = (.slice a1527 n1528 c1529) ∧
 cellH B h1526 (Addr.add A189 3) = some (.slice a193 n194 c195) ∧ za B h1526 (Addr.add A198 (Int.toNat (i134) * 23)) 0 l203 ∧ za B h1526 ⟨k147, 0, none⟩ 0 [(.string s205), (.string s206), (.string s207)] ∧ cellH B h1526 (Addr.add A210 2) = some (.slice a214 n215 c216) ∧ za B h1526 ⟨k95, 1, none⟩ 0 [(.int .i64 (i219)), (.int .i64 (i220)), (.int .i64 (i221)), (.int .u8 (i222))] ∧
 yC B a4 n5 c6 p13 i81 m83 J86 k95 i113 i114 i134 k147 A189 a193 n194 c195 A198 l203 s205 s206 s207 A210 a214 n215 c216 i219 i220 i221 i222 k1374 a1527 n1528 c1529 (some ⟨k1512, 0, none⟩) 1 1 h1526 Q))))
def wp (B : RO) (a1 : Option Addr) (n2 : Nat) (c3 : Nat) (a4 : Option Addr) (n5 : Nat) (c6 : Nat) (h11 : Heap) (Q : Bool → Heap → Prop) : Prop :=
 wd B a1 n2 c3 (0) (0) (0) (0) h11 (fun p13 h12 =>
 ∃ (J86 : Int → Nat → Heap → Prop) (m84 : Nat), Fin B h12 (J86 (0) m84) ∧
 ∀ (i81 : Int) (m83 : Nat) (h82 : Heap), J86 i81 m83 h82 →
 ((i81 : Int) < ((n5 : Nat)) →
 ∃ A87 : Addr, a4 = some A87 ∧ 0 ≤ (i81 : Int) ∧ (i81 : Int) < (n5 : Nat) ∧
 ∃ i89 : Int, ∃ i90 : Int, ∃ i91 : Int, ∃ i92 : Int, ∃ i93 : Int, ∃ s94 : ByteArray, za B h82 (Addr.add A87 (Int.toNat (i81) * 6)) 0 [(.int .i64 (i89)), (.int .i64 (i90)), (.int .i64 (i91)), (.int .i64 (i92)), (.int .u8 (i93)), (.string s94)] ∧
 ∀ k95 : Nat, h82 k95 = none → B k95 = none → ∀ h96 : Heap, h96 = Heap.set h82 k95 (.vec 48 (zc [(.int .i64 (0)), (.int .i64 (0)), (.int .i64 (0)), (.int .i64 (0)), (.int .u8 (0)), (.string ByteArray.empty)]) 6) →
 ∃ h97 : Heap, zi ⟨k95, 0, none⟩ h96 0 [(.int .i64 (i89)), (.int .i64 (i90)), (.int .i64 (i91)), (.int .i64 (i92)), (.int .u8 (i93)), (.string s94)] h97 ∧
 ∃ i98 : Int, cellH B h97 ⟨k95, 0, none⟩ = some (.int .i64 (i98)) ∧
 ((i98 : Int) = 0 →
 ∃ A100 : Addr, p13 = some A100 ∧
 ∃ p104 : Option Addr, cellH B h97 (Addr.add A100 1) = some (.pointer p104) ∧
 ∃ i107 : Int, ∃ i108 : Int, ∃ i109 : Int, ∃ i110 : Int, za B h97 ⟨k95, 1, none⟩ 0 [(.int .i64 (i107)), (.int .i64 (i108)), (.int .i64 (i109)), (.int .u8 (i110))] ∧
 yx B p104 (i107) (i108) (i109) (i110) h97 (fun i113 i114 h112 =>
 cellH B h112 (Addr.add A100 1) = some (.pointer p104) ∧ za B h112 ⟨k95, 1, none⟩ 0 [(.int .i64 (i107)), (.int .i64 (i108)), (.int .i64 (i109)), (.int .u8 (i110))] ∧
 ∃ i117 : Int, ∃ i118 : Int, ∃ i119 : Int, ∃ i120 : Int, za B h112 ⟨k95, 1, none⟩ 0 [(.int .i64 (i117)), (.int .i64 (i118)), (.int .i64 (i119)), (.int .u8 (i120))] ∧
 wm B (i117) (i118) (i119) (i120) h112 (fun b122 h121 =>
 (b122 = true →
 ((i114 : Int) = 9 →
 ∃ A123 : Addr, p13 = some A123 ∧
 ∃ p125 : Option Addr, cellH B h121 (Addr.add A123 1) = some (.pointer p125) ∧
 yH B p125 h121 (fun b127 h126 =>
 Fin B h126 (Q ((!b127))))) ∧ (¬ ((i114 : Int) = 9) →
 ∃ A128 : Addr, p13 = some A128 ∧
 ∃ p130 : Option Addr, cellH B h121 (Addr.add A128 1) = some (.pointer p130) ∧
 xe B p130 h121 (fun p132 h131 =>
 vO B p132 h131 (fun i134 h133 =>
 ((i134 : Int) < (0) →
 Fin B h133 (Q (false))) ∧ (¬ ((i134 : Int) < (0)) →
 ∃ A1535 : Addr, p13 = some A1535 ∧
 LdSl B h133 (Addr.add A1535 3) fun a1537 n1538 c1539 h1540 =>
 ((i134 : Int) ≥ ((n1538 : Nat)) →
 Fin B h1540 (Q (false))) ∧ (¬ ((i134 : Int) ≥ ((n1538 : Nat))) →
 Fin B h1540 (fun h' => xq B a4 n5 c6 p13 i81 m83 J86 k95 i113 i114 i134 h' Q))))))) ∧ (b122 = false →
 ((i114 : Int) = 1 →
 Fin B h121 (fun h' => ∃ m', m' < m83 ∧ J86 (IntKind.wrap .i64 ((i81) + (1))) m' h')) ∧ (¬ ((i114 : Int) = 1) →
 Fin B h121 (Q (false))))))) ∧ (¬ ((i98 : Int) = 0) →
 ((i98 : Int) = 1 →
 ∃ i1541 : Int, ∃ i1542 : Int, ∃ i1543 : Int, ∃ i1544 : Int, za B h97 ⟨k95, 1, none⟩ 0 [(.int .i64 (i1541)), (.int .i64 (i1542)), (.int .i64 (i1543)), (.int .u8 (i1544))] ∧
 yK B p13 (i1541) (i1542) (i1543) (i1544) h97 (fun h1545 =>
 Fin B h1545 (fun h' => ∃ m', m' < m83 ∧ J86 (IntKind.wrap .i64 ((i81) + (1))) m' h'))) ∧ (¬ ((i98 : Int) = 1) →
 ((i98 : Int) = 2 →
 ∃ A1546 : Addr, p13 = some A1546 ∧
 ∃ p1548 : Option Addr, cellH B h97 A1546 = some (.pointer p1548) ∧
 ∃ A1549 : Addr, p1548 = some A1549 ∧
 ∃ p1551 : Option Addr, cellH B h97 (Addr.add A1549 2) = some (.pointer p1551) ∧
 ∃ i1552 : Int, cellH B h97 ⟨k95, 2, none⟩ = some (.int .i64 (i1552)) ∧
 ∃ s1553 : ByteArray, cellH B h97 ⟨k95, 5, none⟩ = some (.string s1553) ∧
 vC B p1551 (i1552) s1553 h97 (fun i1555 h1554 =>
 Fin B h1554 (fun h' => ∃ m', m' < m83 ∧ J86 (IntKind.wrap .i64 ((i81) + (1))) m' h'))) ∧ (¬ ((i98 : Int) = 2) →
 Fin B h97 (fun h' => ∃ m', m' < m83 ∧ J86 (IntKind.wrap .i64 ((i81) + (1))) m' h'))))) ∧ (¬ ((i81 : Int) < ((n5 : Nat))) →
 Fin B h82 (fun h' => xo B h' Q)))
def ZE (B : RO) (a1 : Option Addr) (n2 : Nat) (c3 : Nat) (a4 : Option Addr) (n5 : Nat) (c6 : Nat) (h : Heap) (Q : Bool → Heap → Prop) : Prop :=
 wb B h (fun b9 h8 =>
 (b9 = true →
 wc B a4 n5 c6 h8 (fun b1557 h1556 =>
 (b1557 = true →
 Fin B h1556 (Q (true))) ∧ (b1557 = false →
 (((n2 : Nat) : Int) > (20) →
 Fin B h1556 (Q (true))) ∧ (¬ (((n2 : Nat) : Int) > (20)) →
 Fin B h1556 (fun h' => wp B a1 n2 c3 a4 n5 c6 h' Q))))) ∧ (b9 = false →
 Fin B h8 (Q (false))))
def YY (B : RO) (h : Heap) (Q : Bool → Heap → Prop) : Prop :=
 wo B h (fun p3 h2 =>
 w8 B p3 (0) (0) (0) (0) h2 (fun p5 h4 =>
 w8 B p3 (0) (0) (0) (0) h4 (fun p7 h6 =>
 xf B p5 (0) (5) h6 (fun i9 h8 =>
 ((i9 : Int) = 0 →
 yX B p5 (0) h8 (fun i11 i12 h10 =>
 yX B p7 (0) h10 (fun i14 i15 h13 =>
 ((i11 : Int) = 5 →
 ((i14 : Int) = 0 →
 yW B p5 h13 (fun b17 h16 =>
 (b17 = true →
 ∃ A18 : Addr, p3 = some A18 ∧
 ∃ i20 : Int, cellH B h16 (Addr.add A18 3) = some (.int .i64 (i20)) ∧
 Fin B h16 (Q (((i20 : Int) == (1))))) ∧ (b17 = false →
 Fin B h16 (Q (false))))) ∧ (¬ ((i14 : Int) = 0) →
 Fin B h13 (Q (false)))) ∧ (¬ ((i11 : Int) = 5) →
 Fin B h13 (Q (false)))))) ∧ (¬ ((i9 : Int) = 0) →
 Fin B h8 (Q (false)))))))
def vF (B : RO) (k9 : Nat) (k13 : Nat) (h49 : Heap) (Q : Option Addr → Heap → Prop) : Prop :=
 ∃ p54 : Option Addr, cellH B h49 ⟨k13, 0, none⟩ = some (.pointer p54) ∧
 ∃ i56 : Int, ∃ i57 : Int, ∃ i58 : Int, ∃ i59 : Int, za B h49 ⟨k9, 0, none⟩ 0 [(.int .i64 (i56)), (.int .i64 (i57)), (.int .i64 (i58)), (.int .i64 (i59))] ∧
 w8 B p54 (i56) (i57) (i58) (i59) h49 (fun p62 h61 =>
 cellH B h61 ⟨k13, 0, none⟩ = some (.pointer p54) ∧ za B h61 ⟨k9, 0, none⟩ 0 [(.int .i64 (i56)), (.int .i64 (i57)), (.int .i64 (i58)), (.int .i64 (i59))] ∧
 ∃ h65 : Heap, ym h61 ⟨k13, 1, none⟩ (.pointer p62) = some h65 ∧
 Fin B h65 (Q (some ⟨k13, 0, none⟩)))
def Y0 (B : RO) (a1 : Option Addr) (n2 : Nat) (c3 : Nat) (i4 : Int) (i5 : Int) (i6 : Int) (i7 : Int) (h : Heap) (Q : Option Addr → Heap → Prop) : Prop :=
 ∀ k9 : Nat, h k9 = none → B k9 = none → ∀ h10 : Heap, h10 = Heap.set h k9 (.vec 26 (zc [(.int .i64 (i4)), (.int .i64 (i5)), (.int .i64 (i6)), (.int .i64 (i7))]) 4) →
 wo B h10 (fun p12 h11 =>
 ∀ k13 : Nat, h11 k13 = none → B k13 = none → ∀ h14 : Heap, h14 = Heap.set h11 k13 (.vec 34 (zc [(.pointer p12), (.pointer none), (.slice none 0 0), (.slice none 0 0)]) 4) →
 ∃ p15 : Option Addr, cellH B h14 ⟨k13, 0, none⟩ = some (.pointer p15) ∧
 yI B p15 h14 (fun l17 s18 s19 s20 h16 =>
 ∀ k21 : Nat, h16 k21 = none → B k21 = none → ∀ h22 : Heap, h22 = Heap.set h16 k21 (.vec 55 (zc [(.int .i64 (0)), (.int .i64 (0)), (.int .i64 (0)), (.int .i64 (0)), (.int .i64 (0)), (.int .i64 (0)), (.int .i64 (0)), (.int .i64 (0)), (.bool false), (.string ByteArray.empty), (.bool false), (.string ByteArray.empty), (.bool false), (.string ByteArray.empty), (.bool false), (.string ByteArray.empty), (.bool false), (.string ByteArray.empty), (.bool false), (.string ByteArray.empty), (.int .i64 (0)), (.int .i64 (0)), (.int .i64 (0))]) 23) →
 ∀ k23 : Nat, h22 k23 = none → B k23 = none → ∀ h24 : Heap, h24 = Heap.set h22 k23 (.vec 56 (zc [(.string ByteArray.empty), (.string ByteArray.empty), (.string ByteArray.empty)]) 3) →
 List.length l17 = 23 ∧ ∃ h25 : Heap, zi ⟨k21, 0, none⟩ h24 0 l17 h25 ∧
 ∃ h26 : Heap, zi ⟨k23, 0, none⟩ h25 0 [(.string s18), (.string s19), (.string s20)] h26 ∧
 ∃ a31 : Option Addr, ∃ n32 : Nat, ∃ c33 : Nat, cellH B h26 ⟨k13, 3, none⟩ = some (.slice a31 n32 c33) ∧
 ∃ l35 : List Value, List.length l35 = 23 ∧ za B h26 ⟨k21, 0, none⟩ 0 l35 ∧
 ∀ k37 : Nat, h26 k37 = none → B k37 = none → ∀ h38 : Heap, h38 = Heap.set h26 k37 (.vec 55 (zc l35) 23) →
 cellH B h38 ⟨k13, 3, none⟩ = some (.slice a31 n32 c33) ∧ za B h38 ⟨k21, 0, none⟩ 0 l35 ∧
 semH PG B (Builtin.append_ #[32, 32] 32 #[(.slice a31 n32 c33), (.slice (some ⟨k37, 0, none⟩) 1 1)]) h38 (fun v h41 => ∃ a42 : Option Addr, ∃ n43 : Nat, ∃ c44 : Nat, v = (.slice a42 n43 c44) ∧
 cellH B h41 ⟨k13, 3, none⟩ = some (.slice a31 n32 c33) ∧ za B h41 ⟨k21, 0, none⟩ 0 l35 ∧
 ∃ h47 : Heap, ym h41 ⟨k13, 3, none⟩ (.slice a42 n43 c44) = some h47 ∧
 ∃ (J71 : Int → Nat → Heap → Prop) (m69 : Nat), Fin B h47 (J71 (0) m69) ∧
 ∀ (i66 : Int) (m68 : Nat) (h67 : Heap), J71 i66 m68 h67 →
 ((i66 : Int) < ((n2 : Nat)) →
 ∃ A72 : Addr, a1 = some A72 ∧ 0 ≤ (i66 : Int) ∧ (i66 : Int) < (n2 : Nat) ∧
 ∃ i74 : Int, ∃ i75 : Int, ∃ i76 : Int, ∃ i77 : Int, za B h67 (Addr.add A72 (Int.toNat (i66) * 4)) 0 [(.int .i64 (i74)), (.int .i64 (i75)), (.int .i64 (i76)), (.int .u8 (i77))] ∧
 ∀ k78 : Nat, h67 k78 = none → B k78 = none → ∀ h79 : Heap, h79 = Heap.set h67 k78 (.vec 38 (zc [(.int .i64 (0)), (.int .i64 (0)), (.int .i64 (0)), (.int .u8 (0))]) 4) →
 ∃ h80 : Heap, zi ⟨k78, 0, none⟩ h79 0 [(.int .i64 (i74)), (.int .i64 (i75)), (.int .i64 (i76)), (.int .u8 (i77))] h80 ∧
 ∃ i81 : Int, ∃ i82 : Int, ∃ i83 : Int, ∃ i84 : Int, za B h80 ⟨k78, 0, none⟩ 0 [(.int .i64 (i81)), (.int .i64 (i82)), (.int .i64 (i83)), (.int .u8 (i84))] ∧
 yK B (some ⟨k13, 0, none⟩) (i81) (i82) (i83) (i84) h80 (fun h85 =>
 Fin B h85 (fun h' => ∃ m', m' < m68 ∧ J71 (IntKind.wrap .i64 ((i66) + (1))) m' h'))) ∧ (¬ ((i66 : Int) < ((n2 : Nat))) →
 Fin B h67 (fun h' => vF B k9 k13 h' Q)))))
def vV (B : RO) (p1 : Option Addr) (i2 : Int) (h6 : Heap) (Q : Int → Int → Heap → Prop) : Prop :=
 ∃ A7 : Addr, p1 = some A7 ∧
 ∃ p9 : Option Addr, cellH B h6 (Addr.add A7 2) = some (.pointer p9) ∧
 wG B p9 (i2) h6 (fun i11 b12 h10 =>
 (b12 = true →
 Fin B h10 (Q (i11) (0))) ∧ (b12 = false →
 xm B p1 (0) (i2) h10 (fun i14 h13 =>
 ((i14 : Int) = 0 →
 ∃ A15 : Addr, p1 = some A15 ∧
 ∃ p17 : Option Addr, cellH B h13 A15 = some (.pointer p17) ∧
 ∃ A18 : Addr, p17 = some A18 ∧
 ∃ p20 : Option Addr, cellH B h13 A18 = some (.pointer p20) ∧
 xg B p20 (i2) h13 (fun i22 i23 h21 =>
 Fin B h21 (Q (i22) (0)))) ∧ (¬ ((i14 : Int) = 0) →
 Fin B h13 (Q (0) (i14))))))
def Z7 (B : RO) (p1 : Option Addr) (i2 : Int) (h : Heap) (Q : Int → Int → Heap → Prop) : Prop :=
 (p1 = none →
 Fin B h (Q (0) (2))) ∧ (¬ (p1 = none) →
 ((i2 : Int) < (0) →
 Fin B h (Q (0) (1))) ∧ (¬ ((i2 : Int) < (0)) →
 ((i2 : Int) ≥ (8) →
 Fin B h (Q (0) (1))) ∧ (¬ ((i2 : Int) ≥ (8)) →
 Fin B h (fun h' => vV B p1 i2 h' Q))))
def Yl (B : RO) (p1 : Option Addr) (i2 : Int) (i3 : Int) (i4 : Int) (i5 : Int) (h : Heap) (Q : Heap → Prop) : Prop :=
 ∀ k6 : Nat, h k6 = none → B k6 = none → ∀ h7 : Heap, h7 = Heap.set h k6 (.vec 38 (zc [(.int .i64 (i2)), (.int .i64 (i3)), (.int .i64 (i4)), (.int .u8 (i5))]) 4) →
 ∃ A8 : Addr, p1 = some A8 ∧
 ∃ p10 : Option Addr, cellH B h7 A8 = some (.pointer p10) ∧
 w8 B p10 (0) (0) (0) (0) h7 (fun p12 h11 =>
 ∃ i13 : Int, ∃ i14 : Int, ∃ i15 : Int, ∃ i16 : Int, za B h11 ⟨k6, 0, none⟩ 0 [(.int .i64 (i13)), (.int .i64 (i14)), (.int .i64 (i15)), (.int .u8 (i16))] ∧
 yx B p12 (i13) (i14) (i15) (i16) h11 (fun i18 i19 h17 =>
 yW B p12 h17 (fun b21 h20 =>
 ∃ A22 : Addr, p1 = some A22 ∧
 ∃ p24 : Option Addr, cellH B h20 A22 = some (.pointer p24) ∧
 yI B p24 h20 (fun l26 s27 s28 s29 h25 =>
 ∀ k30 : Nat, h25 k30 = none → B k30 = none → ∀ h31 : Heap, h31 = Heap.set h25 k30 (.vec 55 (zc [(.int .i64 (0)), (.int .i64 (0)), (.int .i64 (0)), (.int .i64 (0)), (.int .i64 (0)), (.int .i64 (0)), (.int .i64 (0)), (.int .i64 (0)), (.bool false), (.string ByteArray.empty), (.bool false), (.string ByteArray.empty), (.bool false), (.string ByteArray.empty), (.bool false), (.string ByteArray.empty), (.bool false), (.string ByteArray.empty), (.bool false), (.string ByteArray.empty), (.int .i64 (0)), (.int .i64 (0)), (.int .i64 (0))]) 23) →
 ∀ k32 : Nat, h31 k32 = none → B k32 = none → ∀ h33 : Heap, h33 = Heap.set h31 k32 (.vec 56 (zc [(.string ByteArray.empty), (.string ByteArray.empty), (.string ByteArray.empty)]) 3) →
 List.length l26 = 23 ∧ ∃ h34 : Heap, zi ⟨k30, 0, none⟩ h33 0 l26 h34 ∧
 ∃ h35 : Heap, zi ⟨k32, 0, none⟩ h34 0 [(.string s27), (.string s28), (.string s29)] h35 ∧
 ∃ A38 : Addr, p1 = some A38 ∧
 ∃ a42 : Option Addr, ∃ n43 : Nat, ∃ c44 : Nat, cellH B h35 (Addr.add A38 3) = some (.slice a42 n43 c44) ∧
 ∃ l46 : List Value, List.length l46 = 23 ∧ za B h35 ⟨k30, 0, none⟩ 0 l46 ∧
 ∀ k48 : Nat, h35 k48 = none → B k48 = none → ∀ h49 : Heap, h49 = Heap.set h35 k48 (.vec 55 (zc l46) 23) →
 cellH B h49 (Addr.add A38 3) = some (.slice a42 n43 c44) ∧ za B h49 ⟨k30, 0, none⟩ 0 l46 ∧
 semH PG B (Builtin.append_ #[32, 32] 32 #[(.slice a42 n43 c44), (.slice (some ⟨k48, 0, none⟩) 1 1)]) h49 (fun v h52 => ∃ a53 : Option Addr, ∃ n54 : Nat, ∃ c55 : Nat, v = (.slice a53 n54 c55) ∧
 cellH B h52 (Addr.add A38 3) = some (.slice a42 n43 c44) ∧ za B h52 ⟨k30, 0, none⟩ 0 l46 ∧
 ∃ A58 : Addr, p1 = some A58 ∧
 ∃ h60 : Heap, ym h52 (Addr.add A58 3) (.slice a53 n54 c55) = some h60 ∧
 Fin B h60 (Q))))))
def vh (B : RO) (p1 : Option Addr) (h : Heap) (Q : Bool → Heap → Prop) : Prop :=
 (p1 = none →
 Fin B h (Q (false))) ∧ (¬ (p1 = none) →
 ∃ A10 : Addr, p1 = some A10 ∧
 ∃ p14 : Option Addr, cellH B h (Addr.add A10 1) = some (.pointer p14) ∧
 ∃ A17 : Addr, p1 = some A17 ∧
 ∃ p21 : Option Addr, cellH B h A17 = some (.pointer p21) ∧
 xF B p21 h (fun l24 h23 =>
 cellH B h23 (Addr.add A10 1) = some (.pointer p14) ∧ cellH B h23 A17 = some (.pointer p21) ∧
 w6 B p14 l24 h23 (fun b28 h27 =>
 cellH B h27 (Addr.add A10 1) = some (.pointer p14) ∧ cellH B h27 A17 = some (.pointer p21) ∧
 Fin B h27 (Q (b28)))))
def vU (B : RO) (p1 : Option Addr) (k8 : Nat) (h19 : Heap) (Q : Bool → Heap → Prop) : Prop :=
 ∃ A20 : Addr, p1 = some A20 ∧
 ∃ p22 : Option Addr, cellH B h19 (Addr.add (Addr.add A20 2) 1) = some (.pointer p22) ∧
 ∃ p23 : Option Addr, cellH B h19 ⟨k8, 0, none⟩ = some (.pointer p23) ∧
 ∃ A24 : Addr, p23 = some A24 ∧
 ∃ p26 : Option Addr, cellH B h19 (Addr.add A24 1) = some (.pointer p26) ∧
 ∃ p27 : Option Addr, cellH B h19 ⟨k8, 0, none⟩ = some (.pointer p27) ∧
 ∃ A28 : Addr, p27 = some A28 ∧
 ∃ i30 : Int, cellH B h19 (Addr.add A28 3) = some (.int .i64 (i30)) ∧
 vD B p22 p26 (i30) h19 (fun i32 h31 =>
 ∃ (J38 : Int → Nat → Heap → Prop) (m36 : Nat), Fin B h31 (J38 (0) m36) ∧
 ∀ (i33 : Int) (m35 : Nat) (h34 : Heap), J38 i33 m35 h34 →
 ((i33 : Int) < (3) →
 ∃ A39 : Addr, p1 = some A39 ∧
 ∃ p41 : Option Addr, cellH B h34 (Addr.add (Addr.add A39 2) 2) = some (.pointer p41) ∧
 wP B p41 (i33) h34 (fun i43 h42 =>
 ((i43 : Int) > (0) →
 ∃ p44 : Option Addr, cellH B h42 ⟨k8, 0, none⟩ = some (.pointer p44) ∧
 ∃ A45 : Addr, p44 = some A45 ∧
 ∃ p47 : Option Addr, cellH B h42 (Addr.add A45 2) = some (.pointer p47) ∧
 xn B p47 (i33) h42 (fun i49 i50 h48 =>
 ∃ p51 : Option Addr, cellH B h48 ⟨k8, 0, none⟩ = some (.pointer p51) ∧
 ∃ A52 : Addr, p51 = some A52 ∧
 ∃ p54 : Option Addr, cellH B h48 (Addr.add A52 2) = some (.pointer p54) ∧
 ∃ p55 : Option Addr, cellH B h48 ⟨k8, 0, none⟩ = some (.pointer p55) ∧
 ∃ A56 : Addr, p55 = some A56 ∧
 ∃ i58 : Int, cellH B h48 (Addr.add A56 3) = some (.int .i64 (i58)) ∧
 Zn B p54 (i33) (IntKind.wrap .i64 ((i49) + (i43))) (i58) h48 (fun b60 h59 =>
 Fin B h59 (fun h' => ∃ m', m' < m35 ∧ J38 (IntKind.wrap .i64 ((i33) + (1))) m' h')))) ∧ (¬ ((i43 : Int) > (0)) →
 Fin B h42 (fun h' => ∃ m', m' < m35 ∧ J38 (IntKind.wrap .i64 ((i33) + (1))) m' h')))) ∧ (¬ ((i33 : Int) < (3)) →
 Fin B h34 (Q (true))))
def Z6 (B : RO) (p1 : Option Addr) (h : Heap) (Q : Bool → Heap → Prop) : Prop :=
 yH B p1 h (fun b4 h3 =>
 (b4 = true →
 ∃ A5 : Addr, p1 = some A5 ∧
 ∃ p7 : Option Addr, cellH B h3 A5 = some (.pointer p7) ∧
 ∀ k8 : Nat, h3 k8 = none → B k8 = none → ∀ h9 : Heap, h9 = Heap.set h3 k8 (.vec 29 (zc [(.pointer none)]) 1) →
 ∃ h10 : Heap, ym h9 ⟨k8, 0, none⟩ (.pointer p7) = some h10 ∧
 ∃ p11 : Option Addr, cellH B h10 ⟨k8, 0, none⟩ = some (.pointer p11) ∧
 ∃ A12 : Addr, p11 = some A12 ∧
 ∃ i14 : Int, cellH B h10 (Addr.add A12 3) = some (.int .i64 (i14)) ∧
 ∃ A15 : Addr, p11 = some A15 ∧
 ∃ h17 : Heap, ym h10 (Addr.add A15 3) (.int .i64 (IntKind.wrap .i64 ((i14) + (1)))) = some h17 ∧
 ∃ A61 : Addr, p1 = some A61 ∧
 ∃ p63 : Option Addr, cellH B h17 (Addr.add A61 2) = some (.pointer p63) ∧
 wF B p63 h17 (fun v65 h64 =>
 ∃ (xs72 : List (Int × Int)) (G68 : Heap → Prop) (J71 : Nat → Heap → Prop), Iter PG B v65 (xs72.map (fun x : Int × Int => [(.int .i64 (x.1)), (.int .i64 (x.2))])) G68 ∧ Ins G68 ∧ (∀ i h, J71 i h → G68 h) ∧ Fin B h64 (J71 0) ∧
 (∀ (q70 : Nat) (h69 : Heap) (i66 : Int) (i67 : Int), xs72[q70]? = some (i66, i67) → J71 q70 h69 →
 ∃ p73 : Option Addr, cellH B h69 ⟨k8, 0, none⟩ = some (.pointer p73) ∧
 ∃ A74 : Addr, p73 = some A74 ∧
 ∃ p76 : Option Addr, cellH B h69 A74 = some (.pointer p76) ∧
 ∃ p77 : Option Addr, cellH B h69 ⟨k8, 0, none⟩ = some (.pointer p77) ∧
 ∃ A78 : Addr, p77 = some A78 ∧
 ∃ i80 : Int, cellH B h69 (Addr.add A78 3) = some (.int .i64 (i80)) ∧
 wE B p76 (i66) (i67) (i80) h69 (fun b82 h81 =>
 Fin B h81 (J71 (q70 + 1)))) ∧
 (∀ (h69 : Heap), J71 xs72.length h69 →
 Fin B h69 (fun h' => vU B p1 k8 h' Q)))) ∧ (b4 = false →
 Fin B h3 (Q (false))))
def YZ (B : RO) (a1 : Option Addr) (n2 : Nat) (c3 : Nat) (h : Heap) (Q : Bool → Heap → Prop) : Prop :=
 (((n2 : Nat) : Int) > (60) →
 Fin B h (Q (true))) ∧ (¬ (((n2 : Nat) : Int) > (60)) →
 ∃ (J10 : Int → Nat → Heap → Prop) (m8 : Nat), Fin B h (J10 (0) m8) ∧
 ∀ (i5 : Int) (m7 : Nat) (h6 : Heap), J10 i5 m7 h6 →
 ((i5 : Int) < ((n2 : Nat)) →
 ∃ A11 : Addr, a1 = some A11 ∧ 0 ≤ (i5 : Int) ∧ (i5 : Int) < (n2 : Nat) ∧
 ∃ i13 : Int, ∃ i14 : Int, ∃ i15 : Int, ∃ i16 : Int, ∃ i17 : Int, ∃ s18 : ByteArray, za B h6 (Addr.add A11 (Int.toNat (i5) * 6)) 0 [(.int .i64 (i13)), (.int .i64 (i14)), (.int .i64 (i15)), (.int .i64 (i16)), (.int .u8 (i17)), (.string s18)] ∧
 ∀ k19 : Nat, h6 k19 = none → B k19 = none → ∀ h20 : Heap, h20 = Heap.set h6 k19 (.vec 48 (zc [(.int .i64 (0)), (.int .i64 (0)), (.int .i64 (0)), (.int .i64 (0)), (.int .u8 (0)), (.string ByteArray.empty)]) 6) →
 ∃ h21 : Heap, zi ⟨k19, 0, none⟩ h20 0 [(.int .i64 (i13)), (.int .i64 (i14)), (.int .i64 (i15)), (.int .i64 (i16)), (.int .u8 (i17)), (.string s18)] h21 ∧
 ∃ s22 : ByteArray, cellH B h21 ⟨k19, 5, none⟩ = some (.string s22) ∧
 (((ByteArray.size s22 : Nat) : Int) > (100) →
 Fin B h21 (Q (true))) ∧ (¬ (((ByteArray.size s22 : Nat) : Int) > (100)) →
 Fin B h21 (fun h' => ∃ m', m' < m7 ∧ J10 (IntKind.wrap .i64 ((i5) + (1))) m' h'))) ∧ (¬ ((i5 : Int) < ((n2 : Nat))) →
 Fin B h6 (Q (false))))
def vn (B : RO) (p1 : Option Addr) (k6 : Nat) (k8 : Nat) (k10 : Nat) (k12 : Nat) (h17 : Heap) (Q : List Value → ByteArray → ByteArray → ByteArray → Heap → Prop) : Prop :=
 ∃ (J23 : Int → Nat → Heap → Prop) (m21 : Nat), Fin B h17 (J23 (0) m21) ∧
 ∀ (i18 : Int) (m20 : Nat) (h19 : Heap), J23 i18 m20 h19 →
 ((i18 : Int) < (3) →
 ∃ A24 : Addr, p1 = some A24 ∧
 ∃ p26 : Option Addr, cellH B h19 (Addr.add A24 2) = some (.pointer p26) ∧
 xn B p26 (i18) h19 (fun i28 i29 h27 =>
 0 ≤ (i18 : Int) ∧ (i18 : Int) < (3 : Nat) ∧
 ∃ h30 : Heap, ym h27 (Addr.add ⟨k10, 20, none⟩ (Int.toNat (i18) * 1)) (.int .i64 (i28)) = some h30 ∧
 ∃ A31 : Addr, p1 = some A31 ∧
 ∃ p33 : Option Addr, cellH B h30 (Addr.add A31 2) = some (.pointer p33) ∧
 Zo B p33 (i18) h30 (fun s35 h34 =>
 0 ≤ (i18 : Int) ∧ (i18 : Int) < (3 : Nat) ∧
 ∃ h36 : Heap, ym h34 (Addr.add ⟨k12, 0, none⟩ (Int.toNat (i18) * 1)) (.string s35) = some h36 ∧
 Fin B h36 (fun h' => ∃ m', m' < m20 ∧ J23 (IntKind.wrap .i64 ((i18) + (1))) m' h')))) ∧ (¬ ((i18 : Int) < (3)) →
 ∃ l37 : List Value, List.length l37 = 23 ∧ za B h19 ⟨k10, 0, none⟩ 0 l37 ∧
 ∃ s39 : ByteArray, ∃ s40 : ByteArray, ∃ s41 : ByteArray, za B h19 ⟨k12, 0, none⟩ 0 [(.string s39), (.string s40), (.string s41)] ∧
 List.length l37 = 23 ∧ ∃ h43 : Heap, zi ⟨k6, 0, none⟩ h19 0 l37 h43 ∧
 za B h43 ⟨k10, 0, none⟩ 0 l37 ∧ za B h43 ⟨k12, 0, none⟩ 0 [(.string s39), (.string s40), (.string s41)] ∧
 ∃ h46 : Heap, zi ⟨k8, 0, none⟩ h43 0 [(.string s39), (.string s40), (.string s41)] h46 ∧
 ∃ l47 : List Value, List.length l47 = 23 ∧ za B h46 ⟨k6, 0, none⟩ 0 l47 ∧ ∃ s48 : ByteArray, ∃ s49 : ByteArray, ∃ s50 : ByteArray, za B h46 ⟨k8, 0, none⟩ 0 [(.string s48), (.string s49), (.string s50)] ∧ Fin B h46 (Q l47 s48 s49 s50))
def vm (B : RO) (p1 : Option Addr) (k6 : Nat) (k8 : Nat) (k10 : Nat) (k12 : Nat) (h15 : Heap) (Q : List Value → ByteArray → ByteArray → ByteArray → Heap → Prop) : Prop :=
 ∃ (J56 : Int → Nat → Heap → Prop) (m54 : Nat), Fin B h15 (J56 (0) m54) ∧
 ∀ (i51 : Int) (m53 : Nat) (h52 : Heap), J56 i51 m53 h52 →
 ((i51 : Int) < (6) →
 ∃ A57 : Addr, p1 = some A57 ∧
 ∃ p59 : Option Addr, cellH B h52 (Addr.add A57 1) = some (.pointer p59) ∧
 wV B p59 (i51) h52 (fun b61 s62 i63 h60 =>
 ∀ k64 : Nat, h60 k64 = none → B k64 = none → ∀ h65 : Heap, h65 = Heap.set h60 k64 (.vec 119 (zc [(.bool false), (.string ByteArray.empty)]) 2) →
 ∃ h66 : Heap, zi ⟨k64, 0, none⟩ h65 0 [(.bool b61), (.string s62)] h66 ∧
 ∃ b67 : Bool, ∃ s68 : ByteArray, za B h66 ⟨k64, 0, none⟩ 0 [(.bool b67), (.string s68)] ∧
 0 ≤ (i51 : Int) ∧ (i51 : Int) < (6 : Nat) ∧
 ∃ h69 : Heap, zi (Addr.add ⟨k10, 8, none⟩ (Int.toNat (i51) * 2)) h66 0 [(.bool b67), (.string s68)] h69 ∧
 Fin B h69 (fun h' => ∃ m', m' < m53 ∧ J56 (IntKind.wrap .i64 ((i51) + (1))) m' h'))) ∧ (¬ ((i51 : Int) < (6)) →
 Fin B h52 (fun h' => vn B p1 k6 k8 k10 k12 h' Q))
def YR (B : RO) (p1 : Option Addr) (h : Heap) (Q : List Value → ByteArray → ByteArray → ByteArray → Heap → Prop) : Prop :=
 ∀ k6 : Nat, h k6 = none → B k6 = none → ∀ h7 : Heap, h7 = Heap.set h k6 (.vec 55 (zc [(.int .i64 (0)), (.int .i64 (0)), (.int .i64 (0)), (.int .i64 (0)), (.int .i64 (0)), (.int .i64 (0)), (.int .i64 (0)), (.int .i64 (0)), (.bool false), (.string ByteArray.empty), (.bool false), (.string ByteArray.empty), (.bool false), (.string ByteArray.empty), (.bool false), (.string ByteArray.empty), (.bool false), (.string ByteArray.empty), (.bool false), (.string ByteArray.empty), (.int .i64 (0)), (.int .i64 (0)), (.int .i64 (0))]) 23) →
 ∀ k8 : Nat, h7 k8 = none → B k8 = none → ∀ h9 : Heap, h9 = Heap.set h7 k8 (.vec 56 (zc [(.string ByteArray.empty), (.string ByteArray.empty), (.string ByteArray.empty)]) 3) →
 ∀ k10 : Nat, h9 k10 = none → B k10 = none → ∀ h11 : Heap, h11 = Heap.set h9 k10 (.vec 55 (zc [(.int .i64 (0)), (.int .i64 (0)), (.int .i64 (0)), (.int .i64 (0)), (.int .i64 (0)), (.int .i64 (0)), (.int .i64 (0)), (.int .i64 (0)), (.bool false), (.string ByteArray.empty), (.bool false), (.string ByteArray.empty), (.bool false), (.string ByteArray.empty), (.bool false), (.string ByteArray.empty), (.bool false), (.string ByteArray.empty), (.bool false), (.string ByteArray.empty), (.int .i64 (0)), (.int .i64 (0)), (.int .i64 (0))]) 23) →
 ∀ k12 : Nat, h11 k12 = none → B k12 = none → ∀ h13 : Heap, h13 = Heap.set h11 k12 (.vec 56 (zc [(.string ByteArray.empty), (.string ByteArray.empty), (.string ByteArray.empty)]) 3) →
 ∃ (J75 : Int → Nat → Heap → Prop) (m73 : Nat), Fin B h13 (J75 (0) m73) ∧
 ∀ (i70 : Int) (m72 : Nat) (h71 : Heap), J75 i70 m72 h71 →
 ((i70 : Int) < (8) →
 ∃ A76 : Addr, p1 = some A76 ∧
 ∃ p78 : Option Addr, cellH B h71 A76 = some (.pointer p78) ∧
 xg B p78 (i70) h71 (fun i80 i81 h79 =>
 0 ≤ (i70 : Int) ∧ (i70 : Int) < (8 : Nat) ∧
 ∃ h82 : Heap, ym h79 (Addr.add ⟨k10, 0, none⟩ (Int.toNat (i70) * 1)) (.int .i64 (i80)) = some h82 ∧
 Fin B h82 (fun h' => ∃ m', m' < m72 ∧ J75 (IntKind.wrap .i64 ((i70) + (1))) m' h'))) ∧ (¬ ((i70 : Int) < (8)) →
 Fin B h71 (fun h' => vm B p1 k6 k8 k10 k12 h' Q))
def ZM (B : RO) (p1 : Option Addr) (i2 : Int) (i3 : Int) (i4 : Int) (i5 : Int) (h : Heap) (Q : Int → Int → Heap → Prop) : Prop :=
 ∀ k8 : Nat, h k8 = none → B k8 = none → ∀ h9 : Heap, h9 = Heap.set h k8 (.vec 38 (zc [(.int .i64 (i2)), (.int .i64 (i3)), (.int .i64 (i4)), (.int .u8 (i5))]) 4) →
 ∃ i10 : Int, cellH B h9 ⟨k8, 0, none⟩ = some (.int .i64 (i10)) ∧
 ((i10 : Int) = 0 →
 ∃ i11 : Int, cellH B h9 ⟨k8, 1, none⟩ = some (.int .i64 (i11)) ∧
 yX B p1 (i11) h9 (fun i13 i14 h12 =>
 Fin B h12 (Q (i13) (i14)))) ∧ (¬ ((i10 : Int) = 0) →
 ((i10 : Int) = 1 →
 ∃ i15 : Int, cellH B h9 ⟨k8, 1, none⟩ = some (.int .i64 (i15)) ∧
 ∃ i16 : Int, cellH B h9 ⟨k8, 2, none⟩ = some (.int .i64 (i16)) ∧
 xf B p1 (i15) (i16) h9 (fun i18 h17 =>
 Fin B h17 (Q (0) (i18)))) ∧ (¬ ((i10 : Int) = 1) →
 ((i10 : Int) = 2 →
 ∃ i19 : Int, cellH B h9 ⟨k8, 1, none⟩ = some (.int .i64 (i19)) ∧
 ∃ i20 : Int, cellH B h9 ⟨k8, 2, none⟩ = some (.int .i64 (i20)) ∧
 xV B p1 (i19) (i20) h9 (fun i22 i23 h21 =>
 Fin B h21 (Q (i22) (i23)))) ∧ (¬ ((i10 : Int) = 2) →
 ((i10 : Int) = 3 →
 ∃ i24 : Int, cellH B h9 ⟨k8, 1, none⟩ = some (.int .i64 (i24)) ∧
 ∃ i25 : Int, cellH B h9 ⟨k8, 2, none⟩ = some (.int .i64 (i25)) ∧
 ∃ i26 : Int, cellH B h9 ⟨k8, 3, none⟩ = some (.int .u8 (i26)) ∧
 xL B p1 (i24) (i25) (i26) h9 (fun i28 h27 =>
 Fin B h27 (Q (0) (i28)))) ∧ (¬ ((i10 : Int) = 3) →
 ((i10 : Int) = 4 →
 ∃ i29 : Int, cellH B h9 ⟨k8, 1, none⟩ = some (.int .i64 (i29)) ∧
 xw B p1 (i29) h9 (fun i31 h30 =>
 Fin B h30 (Q (0) (i31)))) ∧ (¬ ((i10 : Int) = 4) →
 ((i10 : Int) = 5 →
 ∃ i32 : Int, cellH B h9 ⟨k8, 1, none⟩ = some (.int .i64 (i32)) ∧
 xy B p1 (i32) h9 (fun i34 h33 =>
 Fin B h33 (Q (0) (i34)))) ∧ (¬ ((i10 : Int) = 5) →
 ((i10 : Int) = 6 →
 ∃ i35 : Int, cellH B h9 ⟨k8, 1, none⟩ = some (.int .i64 (i35)) ∧
 ∃ i36 : Int, cellH B h9 ⟨k8, 2, none⟩ = some (.int .i64 (i36)) ∧
 xz B p1 (i35) (i36) h9 (fun i38 h37 =>
 Fin B h37 (Q (0) (i38)))) ∧ (¬ ((i10 : Int) = 6) →
 ((i10 : Int) = 7 →
 ∃ i39 : Int, cellH B h9 ⟨k8, 1, none⟩ = some (.int .i64 (i39)) ∧
 ∃ i40 : Int, cellH B h9 ⟨k8, 2, none⟩ = some (.int .i64 (i40)) ∧
 x6 B p1 (i39) (i40) h9 (fun i42 h41 =>
 Fin B h41 (Q (0) (i42)))) ∧ (¬ ((i10 : Int) = 7) →
 ((i10 : Int) = 8 →
 ∃ i43 : Int, cellH B h9 ⟨k8, 1, none⟩ = some (.int .i64 (i43)) ∧
 xW B p1 (i43) h9 (fun i45 i46 h44 =>
 Fin B h44 (Q (i45) (i46)))) ∧ (¬ ((i10 : Int) = 8) →
 Fin B h9 (Q (0) (1)))))))))))
def Yr (B : RO) (p1 : Option Addr) (i2 : Int) (s3 : ByteArray) (h6 : Heap) (Q : Int → Heap → Prop) : Prop :=
 ∃ A7 : Addr, p1 = some A7 ∧
 0 ≤ (i2 : Int) ∧ (i2 : Int) < (3 : Nat) ∧
 ∃ s9 : ByteArray, cellH B h6 (Addr.add A7 (Int.toNat (i2) * 1)) = some (.string s9) ∧
 ByteArray.size s9 + ByteArray.size s3 ≤ 4611686018427387904 ∧
 ∃ A10 : Addr, p1 = some A10 ∧
 0 ≤ (i2 : Int) ∧ (i2 : Int) < (3 : Nat) ∧
 ∃ h12 : Heap, ym h6 (Addr.add A10 (Int.toNat (i2) * 1)) (.string (s9 ++ s3)) = some h12 ∧
 Fin B h12 (Q (0))
def WS (B : RO) (p1 : Option Addr) (i2 : Int) (s3 : ByteArray) (h : Heap) (Q : Int → Heap → Prop) : Prop :=
 (p1 = none →
 Fin B h (Q (2))) ∧ (¬ (p1 = none) →
 wI B p1 (i2) h (fun b15 h14 =>
 (b15 = true →
 ∃ A16 : Addr, p1 = some A16 ∧
 0 ≤ (i2 : Int) ∧ (i2 : Int) < (3 : Nat) ∧
 ∃ s18 : ByteArray, cellH B h14 (Addr.add A16 (Int.toNat (i2) * 1)) = some (.string s18) ∧
 (((ByteArray.size s3 : Nat) : Int) > (IntKind.wrap .i64 ((64) - ((ByteArray.size s18 : Nat)))) →
 Fin B h14 (Q (6))) ∧ (¬ (((ByteArray.size s3 : Nat) : Int) > (IntKind.wrap .i64 ((64) - ((ByteArray.size s18 : Nat))))) →
 Fin B h14 (fun h' => Yr B p1 i2 s3 h' Q))) ∧ (b15 = false →
 Fin B h14 (Q (1)))))
def wW (B : RO) (k10 : Nat) (k14 : Nat) (k18 : Nat) (i21 : Int) (h22 : Heap) (Q : Int → List Value → Heap → Prop) : Prop :=
 ∃ l23 : List Value, List.length l23 = 12 ∧ za B h22 ⟨k18, 12, none⟩ 0 l23 ∧
 List.length l23 = 12 ∧ ∃ h24 : Heap, zi ⟨k10, 8, none⟩ h22 0 l23 h24 ∧
 ∃ l25 : List Value, List.length l25 = 23 ∧ za B h24 ⟨k10, 0, none⟩ 0 l25 ∧
 List.length l25 = 23 ∧ ∃ h26 : Heap, zi ⟨k14, 0, none⟩ h24 0 l25 h26 ∧
 ∃ l27 : List Value, List.length l27 = 23 ∧ za B h26 ⟨k14, 0, none⟩ 0 l27 ∧ Fin B h26 (Q (i21) l27)
def XR (B : RO) (l1 : List Value) (s2 : ByteArray) (s3 : ByteArray) (s4 : ByteArray) (a5 : Option Addr) (n6 : Nat) (c7 : Nat) (h : Heap) (Q : Int → List Value → Heap → Prop) : Prop :=
 ∀ k10 : Nat, h k10 = none → B k10 = none → ∀ h11 : Heap, h11 = Heap.set h k10 (.vec 55 (zc l1) (List.length l1)) →
 ∀ k12 : Nat, h11 k12 = none → B k12 = none → ∀ h13 : Heap, h13 = Heap.set h11 k12 (.vec 56 (zc [(.string s2), (.string s3), (.string s4)]) 3) →
 ∀ k14 : Nat, h13 k14 = none → B k14 = none → ∀ h15 : Heap, h15 = Heap.set h13 k14 (.vec 55 (zc [(.int .i64 (0)), (.int .i64 (0)), (.int .i64 (0)), (.int .i64 (0)), (.int .i64 (0)), (.int .i64 (0)), (.int .i64 (0)), (.int .i64 (0)), (.bool false), (.string ByteArray.empty), (.bool false), (.string ByteArray.empty), (.bool false), (.string ByteArray.empty), (.bool false), (.string ByteArray.empty), (.bool false), (.string ByteArray.empty), (.bool false), (.string ByteArray.empty), (.int .i64 (0)), (.int .i64 (0)), (.int .i64 (0))]) 23) →
 ∃ l16 : List Value, List.length l16 = 12 ∧ za B h15 ⟨k10, 8, none⟩ 0 l16 ∧
 ∃ l17 : List Value, List.length l17 = 12 ∧ za B h15 ⟨k10, 8, none⟩ 0 l17 ∧
 ∀ k18 : Nat, h15 k18 = none → B k18 = none → ∀ h19 : Heap, h19 = Heap.set h15 k18 (.vec 132 (zc (l16 ++ l17 ++ [(.bool false), (.bool false), (.bool false), (.bool false), (.bool false), (.bool false)])) (List.length (l16 ++ l17 ++ [(.bool false), (.bool false), (.bool false), (.bool false), (.bool false), (.bool false)]))) →
 ∃ (J34 : Int → Int → Nat → Heap → Prop) (m32 : Nat), Fin B h19 (J34 (0) (0) m32) ∧
 ∀ (i28 : Int) (i29 : Int) (m31 : Nat) (h30 : Heap), J34 i28 i29 m31 h30 →
 ((i29 : Int) < ((n6 : Nat)) →
 ∃ A35 : Addr, a5 = some A35 ∧ 0 ≤ (i29 : Int) ∧ (i29 : Int) < (n6 : Nat) ∧
 ∃ i37 : Int, ∃ i38 : Int, ∃ i39 : Int, ∃ i40 : Int, za B h30 (Addr.add A35 (Int.toNat (i29) * 4)) 0 [(.int .i64 (i37)), (.int .i64 (i38)), (.int .i64 (i39)), (.int .u8 (i40))] ∧
 ∀ k41 : Nat, h30 k41 = none → B k41 = none → ∀ h42 : Heap, h42 = Heap.set h30 k41 (.vec 38 (zc [(.int .i64 (0)), (.int .i64 (0)), (.int .i64 (0)), (.int .u8 (0))]) 4) →
 ∃ h43 : Heap, zi ⟨k41, 0, none⟩ h42 0 [(.int .i64 (i37)), (.int .i64 (i38)), (.int .i64 (i39)), (.int .u8 (i40))] h43 ∧
 ∃ i44 : Int, cellH B h43 ⟨k41, 0, none⟩ = some (.int .i64 (i44)) ∧
 ((i44 : Int) = 0 →
 ∃ i45 : Int, cellH B h43 ⟨k41, 1, none⟩ = some (.int .i64 (i45)) ∧
 0 ≤ (i45 : Int) ∧ (i45 : Int) < (8 : Nat) ∧
 ∃ i46 : Int, cellH B h43 (Addr.add ⟨k10, 0, none⟩ (Int.toNat (i45) * 1)) = some (.int .i64 (i46)) ∧
 Fin B h43 (fun h' => ∃ m', m' < m31 ∧ J34 (i46) (IntKind.wrap .i64 ((i29) + (1))) m' h')) ∧ (¬ ((i44 : Int) = 0) →
 ((i44 : Int) = 1 →
 ∃ i47 : Int, cellH B h43 ⟨k41, 1, none⟩ = some (.int .i64 (i47)) ∧
 ∃ i48 : Int, cellH B h43 ⟨k41, 2, none⟩ = some (.int .i64 (i48)) ∧
 0 ≤ (i47 : Int) ∧ (i47 : Int) < (8 : Nat) ∧
 ∃ h49 : Heap, ym h43 (Addr.add ⟨k10, 0, none⟩ (Int.toNat (i47) * 1)) (.int .i64 (i48)) = some h49 ∧
 Fin B h49 (fun h' => ∃ m', m' < m31 ∧ J34 (0) (IntKind.wrap .i64 ((i29) + (1))) m' h')) ∧ (¬ ((i44 : Int) = 1) →
 ((i44 : Int) = 2 →
 ∃ i52 : Int, cellH B h43 ⟨k41, 1, none⟩ = some (.int .i64 (i52)) ∧
 0 ≤ (i52 : Int) ∧ (i52 : Int) < (6 : Nat) ∧
 ∃ b59 : Bool, ∃ s60 : ByteArray, za B h43 (Addr.add ⟨k18, 12, none⟩ (Int.toNat (i52) * 2)) 0 [(.bool b59), (.string s60)] ∧
 ∃ i63 : Int, cellH B h43 ⟨k41, 2, none⟩ = some (.int .i64 (i63)) ∧
 yR B (b59) s60 (i63) h43 (fun i66 h65 =>
 cellH B h65 ⟨k41, 1, none⟩ = some (.int .i64 (i52)) ∧ za B h65 (Addr.add ⟨k18, 12, none⟩ (Int.toNat (i52) * 2)) 0 [(.bool b59), (.string s60)] ∧ cellH B h65 ⟨k41, 2, none⟩ = some (.int .i64 (i63)) ∧
 Fin B h65 (fun h' => ∃ m', m' < m31 ∧ J34 (i66) (IntKind.wrap .i64 ((i29) + (1))) m' h'))) ∧ (¬ ((i44 : Int) = 2) →
 ((i44 : Int) = 3 →
 ∃ i70 : Int, cellH B h43 ⟨k41, 1, none⟩ = some (.int .i64 (i70)) ∧
 ∃ i71 : Int, cellH B h43 ⟨k41, 2, none⟩ = some (.int .i64 (i71)) ∧
 ∃ i72 : Int, cellH B h43 ⟨k41, 3, none⟩ = some (.int .u8 (i72)) ∧
 xh B (some ⟨k18, 0, none⟩) (i70) (i71) (i72) h43 (fun b74 h73 =>
 Fin B h73 (fun h' => ∃ m', m' < m31 ∧ J34 (0) (IntKind.wrap .i64 ((i29) + (1))) m' h'))) ∧ (¬ ((i44 : Int) = 3) →
 ((i44 : Int) = 4 →
 ∃ i75 : Int, cellH B h43 ⟨k41, 1, none⟩ = some (.int .i64 (i75)) ∧
 xb B (some ⟨k18, 0, none⟩) (i75) h43 (fun b77 h76 =>
 Fin B h76 (fun h' => ∃ m', m' < m31 ∧ J34 (0) (IntKind.wrap .i64 ((i29) + (1))) m' h'))) ∧ (¬ ((i44 : Int) = 4) →
 ((i44 : Int) = 5 →
 ∃ i78 : Int, cellH B h43 ⟨k41, 1, none⟩ = some (.int .i64 (i78)) ∧
 xc B (some ⟨k18, 0, none⟩) (i78) h43 (fun b80 h79 =>
 Fin B h79 (fun h' => ∃ m', m' < m31 ∧ J34 (0) (IntKind.wrap .i64 ((i29) + (1))) m' h'))) ∧ (¬ ((i44 : Int) = 5) →
 ((i44 : Int) = 6 →
 ∃ i81 : Int, cellH B h43 ⟨k41, 1, none⟩ = some (.int .i64 (i81)) ∧
 ∃ i82 : Int, cellH B h43 ⟨k41, 2, none⟩ = some (.int .i64 (i82)) ∧
 xd B (some ⟨k18, 0, none⟩) (i81) (i82) h43 (fun b84 h83 =>
 Fin B h83 (fun h' => ∃ m', m' < m31 ∧ J34 (0) (IntKind.wrap .i64 ((i29) + (1))) m' h'))) ∧ (¬ ((i44 : Int) = 6) →
 ((i44 : Int) = 7 →
 ∃ i85 : Int, cellH B h43 ⟨k41, 1, none⟩ = some (.int .i64 (i85)) ∧
 ∃ i86 : Int, cellH B h43 ⟨k41, 2, none⟩ = some (.int .i64 (i86)) ∧
 xB B (some ⟨k18, 0, none⟩) (i85) (i86) h43 (fun b88 h87 =>
 Fin B h87 (fun h' => ∃ m', m' < m31 ∧ J34 (0) (IntKind.wrap .i64 ((i29) + (1))) m' h'))) ∧ (¬ ((i44 : Int) = 7) →
 ((i44 : Int) = 8 →
 ∃ i89 : Int, cellH B h43 ⟨k41, 1, none⟩ = some (.int .i64 (i89)) ∧
 0 ≤ (i89 : Int) ∧ (i89 : Int) < (3 : Nat) ∧
 ∃ i90 : Int, cellH B h43 (Addr.add ⟨k10, 20, none⟩ (Int.toNat (i89) * 1)) = some (.int .i64 (i90)) ∧
 ∃ i91 : Int, cellH B h43 ⟨k41, 1, none⟩ = some (.int .i64 (i91)) ∧
 0 ≤ (i91 : Int) ∧ (i91 : Int) < (3 : Nat) ∧
 ∃ s92 : ByteArray, cellH B h43 (Addr.add ⟨k12, 0, none⟩ (Int.toNat (i91) * 1)) = some (.string s92) ∧
 ((i90 : Int) < ((ByteArray.size s92 : Nat)) →
 ∃ i94 : Int, cellH B h43 ⟨k41, 1, none⟩ = some (.int .i64 (i94)) ∧
 0 ≤ (i94 : Int) ∧ (i94 : Int) < (3 : Nat) ∧
 ∃ s95 : ByteArray, cellH B h43 (Addr.add ⟨k12, 0, none⟩ (Int.toNat (i94) * 1)) = some (.string s95) ∧
 ∃ i96 : Int, cellH B h43 ⟨k41, 1, none⟩ = some (.int .i64 (i96)) ∧
 0 ≤ (i96 : Int) ∧ (i96 : Int) < (3 : Nat) ∧
 ∃ i97 : Int, cellH B h43 (Addr.add ⟨k10, 20, none⟩ (Int.toNat (i96) * 1)) = some (.int .i64 (i97)) ∧
 0 ≤ (i97 : Int) ∧ (i97 : Int) < (ByteArray.size s95 : Nat) ∧
 ∃ i98 : Int, cellH B h43 ⟨k41, 1, none⟩ = some (.int .i64 (i98)) ∧
 0 ≤ (i98 : Int) ∧ (i98 : Int) < (3 : Nat) ∧
 ∃ i99 : Int, cellH B h43 (Addr.add ⟨k10, 20, none⟩ (Int.toNat (i98) * 1)) = some (.int .i64 (i99)) ∧
 0 ≤ (i98 : Int) ∧ (i98 : Int) < (3 : Nat) ∧
 ∃ h100 : Heap, ym h43 (Addr.add ⟨k10, 20, none⟩ (Int.toNat (i98) * 1)) (.int .i64 (IntKind.wrap .i64 ((i99) + (1)))) = some h100 ∧
 Fin B h100 (fun h' => ∃ m', m' < m31 ∧ J34 (IntKind.wrap .i64 (x4 s95 (Int.toNat (i97)))) (IntKind.wrap .i64 ((i29) + (1))) m' h')) ∧ (¬ ((i90 : Int) < ((ByteArray.size s92 : Nat))) →
 Fin B h43 (fun h' => ∃ m', m' < m31 ∧ J34 ((-1)) (IntKind.wrap .i64 ((i29) + (1))) m' h'))) ∧ (¬ ((i44 : Int) = 8) →
 Fin B h43 (fun h' => ∃ m', m' < m31 ∧ J34 (0) (IntKind.wrap .i64 ((i29) + (1))) m' h'))))))))))) ∧ (¬ ((i29 : Int) < ((n6 : Nat))) →
 Fin B h30 (fun h' => wW B k10 k14 k18 (i28) h' Q))
def Yk (B : RO) (p1 : Option Addr) (k3 : Nat) (k11 : Nat) (h17 : Heap) (Q : List Value → Heap → Prop) : Prop :=
 ∃ (J23 : Int → Nat → Heap → Prop) (m21 : Nat), Fin B h17 (J23 (0) m21) ∧
 ∀ (i18 : Int) (m20 : Nat) (h19 : Heap), J23 i18 m20 h19 →
 ((i18 : Int) < (3) →
 ∃ A24 : Addr, p1 = some A24 ∧
 ∃ p26 : Option Addr, cellH B h19 (Addr.add A24 2) = some (.pointer p26) ∧
 xn B p26 (i18) h19 (fun i28 i29 h27 =>
 0 ≤ (2 : Int) ∧ (2 : Int) < (3 : Nat) ∧
 0 ≤ (i18 : Int) ∧ (i18 : Int) < (8 : Nat) ∧
 ∃ h30 : Heap, ym h27 (Addr.add ⟨k11, 16, none⟩ (Int.toNat (i18) * 1)) (.int .i64 (i29)) = some h30 ∧
 Fin B h30 (fun h' => ∃ m', m' < m20 ∧ J23 (IntKind.wrap .i64 ((i18) + (1))) m' h'))) ∧ (¬ ((i18 : Int) < (3)) →
 ∃ l31 : List Value, List.length l31 = 25 ∧ za B h19 ⟨k11, 0, none⟩ 0 l31 ∧
 List.length l31 = 25 ∧ ∃ h32 : Heap, zi ⟨k3, 0, none⟩ h19 0 l31 h32 ∧
 ∃ l33 : List Value, List.length l33 = 25 ∧ za B h32 ⟨k3, 0, none⟩ 0 l33 ∧ Fin B h32 (Q l33))
def Yj (B : RO) (p1 : Option Addr) (k3 : Nat) (k11 : Nat) (h15 : Heap) (Q : List Value → Heap → Prop) : Prop :=
 ∃ (J39 : Int → Nat → Heap → Prop) (m37 : Nat), Fin B h15 (J39 (0) m37) ∧
 ∀ (i34 : Int) (m36 : Nat) (h35 : Heap), J39 i34 m36 h35 →
 ((i34 : Int) < (6) →
 ∃ A40 : Addr, p1 = some A40 ∧
 ∃ p42 : Option Addr, cellH B h35 (Addr.add A40 1) = some (.pointer p42) ∧
 wV B p42 (i34) h35 (fun b44 s45 i46 h43 =>
 0 ≤ (1 : Int) ∧ (1 : Int) < (3 : Nat) ∧
 0 ≤ (i34 : Int) ∧ (i34 : Int) < (8 : Nat) ∧
 ∃ h47 : Heap, ym h43 (Addr.add ⟨k11, 8, none⟩ (Int.toNat (i34) * 1)) (.int .i64 (i46)) = some h47 ∧
 Fin B h47 (fun h' => ∃ m', m' < m36 ∧ J39 (IntKind.wrap .i64 ((i34) + (1))) m' h'))) ∧ (¬ ((i34 : Int) < (6)) →
 Fin B h35 (fun h' => Yk B p1 k3 k11 h' Q))
def YV (B : RO) (p1 : Option Addr) (h : Heap) (Q : List Value → Heap → Prop) : Prop :=
 ∀ k3 : Nat, h k3 = none → B k3 = none → ∀ h4 : Heap, h4 = Heap.set h k3 (.vec 65 (zc (List.replicate 25 (.int .i64 (0)))) 25) →
 (p1 = none →
 ∃ h6 : Heap, zi ⟨k3, 0, none⟩ h4 0 (List.replicate 25 (.int .i64 (0))) h6 ∧
 ∃ l7 : List Value, List.length l7 = 25 ∧ za B h6 ⟨k3, 0, none⟩ 0 l7 ∧ Fin B h6 (Q l7)) ∧ (¬ (p1 = none) →
 ∃ A8 : Addr, p1 = some A8 ∧
 ∃ i10 : Int, cellH B h4 (Addr.add A8 3) = some (.int .i64 (i10)) ∧
 ∀ k11 : Nat, h4 k11 = none → B k11 = none → ∀ h12 : Heap, h12 = Heap.set h4 k11 (.vec 65 (zc (List.replicate 25 (.int .i64 (0)))) 25) →
 ∃ h13 : Heap, zi ⟨k11, 0, none⟩ h12 0 [(.int .i64 (0)), (.int .i64 (0)), (.int .i64 (0)), (.int .i64 (0)), (.int .i64 (0)), (.int .i64 (0)), (.int .i64 (0)), (.int .i64 (0)), (.int .i64 (0)), (.int .i64 (0)), (.int .i64 (0)), (.int .i64 (0)), (.int .i64 (0)), (.int .i64 (0)), (.int .i64 (0)), (.int .i64 (0)), (.int .i64 (0)), (.int .i64 (0)), (.int .i64 (0)), (.int .i64 (0)), (.int .i64 (0)), (.int .i64 (0)), (.int .i64 (0)), (.int .i64 (0)), (.int .i64 (i10))] h13 ∧
 ∃ (J53 : Int → Nat → Heap → Prop) (m51 : Nat), Fin B h13 (J53 (0) m51) ∧
 ∀ (i48 : Int) (m50 : Nat) (h49 : Heap), J53 i48 m50 h49 →
 ((i48 : Int) < (8) →
 ∃ A54 : Addr, p1 = some A54 ∧
 ∃ p56 : Option Addr, cellH B h49 A54 = some (.pointer p56) ∧
 ww B p56 (i48) h49 (fun i58 h57 =>
 0 ≤ (0 : Int) ∧ (0 : Int) < (3 : Nat) ∧
 0 ≤ (i48 : Int) ∧ (i48 : Int) < (8 : Nat) ∧
 ∃ h59 : Heap, ym h57 (Addr.add ⟨k11, 0, none⟩ (Int.toNat (i48) * 1)) (.int .i64 (i58)) = some h59 ∧
 Fin B h59 (fun h' => ∃ m', m' < m50 ∧ J53 (IntKind.wrap .i64 ((i48) + (1))) m' h'))) ∧ (¬ ((i48 : Int) < (8)) →
 Fin B h49 (fun h' => Yj B p1 k3 k11 h' Q)))
def vI (B : RO) (p1 : Option Addr) (i2 : Int) (i3 : Int) (h6 : Heap) (Q : Int → Heap → Prop) : Prop :=
 ∃ A7 : Addr, p1 = some A7 ∧
 ∃ p9 : Option Addr, cellH B h6 (Addr.add A7 2) = some (.pointer p9) ∧
 wH B p9 (i2) (i3) h6 (fun b11 h10 =>
 Fin B h10 (Q (0)))
def ZJ (B : RO) (p1 : Option Addr) (i2 : Int) (i3 : Int) (h : Heap) (Q : Int → Heap → Prop) : Prop :=
 (p1 = none →
 Fin B h (Q (2))) ∧ (¬ (p1 = none) →
 ((i2 : Int) < (0) →
 Fin B h (Q (1))) ∧ (¬ ((i2 : Int) < (0)) →
 ((i2 : Int) ≥ (8) →
 Fin B h (Q (1))) ∧ (¬ ((i2 : Int) ≥ (8)) →
 Fin B h (fun h' => vI B p1 i2 i3 h' Q))))
def ZI (B : RO) (p1 : Option Addr) (h : Heap) (Q : Option Addr → Heap → Prop) : Prop :=
 (p1 = none →
 Fin B h (Q none)) ∧ (¬ (p1 = none) →
 ∃ A4 : Addr, p1 = some A4 ∧
 ∃ p6 : Option Addr, cellH B h (Addr.add A4 1) = some (.pointer p6) ∧
 Fin B h (Q p6))
def W8 (B : RO) (h : Heap) (Q : Option Addr → Heap → Prop) : Prop :=
 Zj B (8) (0) h (fun p3 h2 =>
 Wa B h2 (fun p5 h4 =>
 X7 B h4 (fun p7 h6 =>
 ∀ k8 : Nat, h6 k8 = none → B k8 = none → ∀ h9 : Heap, h9 = Heap.set h6 k8 (.vec 43 (zc [(.pointer p3), (.pointer p5), (.pointer p7), (.int .i64 (0))]) 4) →
 Fin B h9 (Q (some ⟨k8, 0, none⟩)))))
def yw (B : RO) (k7 : Nat) (p10 : Option Addr) (A14 : Addr) (i18 : Int) (i20 : Int) (i21 : Int) (i22 : Int) (i23 : Int) (p230 : Option Addr) (p231 : Option Addr) (p232 : Option Addr) (p233 : Option Addr) (i234 : Int) (i235 : Int) (i236 : Int) (i237 : Int) (A238 : Addr) (A239 : Addr) (h240 : Heap) (Q : Option Addr → Heap → Prop) : Prop :=
 ∀ k243 : Nat, h240 k243 = none → B k243 = none → ∀ h244 : Heap, h244 = Heap.set h240 k243 (.vec 107 (zc [(.pointer p10), (.pointer p230), (.pointer p231), (.pointer p232), (.pointer p233), (.int .i64 (i234)), (.int .i64 (i235)), (.int .i64 (i236)), (.int .i64 (i237)), (.pointer (some A238)), (.pointer (some A239))]) 11) →
 cellH B h244 (Addr.add A14 3) = some (.int .i64 (i18)) ∧ za B h244 ⟨k7, 0, none⟩ 0 [(.int .i64 (i20)), (.int .i64 (i21)), (.int .i64 (i22)), (.int .i64 (i23))] ∧
 Fin B h244 (Q (some ⟨k243, 0, none⟩))
def Zv (B : RO) (k7 : Nat) (p10 : Option Addr) (h11 : Heap) (Q : Option Addr → Heap → Prop) : Prop :=
 ∃ A14 : Addr, p10 = some A14 ∧
 ∃ i18 : Int, cellH B h11 (Addr.add A14 3) = some (.int .i64 (i18)) ∧
 ∃ i20 : Int, ∃ i21 : Int, ∃ i22 : Int, ∃ i23 : Int, za B h11 ⟨k7, 0, none⟩ 0 [(.int .i64 (i20)), (.int .i64 (i21)), (.int .i64 (i22)), (.int .i64 (i23))] ∧
 (vy B (i18) h11 (fun p248 h247 =>
 cellH B h247 (Addr.add A14 3) = some (.int .i64 (i18)) ∧ za B h247 ⟨k7, 0, none⟩ 0 [(.int .i64 (i20)), (.int .i64 (i21)), (.int .i64 (i22)), (.int .i64 (i23))] ∧
 (y2 B (i20) (i21) (i22) (i23) h247 (fun p252 p253 p254 i255 i256 i257 i258 h251 =>
 cellH B h251 (Addr.add A14 3) = some (.int .i64 (i18)) ∧ za B h251 ⟨k7, 0, none⟩ 0 [(.int .i64 (i20)), (.int .i64 (i21)), (.int .i64 (i22)), (.int .i64 (i23))] ∧
 (∀ k261 : Nat, h251 k261 = none → B k261 = none → ∀ h262 : Heap, h262 = Heap.set h251 k261 (.vec 144 (zc [(.slice none 0 0), (.slice none 0 0), (.slice none 0 0), (.slice none 0 0)]) 4) →
 cellH B h262 (Addr.add A14 3) = some (.int .i64 (i18)) ∧ za B h262 ⟨k7, 0, none⟩ 0 [(.int .i64 (i20)), (.int .i64 (i21)), (.int .i64 (i22)), (.int .i64 (i23))] ∧
 ∀ k265 : Nat, h262 k265 = none → B k265 = none → ∀ h266 : Heap, h266 = Heap.set h262 k265 (.vec 147 (zc [(.slice none 0 0)]) 1) →
 cellH B h266 (Addr.add A14 3) = some (.int .i64 (i18)) ∧ za B h266 ⟨k7, 0, none⟩ 0 [(.int .i64 (i20)), (.int .i64 (i21)), (.int .i64 (i22)), (.int .i64 (i23))] ∧
 yw B k7 p10 A14 i18 i20 i21 i22 i23 p248 p252 p253 p254 (i255) (i256) (i257) (i258) ⟨k261, 0, none⟩ ⟨k265, 0, none⟩ h266 Q) ∧
 (∀ k269 : Nat, h251 k269 = none → B k269 = none → ∀ h270 : Heap, h270 = Heap.set h251 k269 (.vec 147 (zc [(.slice none 0 0)]) 1) →
 cellH B h270 (Addr.add A14 3) = some (.int .i64 (i18)) ∧ za B h270 ⟨k7, 0, none⟩ 0 [(.int .i64 (i20)), (.int .i64 (i21)), (.int .i64 (i22)), (.int .i64 (i23))] ∧
 ∀ k273 : Nat, h270 k273 = none → B k273 = none → ∀ h274 : Heap, h274 = Heap.set h270 k273 (.vec 144 (zc [(.slice none 0 0), (.slice none 0 0), (.slice none 0 0), (.slice none 0 0)]) 4) →
 cellH B h274 (Addr.add A14 3) = some (.int .i64 (i18)) ∧ za B h274 ⟨k7, 0, none⟩ 0 [(.int .i64 (i20)), (.int .i64 (i21)), (.int .i64 (i22)), (.int .i64 (i23))] ∧
 yw B k7 p10 A14 i18 i20 i21 i22 i23 p248 p252 p253 p254 (i255) (i256) (i257) (i258) ⟨k273, 0, none⟩ ⟨k269, 0, none⟩ h274 Q))) ∧
 (∀ k277 : Nat, h247 k277 = none → B k277 = none → ∀ h278 : Heap, h278 = Heap.set h247 k277 (.vec 144 (zc [(.slice none 0 0), (.slice none 0 0), (.slice none 0 0), (.slice none 0 0)]) 4) →
 cellH B h278 (Addr.add A14 3) = some (.int .i64 (i18)) ∧ za B h278 ⟨k7, 0, none⟩ 0 [(.int .i64 (i20)), (.int .i64 (i21)), (.int .i64 (i22)), (.int .i64 (i23))] ∧
 (y2 B (i20) (i21) (i22) (i23) h278 (fun p282 p283 p284 i285 i286 i287 i288 h281 =>
 cellH B h281 (Addr.add A14 3) = some (.int .i64 (i18)) ∧ za B h281 ⟨k7, 0, none⟩ 0 [(.int .i64 (i20)), (.int .i64 (i21)), (.int .i64 (i22)), (.int .i64 (i23))] ∧
 ∀ k291 : Nat, h281 k291 = none → B k291 = none → ∀ h292 : Heap, h292 = Heap.set h281 k291 (.vec 147 (zc [(.slice none 0 0)]) 1) →
 cellH B h292 (Addr.add A14 3) = some (.int .i64 (i18)) ∧ za B h292 ⟨k7, 0, none⟩ 0 [(.int .i64 (i20)), (.int .i64 (i21)), (.int .i64 (i22)), (.int .i64 (i23))] ∧
 yw B k7 p10 A14 i18 i20 i21 i22 i23 p248 p282 p283 p284 (i285) (i286) (i287) (i288) ⟨k277, 0, none⟩ ⟨k291, 0, none⟩ h292 Q)) ∧
 (∀ k295 : Nat, h278 k295 = none → B k295 = none → ∀ h296 : Heap, h296 = Heap.set h278 k295 (.vec 147 (zc [(.slice none 0 0)]) 1) →
 cellH B h296 (Addr.add A14 3) = some (.int .i64 (i18)) ∧ za B h296 ⟨k7, 0, none⟩ 0 [(.int .i64 (i20)), (.int .i64 (i21)), (.int .i64 (i22)), (.int .i64 (i23))] ∧
 y2 B (i20) (i21) (i22) (i23) h296 (fun p300 p301 p302 i303 i304 i305 i306 h299 =>
 cellH B h299 (Addr.add A14 3) = some (.int .i64 (i18)) ∧ za B h299 ⟨k7, 0, none⟩ 0 [(.int .i64 (i20)), (.int .i64 (i21)), (.int .i64 (i22)), (.int .i64 (i23))] ∧
 yw B k7 p10 A14 i18 i20 i21 i22 i23 p248 p300 p301 p302 (i303) (i304) (i305) (i306) ⟨k277, 0, none⟩ ⟨k295, 0, none⟩ h299 Q))) ∧
 (∀ k309 : Nat, h247 k309 = none → B k309 = none → ∀ h310 : Heap, h310 = Heap.set h247 k309 (.vec 147 (zc [(.slice none 0 0)]) 1) →
 cellH B h310 (Addr.add A14 3) = some (.int .i64 (i18)) ∧ za B h310 ⟨k7, 0, none⟩ 0 [(.int .i64 (i20)), (.int .i64 (i21)), (.int .i64 (i22)), (.int .i64 (i23))] ∧
 (y2 B (i20) (i21) (i22) (i23) h310 (fun p314 p315 p316 i317 i318 i319 i320 h313 =>
 cellH B h313 (Addr.add A14 3) = some (.int .i64 (i18)) ∧ za B h313 ⟨k7, 0, none⟩ 0 [(.int .i64 (i20)), (.int .i64 (i21)), (.int .i64 (i22)), (.int .i64 (i23))] ∧
 ∀ k323 : Nat, h313 k323 = none → B k323 = none → ∀ h324 : Heap, h324 = Heap.set h313 k323 (.vec 144 (zc [(.slice none 0 0), (.slice none 0 0), (.slice none 0 0), (.slice none 0 0)]) 4) →
 cellH B h324 (Addr.add A14 3) = some (.int .i64 (i18)) ∧ za B h324 ⟨k7, 0, none⟩ 0 [(.int .i64 (i20)), (.int .i64 (i21)), (.int .i64 (i22)), (.int .i64 (i23))] ∧
 yw B k7 p10 A14 i18 i20 i21 i22 i23 p248 p314 p315 p316 (i317) (i318) (i319) (i320) ⟨k323, 0, none⟩ ⟨k309, 0, none⟩ h324 Q)) ∧
 (∀ k327 : Nat, h310 k327 = none → B k327 = none → ∀ h328 : Heap, h328 = Heap.set h310 k327 (.vec 144 (zc [(.slice none 0 0), (.slice none 0 0), (.slice none 0 0), (.slice none 0 0)]) 4) →
 cellH B h328 (Addr.add A14 3) = some (.int .i64 (i18)) ∧ za B h328 ⟨k7, 0, none⟩ 0 [(.int .i64 (i20)), (.int .i64 (i21)), (.int .i64 (i22)), (.int .i64 (i23))] ∧
 y2 B (i20) (i21) (i22) (i23) h328 (fun p332 p333 p334 i335 i336 i337 i338 h331 =>
 cellH B h331 (Addr.add A14 3) = some (.int .i64 (i18)) ∧ za B h331 ⟨k7, 0, none⟩ 0 [(.int .i64 (i20)), (.int .i64 (i21)), (.int .i64 (i22)), (.int .i64 (i23))] ∧
 yw B k7 p10 A14 i18 i20 i21 i22 i23 p248 p332 p333 p334 (i335) (i336) (i337) (i338) ⟨k327, 0, none⟩ ⟨k309, 0, none⟩ h331 Q))))) ∧
 (∀ k341 : Nat, h11 k341 = none → B k341 = none → ∀ h342 : Heap, h342 = Heap.set h11 k341 (.vec 144 (zc [(.slice none 0 0), (.slice none 0 0), (.slice none 0 0), (.slice none 0 0)]) 4) →
 cellH B h342 (Addr.add A14 3) = some (.int .i64 (i18)) ∧ za B h342 ⟨k7, 0, none⟩ 0 [(.int .i64 (i20)), (.int .i64 (i21)), (.int .i64 (i22)), (.int .i64 (i23))] ∧
 (vy B (i18) h342 (fun p346 h345 =>
 cellH B h345 (Addr.add A14 3) = some (.int .i64 (i18)) ∧ za B h345 ⟨k7, 0, none⟩ 0 [(.int .i64 (i20)), (.int .i64 (i21)), (.int .i64 (i22)), (.int .i64 (i23))] ∧
 (y2 B (i20) (i21) (i22) (i23) h345 (fun p350 p351 p352 i353 i354 i355 i356 h349 =>
 cellH B h349 (Addr.add A14 3) = some (.int .i64 (i18)) ∧ za B h349 ⟨k7, 0, none⟩ 0 [(.int .i64 (i20)), (.int .i64 (i21)), (.int .i64 (i22)), (.int .i64 (i23))] ∧
 ∀ k359 : Nat, h349 k359 = none → B k359 = none → ∀ h360 : Heap, h360 = Heap.set h349 k359 (.vec 147 (zc [(.slice none 0 0)]) 1) →
 cellH B h360 (Addr.add A14 3) = some (.int .i64 (i18)) ∧ za B h360 ⟨k7, 0, none⟩ 0 [(.int .i64 (i20)), (.int .i64 (i21)), (.int .i64 (i22)), (.int .i64 (i23))] ∧
 yw B k7 p10 A14 i18 i20 i21 i22 i23 p346 p350 p351 p352 (i353) (i354) (i355) (i356) ⟨k341, 0, none⟩ ⟨k359, 0, none⟩ h360 Q)) ∧
 (∀ k363 : Nat, h345 k363 = none → B k363 = none → ∀ h364 : Heap, h364 = Heap.set h345 k363 (.vec 147 (zc [(.slice none 0 0)]) 1) →
 cellH B h364 (Addr.add A14 3) = some (.int .i64 (i18)) ∧ za B h364 ⟨k7, 0, none⟩ 0 [(.int .i64 (i20)), (.int .i64 (i21)), (.int .i64 (i22)), (.int .i64 (i23))] ∧
 y2 B (i20) (i21) (i22) (i23) h364 (fun p368 p369 p370 i371 i372 i373 i374 h367 =>
 cellH B h367 (Addr.add A14 3) = some (.int .i64 (i18)) ∧ za B h367 ⟨k7, 0, none⟩ 0 [(.int .i64 (i20)), (.int .i64 (i21)), (.int .i64 (i22)), (.int .i64 (i23))] ∧
 yw B k7 p10 A14 i18 i20 i21 i22 i23 p346 p368 p369 p370 (i371) (i372) (i373) (i374) ⟨k341, 0, none⟩ ⟨k363, 0, none⟩ h367 Q)))) ∧
 (∀ k377 : Nat, h342 k377 = none → B k377 = none → ∀ h378 : Heap, h378 = Heap.set h342 k377 (.vec 147 (zc [(.slice none 0 0)]) 1) →
 cellH B h378 (Addr.add A14 3) = some (.int .i64 (i18)) ∧ za B h378 ⟨k7, 0, none⟩ 0 [(.int .i64 (i20)), (.int .i64 (i21)), (.int .i64 (i22)), (.int .i64 (i23))] ∧
 vy B (i18) h378 (fun p382 h381 =>
 cellH B h381 (Addr.add A14 3) = some (.int .i64 (i18)) ∧ za B h381 ⟨k7, 0, none⟩ 0 [(.int .i64 (i20)), (.int .i64 (i21)), (.int .i64 (i22)), (.int .i64 (i23))] ∧
 y2 B (i20) (i21) (i22) (i23) h381 (fun p386 p387 p388 i389 i390 i391 i392 h385 =>
 cellH B h385 (Addr.add A14 3) = some (.int .i64 (i18)) ∧ za B h385 ⟨k7, 0, none⟩ 0 [(.int .i64 (i20)), (.int .i64 (i21)), (.int .i64 (i22)), (.int .i64 (i23))] ∧
 yw B k7 p10 A14 i18 i20 i21 i22 i23 p382 p386 p387 p388 (i389) (i390) (i391) (i392) ⟨k341, 0, none⟩ ⟨k377, 0, none⟩ h385 Q)))) ∧
 (∀ k395 : Nat, h11 k395 = none → B k395 = none → ∀ h396 : Heap, h396 = Heap.set h11 k395 (.vec 147 (zc [(.slice none 0 0)]) 1) →
 cellH B h396 (Addr.add A14 3) = some (.int .i64 (i18)) ∧ za B h396 ⟨k7, 0, none⟩ 0 [(.int .i64 (i20)), (.int .i64 (i21)), (.int .i64 (i22)), (.int .i64 (i23))] ∧
 (vy B (i18) h396 (fun p400 h399 =>
 cellH B h399 (Addr.add A14 3) = some (.int .i64 (i18)) ∧ za B h399 ⟨k7, 0, none⟩ 0 [(.int .i64 (i20)), (.int .i64 (i21)), (.int .i64 (i22)), (.int .i64 (i23))] ∧
 (y2 B (i20) (i21) (i22) (i23) h399 (fun p404 p405 p406 i407 i408 i409 i410 h403 =>
 cellH B h403 (Addr.add A14 3) = some (.int .i64 (i18)) ∧ za B h403 ⟨k7, 0, none⟩ 0 [(.int .i64 (i20)), (.int .i64 (i21)), (.int .i64 (i22)), (.int .i64 (i23))] ∧
 ∀ k413 : Nat, h403 k413 = none → B k413 = none → ∀ h414 : Heap, h414 = Heap.set h403 k413 (.vec 144 (zc [(.slice none 0 0), (.slice none 0 0), (.slice none 0 0), (.slice none 0 0)]) 4) →
 cellH B h414 (Addr.add A14 3) = some (.int .i64 (i18)) ∧ za B h414 ⟨k7, 0, none⟩ 0 [(.int .i64 (i20)), (.int .i64 (i21)), (.int .i64 (i22)), (.int .i64 (i23))] ∧
 yw B k7 p10 A14 i18 i20 i21 i22 i23 p400 p404 p405 p406 (i407) (i408) (i409) (i410) ⟨k413, 0, none⟩ ⟨k395, 0, none⟩ h414 Q)) ∧
 (∀ k417 : Nat, h399 k417 = none → B k417 = none → ∀ h418 : Heap, h418 = Heap.set h399 k417 (.vec 144 (zc [(.slice none 0 0), (.slice none 0 0), (.slice none 0 0), (.slice none 0 0)]) 4) →
 cellH B h418 (Addr.add A14 3) = some (.int .i64 (i18)) ∧ za B h418 ⟨k7, 0, none⟩ 0 [(.int .i64 (i20)), (.int .i64 (i21)), (.int .i64 (i22)), (.int .i64 (i23))] ∧
 y2 B (i20) (i21) (i22) (i23) h418 (fun p422 p423 p424 i425 i426 i427 i428 h421 =>
 cellH B h421 (Addr.add A14 3) = some (.int .i64 (i18)) ∧ za B h421 ⟨k7, 0, none⟩ 0 [(.int .i64 (i20)), (.int .i64 (i21)), (.int .i64 (i22)), (.int .i64 (i23))] ∧
 yw B k7 p10 A14 i18 i20 i21 i22 i23 p400 p422 p423 p424 (i425) (i426) (i427) (i428) ⟨k417, 0, none⟩ ⟨k395, 0, none⟩ h421 Q)))) ∧
 (∀ k431 : Nat, h396 k431 = none → B k431 = none → ∀ h432 : Heap, h432 = Heap.set h396 k431 (.vec 144 (zc [(.slice none 0 0), (.slice none 0 0), (.slice none 0 0), (.slice none 0 0)]) 4) →
 cellH B h432 (Addr.add A14 3) = some (.int .i64 (i18)) ∧ za B h432 ⟨k7, 0, none⟩ 0 [(.int .i64 (i20)), (.int .i64 (i21)), (.int .i64 (i22)), (.int .i64 (i23))] ∧
 vy B (i18) h432 (fun p436 h435 =>
 cellH B h435 (Addr.add A14 3) = some (.int .i64 (i18)) ∧ za B h435 ⟨k7, 0, none⟩ 0 [(.int .i64 (i20)), (.int .i64 (i21)), (.int .i64 (i22)), (.int .i64 (i23))] ∧
 y2 B (i20) (i21) (i22) (i23) h435 (fun p440 p441 p442 i443 i444 i445 i446 h439 =>
 cellH B h439 (Addr.add A14 3) = some (.int .i64 (i18)) ∧ za B h439 ⟨k7, 0, none⟩ 0 [(.int .i64 (i20)), (.int .i64 (i21)), (.int .i64 (i22)), (.int .i64 (i23))] ∧
 yw B k7 p10 A14 i18 i20 i21 i22 i23 p436 p440 p441 p442 (i443) (i444) (i445) (i446) ⟨k431, 0, none⟩ ⟨k395, 0, none⟩ h439 Q))))
def zbu (B : RO) (p1 : Option Addr) (i2 : Int) (i3 : Int) (i4 : Int) (i5 : Int) (h : Heap) (Q : Option Addr → Heap → Prop) : Prop :=
 ∀ k7 : Nat, h k7 = none → B k7 = none → ∀ h8 : Heap, h8 = Heap.set h k7 (.vec 26 (zc [(.int .i64 (i2)), (.int .i64 (i3)), (.int .i64 (i4)), (.int .i64 (i5))]) 4) →
 (p1 = none →
 wo B h8 (fun p451 h450 =>
 Fin B h450 (fun h' => Zv B k7 p451 h' Q))) ∧ (¬ (p1 = none) →
 Fin B h8 (fun h' => Zv B k7 p1 h' Q))
def Xx (B : RO) (p1 : Option Addr) (i2 : Int) (h : Heap) (Q : Heap → Prop) : Prop :=
 (p1 = none →
 Fin B h (Q)) ∧ (¬ (p1 = none) →
 ∃ A5 : Addr, p1 = some A5 ∧
 ∃ p9 : Option Addr, cellH B h (Addr.add A5 10) = some (.pointer p9) ∧
 ∃ A12 : Addr, p1 = some A12 ∧
 ∃ p16 : Option Addr, ∃ p17 : Option Addr, ∃ p18 : Option Addr, ∃ i19 : Int, ∃ i20 : Int, ∃ i21 : Int, ∃ i22 : Int, za B h (Addr.add A12 2) 0 [(.pointer p16), (.pointer p17), (.pointer p18), (.int .i64 (i19)), (.int .i64 (i20)), (.int .i64 (i21)), (.int .i64 (i22))] ∧
 ∃ A25 : Addr, p1 = some A25 ∧
 ∃ p29 : Option Addr, cellH B h (Addr.add A25 9) = some (.pointer p29) ∧
 zcB B p29 h (fun i33 i34 i35 i36 h32 =>
 cellH B h32 (Addr.add A5 10) = some (.pointer p9) ∧ za B h32 (Addr.add A12 2) 0 [(.pointer p16), (.pointer p17), (.pointer p18), (.int .i64 (i19)), (.int .i64 (i20)), (.int .i64 (i21)), (.int .i64 (i22))] ∧ cellH B h32 (Addr.add A25 9) = some (.pointer p29) ∧
 zcf B p9 p16 p17 p18 (i19) (i20) (i21) (i22) (i33) (i34) (i35) (i36) (i2) h32 (fun b41 h40 =>
 Fin B h40 (Q))))
def Xw (B : RO) (p1 : Option Addr) (h : Heap) (Q : Int → Option Addr → Nat → Nat → Bool → Heap → Prop) : Prop :=
 (p1 = none →
 Fin B h (Q (0) none 0 0 (false))) ∧ (¬ (p1 = none) →
 ∃ A8 : Addr, p1 = some A8 ∧
 ∃ p10 : Option Addr, cellH B h (Addr.add A8 10) = some (.pointer p10) ∧
 zcC B p10 h (fun p12 p13 p14 i15 i16 i17 i18 i19 i20 i21 i22 i23 b24 h11 =>
 (b24 = true →
 ∀ k28 : Nat, h11 k28 = none → B k28 = none → ∀ h29 : Heap, h29 = Heap.set h11 k28 (.vec 152 (zc [(.pointer none), (.pointer none), (.pointer none), (.int .i64 (0)), (.int .i64 (0)), (.int .i64 (0)), (.int .i64 (0)), (.int .i64 (0)), (.int .i64 (0)), (.int .i64 (0)), (.int .i64 (0)), (.int .i64 (0))]) 12) →
 ∃ h30 : Heap, zi ⟨k28, 0, none⟩ h29 0 [(.pointer p12), (.pointer p13), (.pointer p14), (.int .i64 (i15)), (.int .i64 (i16)), (.int .i64 (i17)), (.int .i64 (i18)), (.int .i64 (i19)), (.int .i64 (i20)), (.int .i64 (i21)), (.int .i64 (i22)), (.int .i64 (i23))] h30 ∧
 ∃ p31 : Option Addr, ∃ p32 : Option Addr, ∃ p33 : Option Addr, ∃ i34 : Int, ∃ i35 : Int, ∃ i36 : Int, ∃ i37 : Int, za B h30 ⟨k28, 0, none⟩ 0 [(.pointer p31), (.pointer p32), (.pointer p33), (.int .i64 (i34)), (.int .i64 (i35)), (.int .i64 (i36)), (.int .i64 (i37))] ∧
 ∃ A38 : Addr, p1 = some A38 ∧
 ∃ h40 : Heap, zi (Addr.add A38 2) h30 0 [(.pointer p31), (.pointer p32), (.pointer p33), (.int .i64 (i34)), (.int .i64 (i35)), (.int .i64 (i36)), (.int .i64 (i37))] h40 ∧
 ∃ i42 : Int, cellH B h40 ⟨k28, 11, none⟩ = some (.int .i64 (i42)) ∧
 ∃ A45 : Addr, p1 = some A45 ∧
 ∃ p49 : Option Addr, cellH B h40 (Addr.add A45 9) = some (.pointer p49) ∧
 ∃ i52 : Int, ∃ i53 : Int, ∃ i54 : Int, ∃ i55 : Int, za B h40 ⟨k28, 7, none⟩ 0 [(.int .i64 (i52)), (.int .i64 (i53)), (.int .i64 (i54)), (.int .i64 (i55))] ∧
 zcA B p49 (i52) (i53) (i54) (i55) h40 (fun a58 n59 c60 h57 =>
 cellH B h57 ⟨k28, 11, none⟩ = some (.int .i64 (i42)) ∧ cellH B h57 (Addr.add A45 9) = some (.pointer p49) ∧ za B h57 ⟨k28, 7, none⟩ 0 [(.int .i64 (i52)), (.int .i64 (i53)), (.int .i64 (i54)), (.int .i64 (i55))] ∧
 Fin B h57 (Q (i42) a58 n59 c60 (true)))) ∧ (b24 = false →
 ∀ k25 : Nat, h11 k25 = none → B k25 = none → ∀ h26 : Heap, h26 = Heap.set h11 k25 (.vec 152 (zc [(.pointer none), (.pointer none), (.pointer none), (.int .i64 (0)), (.int .i64 (0)), (.int .i64 (0)), (.int .i64 (0)), (.int .i64 (0)), (.int .i64 (0)), (.int .i64 (0)), (.int .i64 (0)), (.int .i64 (0))]) 12) →
 ∃ h27 : Heap, zi ⟨k25, 0, none⟩ h26 0 [(.pointer p12), (.pointer p13), (.pointer p14), (.int .i64 (i15)), (.int .i64 (i16)), (.int .i64 (i17)), (.int .i64 (i18)), (.int .i64 (i19)), (.int .i64 (i20)), (.int .i64 (i21)), (.int .i64 (i22)), (.int .i64 (i23))] h27 ∧
 Fin B h27 (Q (0) none 0 0 (false)))))
def wB (B : RO) (k6 : Nat) (h12 : Heap) (Q : Bool → Heap → Prop) : Prop :=
 ∃ i13 : Int, cellH B h12 ⟨k6, 0, none⟩ = some (.int .i64 (i13)) ∧
 ((i13 : Int) = 6 →
 ∃ i14 : Int, cellH B h12 ⟨k6, 2, none⟩ = some (.int .i64 (i14)) ∧
 ((i14 : Int) ≥ (0) →
 ∃ i15 : Int, cellH B h12 ⟨k6, 2, none⟩ = some (.int .i64 (i15)) ∧
 Fin B h12 (Q ((decide ((i15 : Int) ≤ (5)))))) ∧ (¬ ((i14 : Int) ≥ (0)) →
 Fin B h12 (Q (false)))) ∧ (¬ ((i13 : Int) = 6) →
 Fin B h12 (Q (true)))
def Xn (B : RO) (i1 : Int) (i2 : Int) (i3 : Int) (i4 : Int) (h : Heap) (Q : Bool → Heap → Prop) : Prop :=
 ∀ k6 : Nat, h k6 = none → B k6 = none → ∀ h7 : Heap, h7 = Heap.set h k6 (.vec 38 (zc [(.int .i64 (i1)), (.int .i64 (i2)), (.int .i64 (i3)), (.int .u8 (i4))]) 4) →
 ∀ k8 : Nat, h7 k8 = none → B k8 = none → ∀ h9 : Heap, h9 = Heap.set h7 k8 (.vec 156 (zc [(.int .i64 (0)), (.int .i64 (0)), (.int .i64 (0)), (.int .i64 (0)), (.int .i64 (0)), (.int .i64 (0)), (.int .i64 (0)), (.int .i64 (0)), (.int .i64 (0))]) 9) →
 ∃ h10 : Heap, zi ⟨k8, 0, none⟩ h9 0 [(.int .i64 (7)), (.int .i64 (7)), (.int .i64 (5)), (.int .i64 (5)), (.int .i64 (5)), (.int .i64 (5)), (.int .i64 (5)), (.int .i64 (5)), (.int .i64 (2))] h10 ∧
 ∃ i16 : Int, cellH B h10 ⟨k6, 0, none⟩ = some (.int .i64 (i16)) ∧
 ((i16 : Int) < (0) →
 Fin B h10 (Q (false))) ∧ (¬ ((i16 : Int) < (0)) →
 ∃ i18 : Int, cellH B h10 ⟨k6, 0, none⟩ = some (.int .i64 (i18)) ∧
 ((i18 : Int) > (8) →
 Fin B h10 (Q (false))) ∧ (¬ ((i18 : Int) > (8)) →
 ∃ i20 : Int, cellH B h10 ⟨k6, 1, none⟩ = some (.int .i64 (i20)) ∧
 ((i20 : Int) < (0) →
 Fin B h10 (Q (false))) ∧ (¬ ((i20 : Int) < (0)) →
 ∃ i22 : Int, cellH B h10 ⟨k6, 1, none⟩ = some (.int .i64 (i22)) ∧
 ∃ i23 : Int, cellH B h10 ⟨k6, 0, none⟩ = some (.int .i64 (i23)) ∧
 0 ≤ (i23 : Int) ∧ (i23 : Int) < (9 : Nat) ∧
 ∃ i24 : Int, cellH B h10 (Addr.add ⟨k8, 0, none⟩ (Int.toNat (i23) * 1)) = some (.int .i64 (i24)) ∧
 ((i22 : Int) > (i24) →
 Fin B h10 (Q (false))) ∧ (¬ ((i22 : Int) > (i24)) →
 Fin B h10 (fun h' => wB B k6 h' Q)))))
def Va (B : RO) (p1 : Option Addr) (h : Heap) (Q : Int → Heap → Prop) : Prop :=
 (p1 = none →
 Fin B h (Q (0))) ∧ (¬ (p1 = none) →
 ∃ A4 : Addr, p1 = some A4 ∧
 ∃ i6 : Int, cellH B h (Addr.add A4 1) = some (.int .i64 (i6)) ∧
 Fin B h (Q (i6)))
def YQ (B : RO) (p1 : Option Addr) (i2 : Int) (i3 : Int) (i4 : Int) (i5 : Int) (h : Heap) (Q : Heap → Prop) : Prop :=
 ∀ k6 : Nat, h k6 = none → B k6 = none → ∀ h7 : Heap, h7 = Heap.set h k6 (.vec 26 (zc [(.int .i64 (i2)), (.int .i64 (i3)), (.int .i64 (i4)), (.int .i64 (i5))]) 4) →
 (p1 = none →
 Fin B h7 (Q)) ∧ (¬ (p1 = none) →
 ∃ i9 : Int, ∃ i10 : Int, ∃ i11 : Int, ∃ i12 : Int, za B h7 ⟨k6, 0, none⟩ 0 [(.int .i64 (i9)), (.int .i64 (i10)), (.int .i64 (i11)), (.int .i64 (i12))] ∧
 ∃ A13 : Addr, p1 = some A13 ∧
 ∃ h15 : Heap, zi (Addr.add (Addr.add A13 2) 3) h7 0 [(.int .i64 (i9)), (.int .i64 (i10)), (.int .i64 (i11)), (.int .i64 (i12))] h15 ∧
 Fin B h15 (Q))
def Xz (B : RO) (p1 : Option Addr) (h : Heap) (Q : Heap → Prop) : Prop :=
 (p1 = none →
 Fin B h (Q)) ∧ (¬ (p1 = none) →
 ∃ A3 : Addr, p1 = some A3 ∧
 ∃ p5 : Option Addr, cellH B h (Addr.add A3 10) = some (.pointer p5) ∧
 zbz B p5 h (fun h6 =>
 Fin B h6 (Q)))
def YU (B : RO) (p1 : Option Addr) (h : Heap) (Q : Int → Int → Heap → Prop) : Prop :=
 (p1 = none →
 Fin B h (Q (0) (0))) ∧ (¬ (p1 = none) →
 ∃ A6 : Addr, p1 = some A6 ∧
 ∃ p11 : Option Addr, cellH B h (Addr.add A6 2) = some (.pointer p11) ∧
 ∃ A14 : Addr, p1 = some A14 ∧
 ∃ p19 : Option Addr, cellH B h (Addr.add (Addr.add A14 2) 1) = some (.pointer p19) ∧
 zaA B p11 h (fun i22 h21 =>
 cellH B h21 (Addr.add A6 2) = some (.pointer p11) ∧ cellH B h21 (Addr.add (Addr.add A14 2) 1) = some (.pointer p19) ∧
 wu B p19 h21 (fun p26 h25 =>
 cellH B h25 (Addr.add A6 2) = some (.pointer p11) ∧ cellH B h25 (Addr.add (Addr.add A14 2) 1) = some (.pointer p19) ∧
 WN B p26 h25 (fun i30 h29 =>
 cellH B h29 (Addr.add A6 2) = some (.pointer p11) ∧ cellH B h29 (Addr.add (Addr.add A14 2) 1) = some (.pointer p19) ∧
 Fin B h29 (Q (i22) (i30))))))
def Xv (B : RO) (p1 : Option Addr) (h : Heap) (Q : Option Addr → Heap → Prop) : Prop :=
 (p1 = none →
 Fin B h (Q none)) ∧ (¬ (p1 = none) →
 ∃ A4 : Addr, p1 = some A4 ∧
 ∃ p6 : Option Addr, cellH B h (Addr.add A4 9) = some (.pointer p6) ∧
 Fin B h (Q p6))
def Xy (B : RO) (p1 : Option Addr) (h : Heap) (Q : Int → Int → Int → Int → Heap → Prop) : Prop :=
 ∀ k6 : Nat, h k6 = none → B k6 = none → ∀ h7 : Heap, h7 = Heap.set h k6 (.vec 26 (zc [(.int .i64 (0)), (.int .i64 (0)), (.int .i64 (0)), (.int .i64 (0))]) 4) →
 (p1 = none →
 ∃ h9 : Heap, zi ⟨k6, 0, none⟩ h7 0 [(.int .i64 (0)), (.int .i64 (0)), (.int .i64 (0)), (.int .i64 (0))] h9 ∧
 ∃ i10 : Int, ∃ i11 : Int, ∃ i12 : Int, ∃ i13 : Int, za B h9 ⟨k6, 0, none⟩ 0 [(.int .i64 (i10)), (.int .i64 (i11)), (.int .i64 (i12)), (.int .i64 (i13))] ∧ Fin B h9 (Q (i10) (i11) (i12) (i13))) ∧ (¬ (p1 = none) →
 ∃ A14 : Addr, p1 = some A14 ∧
 ∃ i16 : Int, ∃ i17 : Int, ∃ i18 : Int, ∃ i19 : Int, za B h7 (Addr.add (Addr.add A14 2) 3) 0 [(.int .i64 (i16)), (.int .i64 (i17)), (.int .i64 (i18)), (.int .i64 (i19))] ∧
 ∃ h20 : Heap, zi ⟨k6, 0, none⟩ h7 0 [(.int .i64 (i16)), (.int .i64 (i17)), (.int .i64 (i18)), (.int .i64 (i19))] h20 ∧
 ∃ i21 : Int, ∃ i22 : Int, ∃ i23 : Int, ∃ i24 : Int, za B h20 ⟨k6, 0, none⟩ 0 [(.int .i64 (i21)), (.int .i64 (i22)), (.int .i64 (i23)), (.int .i64 (i24))] ∧ Fin B h20 (Q (i21) (i22) (i23) (i24)))
def Xl (B : RO) (p1 : Option Addr) (h : Heap) (Q : Option Addr → Option Addr → Option Addr → Int → Int → Int → Int → Heap → Prop) : Prop :=
 ∀ k9 : Nat, h k9 = none → B k9 = none → ∀ h10 : Heap, h10 = Heap.set h k9 (.vec 95 (zc [(.pointer none), (.pointer none), (.pointer none), (.int .i64 (0)), (.int .i64 (0)), (.int .i64 (0)), (.int .i64 (0))]) 7) →
 (p1 = none →
 ∃ h12 : Heap, zi ⟨k9, 0, none⟩ h10 0 [(.pointer none), (.pointer none), (.pointer none), (.int .i64 (0)), (.int .i64 (0)), (.int .i64 (0)), (.int .i64 (0))] h12 ∧
 ∃ p13 : Option Addr, ∃ p14 : Option Addr, ∃ p15 : Option Addr, ∃ i16 : Int, ∃ i17 : Int, ∃ i18 : Int, ∃ i19 : Int, za B h12 ⟨k9, 0, none⟩ 0 [(.pointer p13), (.pointer p14), (.pointer p15), (.int .i64 (i16)), (.int .i64 (i17)), (.int .i64 (i18)), (.int .i64 (i19))] ∧ Fin B h12 (Q p13 p14 p15 (i16) (i17) (i18) (i19))) ∧ (¬ (p1 = none) →
 ∃ A20 : Addr, p1 = some A20 ∧
 ∃ p22 : Option Addr, ∃ p23 : Option Addr, ∃ p24 : Option Addr, ∃ i25 : Int, ∃ i26 : Int, ∃ i27 : Int, ∃ i28 : Int, za B h10 (Addr.add A20 2) 0 [(.pointer p22), (.pointer p23), (.pointer p24), (.int .i64 (i25)), (.int .i64 (i26)), (.int .i64 (i27)), (.int .i64 (i28))] ∧
 ∃ h29 : Heap, zi ⟨k9, 0, none⟩ h10 0 [(.pointer p22), (.pointer p23), (.pointer p24), (.int .i64 (i25)), (.int .i64 (i26)), (.int .i64 (i27)), (.int .i64 (i28))] h29 ∧
 ∃ p30 : Option Addr, ∃ p31 : Option Addr, ∃ p32 : Option Addr, ∃ i33 : Int, ∃ i34 : Int, ∃ i35 : Int, ∃ i36 : Int, za B h29 ⟨k9, 0, none⟩ 0 [(.pointer p30), (.pointer p31), (.pointer p32), (.int .i64 (i33)), (.int .i64 (i34)), (.int .i64 (i35)), (.int .i64 (i36))] ∧ Fin B h29 (Q p30 p31 p32 (i33) (i34) (i35) (i36)))
def XT (B : RO) (p1 : Option Addr) (i2 : Int) (h : Heap) (Q : Int → Bool → Heap → Prop) : Prop :=
 (p1 = none →
 Fin B h (Q (0) (false))) ∧ (¬ (p1 = none) →
 xX B p1 (i2) h (fun i7 b8 h6 =>
 (b8 = true →
 ∃ A9 : Addr, p1 = some A9 ∧
 LdSl B h6 A9 fun a11 n12 c13 h14 =>
 ∃ A15 : Addr, a11 = some A15 ∧ 0 ≤ (i7 : Int) ∧ (i7 : Int) < (n12 : Nat) ∧
 ∃ i17 : Int, cellH B h14 (Addr.add (Addr.add A15 (Int.toNat (i7) * 2)) 1) = some (.int .i64 (i17)) ∧
 Fin B h14 (Q (i17) (true))) ∧ (b8 = false →
 Fin B h6 (Q (0) (false)))))
def XA (B : RO) (p1 : Option Addr) (i2 : Int) (i3 : Int) (h : Heap) (Q : Int → Heap → Prop) : Prop :=
 ∃ A6 : Addr, p1 = some A6 ∧
 ∃ p10 : Option Addr, cellH B h (Addr.add A6 1) = some (.pointer p10) ∧
 ∃ A13 : Addr, p1 = some A13 ∧
 ∃ p17 : Option Addr, cellH B h A13 = some (.pointer p17) ∧
 xF B p17 h (fun l22 h21 =>
 cellH B h21 (Addr.add A6 1) = some (.pointer p10) ∧ cellH B h21 A13 = some (.pointer p17) ∧
 Zp B p10 l22 (i2) (i3) h21 (fun b26 h25 =>
 (b26 = true →
 cellH B h25 (Addr.add A6 1) = some (.pointer p10) ∧ cellH B h25 A13 = some (.pointer p17) ∧
 Fin B h25 (Q (0))) ∧ (b26 = false →
 cellH B h25 (Addr.add A6 1) = some (.pointer p10) ∧ cellH B h25 A13 = some (.pointer p17) ∧
 Fin B h25 (Q (9)))))
def WP (B : RO) (p1 : Option Addr) (i2 : Int) (h : Heap) (Q : Int → Int → Heap → Prop) : Prop :=
 xY B p1 (i2) h (fun b6 h5 =>
 (b6 = true →
 ∃ A7 : Addr, p1 = some A7 ∧
 ∃ a9 : Option Addr, ∃ n10 : Nat, ∃ c11 : Nat, cellH B h5 A7 = some (.slice a9 n10 c11) ∧
 ∃ A12 : Addr, a9 = some A12 ∧ 0 ≤ (i2 : Int) ∧ (i2 : Int) < (n10 : Nat) ∧
 ∃ i14 : Int, cellH B h5 (Addr.add A12 (Int.toNat (i2) * 2)) = some (.int .i64 (i14)) ∧
 ∃ A15 : Addr, p1 = some A15 ∧
 ∃ a17 : Option Addr, ∃ n18 : Nat, ∃ c19 : Nat, cellH B h5 A15 = some (.slice a17 n18 c19) ∧
 ∃ A20 : Addr, a17 = some A20 ∧ 0 ≤ (i2 : Int) ∧ (i2 : Int) < (n18 : Nat) ∧
 ∃ i22 : Int, cellH B h5 (Addr.add (Addr.add A20 (Int.toNat (i2) * 2)) 1) = some (.int .i64 (i22)) ∧
 Fin B h5 (Q (i14) (i22))) ∧ (b6 = false →
 Fin B h5 (Q (0) (0))))
def Vb (B : RO) (p1 : Option Addr) (l2 : List Value) (h : Heap) (Q : Bool → Heap → Prop) : Prop :=
 ∀ k4 : Nat, h k4 = none → B k4 = none → ∀ h5 : Heap, h5 = Heap.set h k4 (.vec 65 (zc l2) (List.length l2)) →
 (p1 = none →
 Fin B h5 (Q (true))) ∧ (¬ (p1 = none) →
 ∃ A7 : Addr, p1 = some A7 ∧
 LdSl B h5 A7 fun a9 n10 c11 h12 =>
 ∃ (J18 : Int → Nat → Heap → Prop) (m16 : Nat), Fin B h12 (J18 (0) m16) ∧
 ∀ (i13 : Int) (m15 : Nat) (h14 : Heap), J18 i13 m15 h14 →
 ((i13 : Int) < ((n10 : Nat)) →
 ∃ A19 : Addr, a9 = some A19 ∧ 0 ≤ (i13 : Int) ∧ (i13 : Int) < (n10 : Nat) ∧
 ∃ i21 : Int, ∃ i22 : Int, ∃ i23 : Int, za B h14 (Addr.add A19 (Int.toNat (i13) * 3)) 0 [(.int .i64 (i21)), (.int .i64 (i22)), (.int .i64 (i23))] ∧
 ∀ k24 : Nat, h14 k24 = none → B k24 = none → ∀ h25 : Heap, h25 = Heap.set h14 k24 (.vec 174 (zc [(.int .i64 (0)), (.int .i64 (0)), (.int .i64 (0))]) 3) →
 ∃ h26 : Heap, zi ⟨k24, 0, none⟩ h25 0 [(.int .i64 (i21)), (.int .i64 (i22)), (.int .i64 (i23))] h26 ∧
 ∃ l27 : List Value, List.length l27 = 25 ∧ za B h26 ⟨k4, 0, none⟩ 0 l27 ∧
 ∃ i30 : Int, cellH B h26 ⟨k24, 0, none⟩ = some (.int .i64 (i30)) ∧
 ∃ i33 : Int, cellH B h26 ⟨k24, 1, none⟩ = some (.int .i64 (i33)) ∧
 ∃ i36 : Int, cellH B h26 ⟨k24, 2, none⟩ = some (.int .i64 (i36)) ∧
 Zk B l27 (i30) (i33) h26 (fun i39 h38 =>
 za B h38 ⟨k4, 0, none⟩ 0 l27 ∧ cellH B h38 ⟨k24, 0, none⟩ = some (.int .i64 (i30)) ∧ cellH B h38 ⟨k24, 1, none⟩ = some (.int .i64 (i33)) ∧ cellH B h38 ⟨k24, 2, none⟩ = some (.int .i64 (i36)) ∧
 ((i39 : Int) = i36 →
 Fin B h38 (fun h' => ∃ m', m' < m15 ∧ J18 (IntKind.wrap .i64 ((i13) + (1))) m' h')) ∧ (¬ ((i39 : Int) = i36) →
 Fin B h38 (Q (false))))) ∧ (¬ ((i13 : Int) < ((n10 : Nat))) →
 Fin B h14 (Q (true))))
def XS (B : RO) (p1 : Option Addr) (h : Heap) (Q : Value → Heap → Prop) : Prop :=
 ∀ k3 : Nat, h k3 = none → B k3 = none → ∀ h4 : Heap, h4 = Heap.set h k3 (.vec 91 [.plain (.pointer p1)] 1) →
 Fin B h4 (Q (Value.func (.func 85) #[] #[(.pointer (some ⟨k3, 0, none⟩))]))
def WQ (B : RO) (p1 : Option Addr) (i2 : Int) (i3 : Int) (i4 : Int) (h : Heap) (Q : Bool → Heap → Prop) : Prop :=
 xY B p1 (i2) h (fun b7 h6 =>
 (b7 = true →
 ∃ A8 : Addr, p1 = some A8 ∧
 LdSl B h6 A8 fun a10 n11 c12 h13 =>
 ∃ A14 : Addr, a10 = some A14 ∧ 0 ≤ (i2 : Int) ∧ (i2 : Int) < (n11 : Nat) ∧
 ∃ h16 : Heap, zi (Addr.add A14 (Int.toNat (i2) * 2)) h13 0 [(.int .i64 (i3)), (.int .i64 (i4))] h16 ∧
 Fin B h16 (Q (true))) ∧ (b7 = false →
 Fin B h6 (Q (false))))
def WT (B : RO) (p1 : Option Addr) (p2 : Option Addr) (i3 : Int) (h : Heap) (Q : Int → Heap → Prop) : Prop :=
 ∀ k5 : Nat, h k5 = none → B k5 = none → ∀ h6 : Heap, h6 = Heap.set h k5 (.vec 40 [.plain (.pointer p2)] 1) →
 ∀ k7 : Nat, h6 k7 = none → B k7 = none → ∀ h8 : Heap, h8 = Heap.set h6 k7 (.vec 3 [.plain (.int .i64 (i3))] 1) →
 ∀ k9 : Nat, h8 k9 = none → B k9 = none → ∀ h10 : Heap, h10 = Heap.set h8 k9 (.vec 3 (zc [(.int .i64 (0))]) 1) →
 ∃ h11 : Heap, ym h10 ⟨k9, 0, none⟩ (.int .i64 (0)) = some h11 ∧
 wu B p1 h11 (fun p13 h12 =>
 xG B p13 h12 (fun v15 h14 =>
 ∃ (xs23 : List (Int × Bool × ByteArray)) (G19 : Heap → Prop) (J22 : Nat → Heap → Prop), Iter PG B v15 (xs23.map (fun x : Int × Bool × ByteArray => [(.int .i64 (x.1)), (.agg #[(.bool x.2.1), (.string x.2.2)])])) G19 ∧ Ins G19 ∧ (∀ i h, J22 i h → G19 h) ∧ Fin B h14 (J22 0) ∧
 (∀ (q21 : Nat) (h20 : Heap) (i16 : Int) (b17 : Bool) (s18 : ByteArray), xs23[q21]? = some (i16, b17, s18) → J22 q21 h20 →
 ∀ k24 : Nat, h20 k24 = none → B k24 = none → ∀ h25 : Heap, h25 = Heap.set h20 k24 (.vec 119 (zc [(.bool false), (.string ByteArray.empty)]) 2) →
 ∃ h26 : Heap, zi ⟨k24, 0, none⟩ h25 0 [(.bool b17), (.string s18)] h26 ∧
 ∃ p27 : Option Addr, cellH B h26 ⟨k5, 0, none⟩ = some (.pointer p27) ∧
 ∃ b28 : Bool, ∃ s29 : ByteArray, za B h26 ⟨k24, 0, none⟩ 0 [(.bool b28), (.string s29)] ∧
 ∃ i30 : Int, cellH B h26 ⟨k7, 0, none⟩ = some (.int .i64 (i30)) ∧
 ZR B p27 (i16) (b28) s29 (i30) h26 (fun b32 h31 =>
 (b32 = true →
 ∃ i33 : Int, cellH B h31 ⟨k9, 0, none⟩ = some (.int .i64 (i33)) ∧
 ∃ h34 : Heap, ym h31 ⟨k9, 0, none⟩ (.int .i64 (IntKind.wrap .i64 ((i33) + (1)))) = some h34 ∧
 Fin B h34 (J22 (q21 + 1))) ∧ (b32 = false →
 Fin B h31 (J22 (q21 + 1))))) ∧
 (∀ (h20 : Heap), J22 xs23.length h20 →
 ∃ i35 : Int, cellH B h20 ⟨k9, 0, none⟩ = some (.int .i64 (i35)) ∧
 Fin B h20 (Q (i35)))))
def ZN (B : RO) (p1 : Option Addr) (i2 : Int) (h5 : Heap) (Q : Int → Heap → Prop) : Prop :=
 ∃ A6 : Addr, p1 = some A6 ∧
 0 ≤ (i2 : Int) ∧ (i2 : Int) < (3 : Nat) ∧
 ∃ i8 : Int, cellH B h5 (Addr.add A6 (Int.toNat (i2) * 1)) = some (.int .i64 (i8)) ∧
 Fin B h5 (Q (i8))
def Wc (B : RO) (p1 : Option Addr) (i2 : Int) (h : Heap) (Q : Int → Heap → Prop) : Prop :=
 (p1 = none →
 Fin B h (Q (0))) ∧ (¬ (p1 = none) →
 Z4 B (i2) h (fun b11 h10 =>
 (b11 = true →
 Fin B h10 (fun h' => ZN B p1 i2 h' Q)) ∧ (b11 = false →
 Fin B h10 (Q (0)))))
def W9 (B : RO) (p1 : Option Addr) (i2 : Int) (h : Heap) (Q : Int → Int → Heap → Prop) : Prop :=
 (p1 = none →
 Fin B h (Q (0) (0))) ∧ (¬ (p1 = none) →
 ∃ A6 : Addr, p1 = some A6 ∧
 ∃ p8 : Option Addr, cellH B h (Addr.add A6 3) = some (.pointer p8) ∧
 xg B p8 (i2) h (fun i10 i11 h9 =>
 Fin B h9 (Q (i10) (i11))))
def YP (B : RO) (p1 : Option Addr) (i2 : Int) (i3 : Int) (i4 : Int) (h10 : Heap) (Q : Bool → Heap → Prop) : Prop :=
 ∃ A11 : Addr, p1 = some A11 ∧
 ∃ p13 : Option Addr, cellH B h10 (Addr.add A11 3) = some (.pointer p13) ∧
 wE B p13 (i2) (i3) (i4) h10 (fun b15 h14 =>
 Fin B h14 (Q (b15)))
def VH (B : RO) (p1 : Option Addr) (i2 : Int) (i3 : Int) (i4 : Int) (h : Heap) (Q : Bool → Heap → Prop) : Prop :=
 xn B p1 (i2) h (fun i7 i8 h6 =>
 wI B p1 (i2) h6 (fun b17 h16 =>
 (b17 = true →
 ((i3 : Int) < (i7) →
 Fin B h16 (Q (false))) ∧ (¬ ((i3 : Int) < (i7)) →
 ∃ A18 : Addr, p1 = some A18 ∧
 0 ≤ (i2 : Int) ∧ (i2 : Int) < (3 : Nat) ∧
 ∃ s20 : ByteArray, cellH B h16 (Addr.add A18 (Int.toNat (i2) * 1)) = some (.string s20) ∧
 ((i3 : Int) > ((ByteArray.size s20 : Nat)) →
 Fin B h16 (Q (false))) ∧ (¬ ((i3 : Int) > ((ByteArray.size s20 : Nat))) →
 Fin B h16 (fun h' => YP B p1 i2 i3 i4 h' Q)))) ∧ (b17 = false →
 Fin B h16 (Q (false)))))
def V4 (B : RO) (p1 : Option Addr) (i2 : Int) (h : Heap) (Q : Bool → ByteArray → Int → Heap → Prop) : Prop :=
 ∀ k6 : Nat, h k6 = none → B k6 = none → ∀ h7 : Heap, h7 = Heap.set h k6 (.vec 119 (zc [(.bool false), (.string ByteArray.empty)]) 2) →
 (p1 = none →
 ∃ h9 : Heap, zi ⟨k6, 0, none⟩ h7 0 [(.bool false), (.string ByteArray.empty)] h9 ∧
 ∃ b10 : Bool, ∃ s11 : ByteArray, za B h9 ⟨k6, 0, none⟩ 0 [(.bool b10), (.string s11)] ∧ Fin B h9 (Q (b10) s11 (0))) ∧ (¬ (p1 = none) →
 ∃ A12 : Addr, p1 = some A12 ∧
 ∃ p14 : Option Addr, cellH B h7 A12 = some (.pointer p14) ∧
 wa B p14 (i2) h7 (fun b16 s17 i18 h15 =>
 ∃ h19 : Heap, zi ⟨k6, 0, none⟩ h15 0 [(.bool b16), (.string s17)] h19 ∧
 ∃ b20 : Bool, ∃ s21 : ByteArray, za B h19 ⟨k6, 0, none⟩ 0 [(.bool b20), (.string s21)] ∧ Fin B h19 (Q (b20) s21 (i18))))
def VJ (B : RO) (p1 : Option Addr) (i2 : Int) (h : Heap) (Q : ByteArray → Heap → Prop) : Prop :=
 wI B p1 (i2) h (fun b5 h4 =>
 (b5 = true →
 ∃ A6 : Addr, p1 = some A6 ∧
 0 ≤ (i2 : Int) ∧ (i2 : Int) < (3 : Nat) ∧
 ∃ s8 : ByteArray, cellH B h4 (Addr.add A6 (Int.toNat (i2) * 1)) = some (.string s8) ∧
 Fin B h4 (Q s8)) ∧ (b5 = false →
 Fin B h4 (Q (ByteArray.mk #[]))))
def Z8 (B : RO) (p1 : Option Addr) (i2 : Int) (i3 : Int) (h : Heap) (Q : Int → Int → Heap → Prop) : Prop :=
 z9 B p1 (i2) h (fun b7 s8 i9 h6 =>
 ∀ k10 : Nat, h6 k10 = none → B k10 = none → ∀ h11 : Heap, h11 = Heap.set h6 k10 (.vec 119 (zc [(.bool false), (.string ByteArray.empty)]) 2) →
 ∃ h12 : Heap, zi ⟨k10, 0, none⟩ h11 0 [(.bool b7), (.string s8)] h12 ∧
 ((i9 : Int) = 0 →
 ∃ b13 : Bool, ∃ s14 : ByteArray, za B h12 ⟨k10, 0, none⟩ 0 [(.bool b13), (.string s14)] ∧
 WO B (b13) s14 (i3) h12 (fun i16 h15 =>
 Fin B h15 (Q (i16) (0)))) ∧ (¬ ((i9 : Int) = 0) →
 Fin B h12 (Q (0) (i9))))
def ZK (B : RO) (p1 : Option Addr) (i2 : Int) (i3 : Int) (i4 : Int) (h : Heap) (Q : Int → Heap → Prop) : Prop :=
 z9 B p1 (i2) h (fun b7 s8 i9 h6 =>
 ∀ k10 : Nat, h6 k10 = none → B k10 = none → ∀ h11 : Heap, h11 = Heap.set h6 k10 (.vec 119 (zc [(.bool false), (.string ByteArray.empty)]) 2) →
 ∃ h12 : Heap, zi ⟨k10, 0, none⟩ h11 0 [(.bool b7), (.string s8)] h12 ∧
 ((i9 : Int) = 0 →
 ∃ A13 : Addr, p1 = some A13 ∧
 ∃ p15 : Option Addr, cellH B h12 (Addr.add (Addr.add A13 2) 1) = some (.pointer p15) ∧
 ∃ A16 : Addr, p1 = some A16 ∧
 ∃ p18 : Option Addr, cellH B h12 A16 = some (.pointer p18) ∧
 ∃ A19 : Addr, p18 = some A19 ∧
 ∃ p21 : Option Addr, cellH B h12 (Addr.add A19 1) = some (.pointer p21) ∧
 vi B p15 p21 (i2) (i3) (i4) h12 (fun b23 h22 =>
 Fin B h22 (Q (i9)))) ∧ (¬ ((i9 : Int) = 0) →
 Fin B h12 (Q (i9))))
def Zs (B : RO) (p1 : Option Addr) (i2 : Int) (h : Heap) (Q : Int → Heap → Prop) : Prop :=
 z9 B p1 (i2) h (fun b5 s6 i7 h4 =>
 ∀ k8 : Nat, h4 k8 = none → B k8 = none → ∀ h9 : Heap, h9 = Heap.set h4 k8 (.vec 119 (zc [(.bool false), (.string ByteArray.empty)]) 2) →
 ∃ h10 : Heap, zi ⟨k8, 0, none⟩ h9 0 [(.bool b5), (.string s6)] h10 ∧
 ((i7 : Int) = 0 →
 ∃ A11 : Addr, p1 = some A11 ∧
 ∃ p13 : Option Addr, cellH B h10 (Addr.add (Addr.add A11 2) 1) = some (.pointer p13) ∧
 ∃ A14 : Addr, p1 = some A14 ∧
 ∃ p16 : Option Addr, cellH B h10 A14 = some (.pointer p16) ∧
 ∃ A17 : Addr, p16 = some A17 ∧
 ∃ p19 : Option Addr, cellH B h10 (Addr.add A17 1) = some (.pointer p19) ∧
 wR B p13 p19 (i2) h10 (fun b21 h20 =>
 Fin B h20 (Q (i7)))) ∧ (¬ ((i7 : Int) = 0) →
 Fin B h10 (Q (i7))))
def Zt (B : RO) (p1 : Option Addr) (i2 : Int) (h : Heap) (Q : Int → Heap → Prop) : Prop :=
 z9 B p1 (i2) h (fun b5 s6 i7 h4 =>
 ∀ k8 : Nat, h4 k8 = none → B k8 = none → ∀ h9 : Heap, h9 = Heap.set h4 k8 (.vec 119 (zc [(.bool false), (.string ByteArray.empty)]) 2) →
 ∃ h10 : Heap, zi ⟨k8, 0, none⟩ h9 0 [(.bool b5), (.string s6)] h10 ∧
 ((i7 : Int) = 0 →
 ∃ A11 : Addr, p1 = some A11 ∧
 ∃ p13 : Option Addr, cellH B h10 (Addr.add (Addr.add A11 2) 1) = some (.pointer p13) ∧
 ∃ A14 : Addr, p1 = some A14 ∧
 ∃ p16 : Option Addr, cellH B h10 A14 = some (.pointer p16) ∧
 ∃ A17 : Addr, p16 = some A17 ∧
 ∃ p19 : Option Addr, cellH B h10 (Addr.add A17 1) = some (.pointer p19) ∧
 wT B p13 p19 (i2) h10 (fun b21 h20 =>
 Fin B h20 (Q (i7)))) ∧ (¬ ((i7 : Int) = 0) →
 Fin B h10 (Q (i7))))
def yr (B : RO) (p1 : Option Addr) (i2 : Int) (i3 : Int) (i15 : Int) (h16 : Heap) (Q : Int → Heap → Prop) : Prop :=
 ((i15 : Int) = 0 →
 ∃ A17 : Addr, p1 = some A17 ∧
 ∃ p19 : Option Addr, cellH B h16 (Addr.add (Addr.add A17 2) 1) = some (.pointer p19) ∧
 ∃ A20 : Addr, p1 = some A20 ∧
 ∃ p22 : Option Addr, cellH B h16 A20 = some (.pointer p22) ∧
 ∃ A23 : Addr, p22 = some A23 ∧
 ∃ p25 : Option Addr, cellH B h16 (Addr.add A23 1) = some (.pointer p25) ∧
 wU B p19 p25 (i2) (i3) h16 (fun b27 h26 =>
 Fin B h26 (Q (i15)))) ∧ (¬ ((i15 : Int) = 0) →
 Fin B h16 (Q (i15)))
def xJ (B : RO) (p1 : Option Addr) (i2 : Int) (i3 : Int) (h6 : Heap) (Q : Int → Heap → Prop) : Prop :=
 z9 B p1 (i2) h6 (fun b8 s9 i10 h7 =>
 ∀ k11 : Nat, h7 k11 = none → B k11 = none → ∀ h12 : Heap, h12 = Heap.set h7 k11 (.vec 119 (zc [(.bool false), (.string ByteArray.empty)]) 2) →
 ∃ h13 : Heap, zi ⟨k11, 0, none⟩ h12 0 [(.bool b8), (.string s9)] h13 ∧
 ((i10 : Int) = 0 →
 z9 B p1 (i3) h13 (fun b29 s30 i31 h28 =>
 Fin B h28 (fun h' => yr B p1 i2 i3 (i31) h' Q))) ∧ (¬ ((i10 : Int) = 0) →
 Fin B h13 (fun h' => yr B p1 i2 i3 (i10) h' Q)))
def Zu (B : RO) (p1 : Option Addr) (i2 : Int) (i3 : Int) (h : Heap) (Q : Int → Heap → Prop) : Prop :=
 (p1 = none →
 Fin B h (fun h' => xJ B p1 i2 i3 h' Q)) ∧ (¬ (p1 = none) →
 ((i3 : Int) < (0) →
 Fin B h (Q (1))) ∧ (¬ ((i3 : Int) < (0)) →
 ((i3 : Int) ≥ (6) →
 Fin B h (Q (1))) ∧ (¬ ((i3 : Int) ≥ (6)) →
 Fin B h (fun h' => xJ B p1 i2 i3 h' Q))))
def Yi (B : RO) (p1 : Option Addr) (i2 : Int) (i3 : Int) (h : Heap) (Q : Int → Heap → Prop) : Prop :=
 z9 B p1 (i2) h (fun b6 s7 i8 h5 =>
 ∀ k9 : Nat, h5 k9 = none → B k9 = none → ∀ h10 : Heap, h10 = Heap.set h5 k9 (.vec 119 (zc [(.bool false), (.string ByteArray.empty)]) 2) →
 ∃ h11 : Heap, zi ⟨k9, 0, none⟩ h10 0 [(.bool b6), (.string s7)] h11 ∧
 ((i8 : Int) = 0 →
 ∃ A12 : Addr, p1 = some A12 ∧
 ∃ p14 : Option Addr, cellH B h11 (Addr.add (Addr.add A12 2) 1) = some (.pointer p14) ∧
 ∃ A15 : Addr, p1 = some A15 ∧
 ∃ p17 : Option Addr, cellH B h11 A15 = some (.pointer p17) ∧
 ∃ A18 : Addr, p17 = some A18 ∧
 ∃ p20 : Option Addr, cellH B h11 (Addr.add A18 1) = some (.pointer p20) ∧
 vQ B p14 p20 (i2) (i3) h11 (fun b22 h21 =>
 Fin B h21 (Q (i8)))) ∧ (¬ ((i8 : Int) = 0) →
 Fin B h11 (Q (i8))))
def vW (B : RO) (p1 : Option Addr) (i2 : Int) (h6 : Heap) (Q : Int → Int → Heap → Prop) : Prop :=
 xm B p1 (2) (i2) h6 (fun i8 h7 =>
 ((i8 : Int) = 0 →
 ∃ A9 : Addr, p1 = some A9 ∧
 ∃ p11 : Option Addr, cellH B h7 A9 = some (.pointer p11) ∧
 ∃ A12 : Addr, p11 = some A12 ∧
 ∃ p14 : Option Addr, cellH B h7 (Addr.add A12 2) = some (.pointer p14) ∧
 xn B p14 (i2) h7 (fun i16 i17 h15 =>
 ∃ A19 : Addr, p1 = some A19 ∧
 ∃ p23 : Option Addr, cellH B h15 A19 = some (.pointer p23) ∧
 ∃ A25 : Addr, p23 = some A25 ∧
 ∃ p29 : Option Addr, cellH B h15 (Addr.add A25 2) = some (.pointer p29) ∧
 ∃ A33 : Addr, p1 = some A33 ∧
 ∃ p38 : Option Addr, cellH B h15 (Addr.add (Addr.add A33 2) 2) = some (.pointer p38) ∧
 vB B p38 (i2) (i16) h15 (fun i43 h42 =>
 cellH B h42 A19 = some (.pointer p23) ∧ cellH B h42 (Addr.add A25 2) = some (.pointer p29) ∧ cellH B h42 (Addr.add (Addr.add A33 2) 2) = some (.pointer p38) ∧
 Yg B p29 (i2) (i43) h42 (fun i48 h47 =>
 cellH B h47 A19 = some (.pointer p23) ∧ cellH B h47 (Addr.add A25 2) = some (.pointer p29) ∧ cellH B h47 (Addr.add (Addr.add A33 2) 2) = some (.pointer p38) ∧
 ((i48 : Int) < (0) →
 Fin B h47 (Q (0) (10))) ∧ (¬ ((i48 : Int) < (0)) →
 ∃ A52 : Addr, p1 = some A52 ∧
 ∃ p54 : Option Addr, cellH B h47 (Addr.add (Addr.add A52 2) 2) = some (.pointer p54) ∧
 wQ B p54 (i2) h47 (fun b56 h55 =>
 Fin B h55 (Q (i48) (0)))))))) ∧ (¬ ((i8 : Int) = 0) →
 Fin B h7 (Q (0) (i8))))
def Z9 (B : RO) (p1 : Option Addr) (i2 : Int) (h : Heap) (Q : Int → Int → Heap → Prop) : Prop :=
 (p1 = none →
 Fin B h (Q (0) (2))) ∧ (¬ (p1 = none) →
 ((i2 : Int) < (0) →
 Fin B h (Q (0) (1))) ∧ (¬ ((i2 : Int) < (0)) →
 ((i2 : Int) ≥ (3) →
 Fin B h (Q (0) (1))) ∧ (¬ ((i2 : Int) ≥ (3)) →
 Fin B h (fun h' => vW B p1 i2 h' Q))))
def zaF (B : RO) (p1 : Option Addr) (i2 : Int) (h : Heap) (Q : Bool → Heap → Prop) : Prop :=
 (p1 = none →
 Fin B h (Q (false))) ∧ (¬ (p1 = none) →
 ((i2 : Int) ≥ (0) →
 Fin B h (Q ((decide ((i2 : Int) < (3)))))) ∧ (¬ ((i2 : Int) ≥ (0)) →
 Fin B h (Q (false))))
def Ym (B : RO) (b1 : Bool) (s2 : ByteArray) (i3 : Int) (h : Heap) (Q : Int → Heap → Prop) : Prop :=
 ∀ k5 : Nat, h k5 = none → B k5 = none → ∀ h6 : Heap, h6 = Heap.set h k5 (.vec 51 (zc [(.bool b1), (.string s2)]) 2) →
 ∃ (J12 : Int → Nat → Heap → Prop) (m10 : Nat), Fin B h6 (J12 (0) m10) ∧
 ∀ (i7 : Int) (m9 : Nat) (h8 : Heap), J12 i7 m9 h8 →
 ∃ s13 : ByteArray, cellH B h8 ⟨k5, 1, none⟩ = some (.string s13) ∧
 ((i7 : Int) < ((ByteArray.size s13 : Nat)) →
 ((i7 : Int) = i3 →
 ∃ s14 : ByteArray, cellH B h8 ⟨k5, 1, none⟩ = some (.string s14) ∧
 0 ≤ (i7 : Int) ∧ (i7 : Int) < (ByteArray.size s14 : Nat) ∧
 Fin B h8 (Q (IntKind.wrap .i64 (x4 s14 (Int.toNat (i7)))))) ∧ (¬ ((i7 : Int) = i3) →
 Fin B h8 (fun h' => ∃ m', m' < m9 ∧ J12 (IntKind.wrap .i64 ((i7) + (1))) m' h'))) ∧ (¬ ((i7 : Int) < ((ByteArray.size s13 : Nat))) →
 Fin B h8 (Q ((-1))))
def ZT (B : RO) (p1 : Option Addr) (i2 : Int) (i3 : Int) (i4 : Int) (h : Heap) (Q : Bool → Heap → Prop) : Prop :=
 zP B (i2) h (fun b7 h6 =>
 (b7 = true →
 ∃ A10 : Addr, p1 = some A10 ∧
 0 ≤ (i2 : Int) ∧ (i2 : Int) < (6 : Nat) ∧
 ∃ b12 : Bool, ∃ s13 : ByteArray, za B h6 (Addr.add (Addr.add A10 12) (Int.toNat (i2) * 2)) 0 [(.bool b12), (.string s13)] ∧
 wy B (b12) s13 (i3) (i4) h6 (fun b15 s16 h14 =>
 z6 B p1 (i2) (b15) s16 h14 (fun h17 =>
 zP B (i2) h17 (fun b19 h18 =>
 Fin B h18 (Q (b19)))))) ∧ (b7 = false →
 zP B (i2) h6 (fun b9 h8 =>
 Fin B h8 (Q (b9)))))
def ZF (B : RO) (p1 : Option Addr) (i2 : Int) (h : Heap) (Q : Bool → Heap → Prop) : Prop :=
 zP B (i2) h (fun b5 h4 =>
 (b5 = true →
 ∃ A8 : Addr, p1 = some A8 ∧
 0 ≤ (i2 : Int) ∧ (i2 : Int) < (6 : Nat) ∧
 ∃ s10 : ByteArray, cellH B h4 (Addr.add (Addr.add (Addr.add A8 12) (Int.toNat (i2) * 2)) 1) = some (.string s10) ∧
 z6 B p1 (i2) (true) s10 h4 (fun h11 =>
 zP B (i2) h11 (fun b13 h12 =>
 Fin B h12 (Q (b13))))) ∧ (b5 = false →
 zP B (i2) h4 (fun b7 h6 =>
 Fin B h6 (Q (b7)))))
def ZG (B : RO) (p1 : Option Addr) (i2 : Int) (h : Heap) (Q : Bool → Heap → Prop) : Prop :=
 zP B (i2) h (fun b5 h4 =>
 (b5 = true →
 z6 B p1 (i2) (false) ByteArray.empty h4 (fun h8 =>
 zP B (i2) h8 (fun b10 h9 =>
 Fin B h9 (Q (b10))))) ∧ (b5 = false →
 zP B (i2) h4 (fun b7 h6 =>
 Fin B h6 (Q (b7)))))
def yp (B : RO) (p1 : Option Addr) (i2 : Int) (i3 : Int) (b8 : Bool) (h9 : Heap) (Q : Bool → Heap → Prop) : Prop :=
 (b8 = true →
 ∃ A10 : Addr, p1 = some A10 ∧
 0 ≤ (i2 : Int) ∧ (i2 : Int) < (6 : Nat) ∧
 ∃ b12 : Bool, ∃ s13 : ByteArray, za B h9 (Addr.add (Addr.add A10 12) (Int.toNat (i2) * 2)) 0 [(.bool b12), (.string s13)] ∧
 z6 B p1 (i3) (b12) s13 h9 (fun h14 =>
 z6 B p1 (i2) (false) ByteArray.empty h14 (fun h15 =>
 Fin B h15 (Q (true))))) ∧ (b8 = false →
 Fin B h9 (Q (true)))
def wq (B : RO) (p1 : Option Addr) (i2 : Int) (i3 : Int) (h6 : Heap) (Q : Bool → Heap → Prop) : Prop :=
 ∃ A16 : Addr, p1 = some A16 ∧
 0 ≤ (i2 : Int) ∧ (i2 : Int) < (6 : Nat) ∧
 ∃ b18 : Bool, cellH B h6 (Addr.add (Addr.add A16 12) (Int.toNat (i2) * 2)) = some (.bool b18) ∧ (b18 = true →
 ((i2 : Int) = i3 →
 Fin B h6 (fun h' => yp B p1 i2 i3 (false) h' Q)) ∧ (¬ ((i2 : Int) = i3) →
 Fin B h6 (fun h' => yp B p1 i2 i3 (true) h' Q))) ∧ (b18 = false →
 Fin B h6 (fun h' => yp B p1 i2 i3 (false) h' Q))
def ZH (B : RO) (p1 : Option Addr) (i2 : Int) (i3 : Int) (h : Heap) (Q : Bool → Heap → Prop) : Prop :=
 zP B (i2) h (fun b20 h19 =>
 (b20 = true →
 zP B (i3) h19 (fun b22 h21 =>
 (b22 = true →
 Fin B h21 (fun h' => wq B p1 i2 i3 h' Q)) ∧ (b22 = false →
 Fin B h21 (Q (false))))) ∧ (b20 = false →
 Fin B h19 (Q (false))))
def Yn (B : RO) (p1 : Option Addr) (i2 : Int) (i3 : Int) (h : Heap) (Q : Bool → Heap → Prop) : Prop :=
 zP B (i2) h (fun b6 h5 =>
 (b6 = true →
 ∃ A9 : Addr, p1 = some A9 ∧
 0 ≤ (i2 : Int) ∧ (i2 : Int) < (6 : Nat) ∧
 ∃ b11 : Bool, ∃ s12 : ByteArray, za B h5 (Addr.add (Addr.add A9 12) (Int.toNat (i2) * 2)) 0 [(.bool b11), (.string s12)] ∧
 wx B (b11) s12 (i3) h5 (fun b14 s15 h13 =>
 z6 B p1 (i2) (b14) s15 h13 (fun h16 =>
 zP B (i2) h16 (fun b18 h17 =>
 Fin B h17 (Q (b18)))))) ∧ (b6 = false →
 zP B (i2) h5 (fun b8 h7 =>
 Fin B h7 (Q (b8)))))
def XB (B : RO) (p1 : Option Addr) (i2 : Int) (h : Heap) (Q : Int → Heap → Prop) : Prop :=
 xg B p1 (i2) h (fun i5 i6 h4 =>
 Fin B h4 (Q (i6)))
def XU (B : RO) (p1 : Option Addr) (i2 : Int) (i3 : Int) (h : Heap) (Q : Bool → Heap → Prop) : Prop :=
 (p1 = none →
 Fin B h (Q (false))) ∧ (¬ (p1 = none) →
 xX B p1 (i2) h (fun i7 b8 h6 =>
 (b8 = true →
 ∃ A24 : Addr, p1 = some A24 ∧
 LdSl B h6 A24 fun a26 n27 c28 h29 =>
 ∃ A30 : Addr, a26 = some A30 ∧ 0 ≤ (i7 : Int) ∧ (i7 : Int) < (n27 : Nat) ∧
 ∃ h32 : Heap, ym h29 (Addr.add (Addr.add A30 (Int.toNat (i7) * 2)) 1) (.int .i64 (i3)) = some h32 ∧
 Fin B h32 (Q (true))) ∧ (b8 = false →
 ∃ A9 : Addr, p1 = some A9 ∧
 LdSl B h6 A9 fun a11 n12 c13 h14 =>
 ∀ k15 : Nat, h14 k15 = none → B k15 = none → ∀ h16 : Heap, h16 = Heap.set h14 k15 (.vec 163 (zc [(.int .i64 (i2)), (.int .i64 (i3))]) 2) →
 yB B a11 n12 c13 (i7) (some ⟨k15, 0, none⟩) 1 1 h16 (fun a18 n19 c20 h17 =>
 ∃ A21 : Addr, p1 = some A21 ∧
 ∃ h23 : Heap, ym h17 A21 (.slice a18 n19 c20) = some h23 ∧
 Fin B h23 (Q (true))))))
def zaC (B : RO) (i1 : Int) (i2 : Int) (h : Heap) (Q : Option Addr → Heap → Prop) : Prop :=
 ∀ k4 : Nat, h k4 = none → B k4 = none → ∀ h5 : Heap, h5 = Heap.set h k4 (.vec 172 (zc [(.slice none 0 0)]) 1) →
 ∃ (J11 : Int → Nat → Heap → Prop) (m9 : Nat), Fin B h5 (J11 (0) m9) ∧
 ∀ (i6 : Int) (m8 : Nat) (h7 : Heap), J11 i6 m8 h7 →
 ((i6 : Int) < (i1) →
 LdSl B h7 ⟨k4, 0, none⟩ fun a12 n13 c14 h15 =>
 ∀ k16 : Nat, h15 k16 = none → B k16 = none → ∀ h17 : Heap, h17 = Heap.set h15 k16 (.vec 169 (zc [(.int .i64 (i2)), (.int .i64 (0))]) 2) →
 semH PG B (Builtin.append_ #[170, 170] 170 #[(.slice a12 n13 c14), (.slice (some ⟨k16, 0, none⟩) 1 1)]) h17 (fun v h18 => ∃ a19 : Option Addr, ∃ n20 : Nat, ∃ c21 : Nat, v = (.slice a19 n20 c21) ∧
 ∃ h22 : Heap, ym h18 ⟨k4, 0, none⟩ (.slice a19 n20 c21) = some h22 ∧
 Fin B h22 (fun h' => ∃ m', m' < m8 ∧ J11 (IntKind.wrap .i64 ((i6) + (1))) m' h'))) ∧ (¬ ((i6 : Int) < (i1)) →
 Fin B h7 (Q (some ⟨k4, 0, none⟩)))
def zc4 (B : RO) (h : Heap) (Q : Option Addr → Heap → Prop) : Prop :=
 wO B (6) (false) ByteArray.empty h (fun p3 h2 =>
 ∀ k4 : Nat, h2 k4 = none → B k4 = none → ∀ h5 : Heap, h5 = Heap.set h2 k4 (.vec 184 (zc [(.pointer p3)]) 1) →
 Fin B h5 (Q (some ⟨k4, 0, none⟩)))
def zc1 (B : RO) (h : Heap) (Q : Option Addr → Heap → Prop) : Prop :=
 Zj B (3) (0) h (fun p3 h2 =>
 ∀ k4 : Nat, h2 k4 = none → B k4 = none → ∀ h5 : Heap, h5 = Heap.set h2 k4 (.vec 128 (zc [(.string ByteArray.empty), (.string ByteArray.empty), (.string ByteArray.empty), (.pointer p3)]) 4) →
 Fin B h5 (Q (some ⟨k4, 0, none⟩)))
def zck (B : RO) (i1 : Int) (h : Heap) (Q : Option Addr → Heap → Prop) : Prop :=
 ∀ k3 : Nat, h k3 = none → B k3 = none → ∀ h4 : Heap, h4 = Heap.set h k3 (.vec 137 (zc [(.slice none 0 0), (.int .i64 (i1))]) 2) →
 Fin B h4 (Q (some ⟨k3, 0, none⟩))
def wX (B : RO) (k12 : Nat) (k14 : Nat) (i18 : Int) (i19 : Int) (i20 : Int) (i21 : Int) (A69 : Addr) (p70 : Option Addr) (A71 : Addr) (h72 : Heap) (Q : Option Addr → Option Addr → Option Addr → Int → Int → Int → Int → Heap → Prop) : Prop :=
 ∃ h74 : Heap, zi ⟨k14, 0, none⟩ h72 0 [(.pointer (some A69)), (.pointer p70), (.pointer (some A71)), (.int .i64 (i18)), (.int .i64 (i19)), (.int .i64 (i20)), (.int .i64 (i21))] h74 ∧
 ∃ p75 : Option Addr, ∃ p76 : Option Addr, ∃ p77 : Option Addr, ∃ i78 : Int, ∃ i79 : Int, ∃ i80 : Int, ∃ i81 : Int, za B h74 ⟨k14, 0, none⟩ 0 [(.pointer p75), (.pointer p76), (.pointer p77), (.int .i64 (i78)), (.int .i64 (i79)), (.int .i64 (i80)), (.int .i64 (i81))] ∧ Fin B h74 (Q p75 p76 p77 (i78) (i79) (i80) (i81))
def zbA (B : RO) (i1 : Int) (i2 : Int) (i3 : Int) (i4 : Int) (h : Heap) (Q : Option Addr → Option Addr → Option Addr → Int → Int → Int → Int → Heap → Prop) : Prop :=
 ∀ k12 : Nat, h k12 = none → B k12 = none → ∀ h13 : Heap, h13 = Heap.set h k12 (.vec 26 (zc [(.int .i64 (i1)), (.int .i64 (i2)), (.int .i64 (i3)), (.int .i64 (i4))]) 4) →
 ∀ k14 : Nat, h13 k14 = none → B k14 = none → ∀ h15 : Heap, h15 = Heap.set h13 k14 (.vec 95 (zc [(.pointer none), (.pointer none), (.pointer none), (.int .i64 (0)), (.int .i64 (0)), (.int .i64 (0)), (.int .i64 (0))]) 7) →
 ∃ i18 : Int, ∃ i19 : Int, ∃ i20 : Int, ∃ i21 : Int, za B h15 ⟨k12, 0, none⟩ 0 [(.int .i64 (i18)), (.int .i64 (i19)), (.int .i64 (i20)), (.int .i64 (i21))] ∧
 (∀ k82 : Nat, h15 k82 = none → B k82 = none → ∀ h83 : Heap, h83 = Heap.set h15 k82 (.vec 166 (zc [(.slice none 0 0)]) 1) →
 za B h83 ⟨k12, 0, none⟩ 0 [(.int .i64 (i18)), (.int .i64 (i19)), (.int .i64 (i20)), (.int .i64 (i21))] ∧
 (vA B h83 (fun p86 h85 =>
 za B h85 ⟨k12, 0, none⟩ 0 [(.int .i64 (i18)), (.int .i64 (i19)), (.int .i64 (i20)), (.int .i64 (i21))] ∧
 ∀ k88 : Nat, h85 k88 = none → B k88 = none → ∀ h89 : Heap, h89 = Heap.set h85 k88 (.vec 181 (zc [(.int .i64 (0)), (.int .i64 (0)), (.int .i64 (0))]) 3) →
 za B h89 ⟨k12, 0, none⟩ 0 [(.int .i64 (i18)), (.int .i64 (i19)), (.int .i64 (i20)), (.int .i64 (i21))] ∧
 wX B k12 k14 i18 i19 i20 i21 ⟨k82, 0, none⟩ p86 ⟨k88, 0, none⟩ h89 Q)) ∧
 (∀ k91 : Nat, h83 k91 = none → B k91 = none → ∀ h92 : Heap, h92 = Heap.set h83 k91 (.vec 181 (zc [(.int .i64 (0)), (.int .i64 (0)), (.int .i64 (0))]) 3) →
 za B h92 ⟨k12, 0, none⟩ 0 [(.int .i64 (i18)), (.int .i64 (i19)), (.int .i64 (i20)), (.int .i64 (i21))] ∧
 vA B h92 (fun p95 h94 =>
 za B h94 ⟨k12, 0, none⟩ 0 [(.int .i64 (i18)), (.int .i64 (i19)), (.int .i64 (i20)), (.int .i64 (i21))] ∧
 wX B k12 k14 i18 i19 i20 i21 ⟨k82, 0, none⟩ p95 ⟨k91, 0, none⟩ h94 Q))) ∧
 (vA B h15 (fun p98 h97 =>
 za B h97 ⟨k12, 0, none⟩ 0 [(.int .i64 (i18)), (.int .i64 (i19)), (.int .i64 (i20)), (.int .i64 (i21))] ∧
 (∀ k100 : Nat, h97 k100 = none → B k100 = none → ∀ h101 : Heap, h101 = Heap.set h97 k100 (.vec 166 (zc [(.slice none 0 0)]) 1) →
 za B h101 ⟨k12, 0, none⟩ 0 [(.int .i64 (i18)), (.int .i64 (i19)), (.int .i64 (i20)), (.int .i64 (i21))] ∧
 ∀ k103 : Nat, h101 k103 = none → B k103 = none → ∀ h104 : Heap, h104 = Heap.set h101 k103 (.vec 181 (zc [(.int .i64 (0)), (.int .i64 (0)), (.int .i64 (0))]) 3) →
 za B h104 ⟨k12, 0, none⟩ 0 [(.int .i64 (i18)), (.int .i64 (i19)), (.int .i64 (i20)), (.int .i64 (i21))] ∧
 wX B k12 k14 i18 i19 i20 i21 ⟨k100, 0, none⟩ p98 ⟨k103, 0, none⟩ h104 Q) ∧
 (∀ k106 : Nat, h97 k106 = none → B k106 = none → ∀ h107 : Heap, h107 = Heap.set h97 k106 (.vec 181 (zc [(.int .i64 (0)), (.int .i64 (0)), (.int .i64 (0))]) 3) →
 za B h107 ⟨k12, 0, none⟩ 0 [(.int .i64 (i18)), (.int .i64 (i19)), (.int .i64 (i20)), (.int .i64 (i21))] ∧
 ∀ k109 : Nat, h107 k109 = none → B k109 = none → ∀ h110 : Heap, h110 = Heap.set h107 k109 (.vec 166 (zc [(.slice none 0 0)]) 1) →
 za B h110 ⟨k12, 0, none⟩ 0 [(.int .i64 (i18)), (.int .i64 (i19)), (.int .i64 (i20)), (.int .i64 (i21))] ∧
 wX B k12 k14 i18 i19 i20 i21 ⟨k109, 0, none⟩ p98 ⟨k106, 0, none⟩ h110 Q))) ∧
 (∀ k112 : Nat, h15 k112 = none → B k112 = none → ∀ h113 : Heap, h113 = Heap.set h15 k112 (.vec 181 (zc [(.int .i64 (0)), (.int .i64 (0)), (.int .i64 (0))]) 3) →
 za B h113 ⟨k12, 0, none⟩ 0 [(.int .i64 (i18)), (.int .i64 (i19)), (.int .i64 (i20)), (.int .i64 (i21))] ∧
 (∀ k115 : Nat, h113 k115 = none → B k115 = none → ∀ h116 : Heap, h116 = Heap.set h113 k115 (.vec 166 (zc [(.slice none 0 0)]) 1) →
 za B h116 ⟨k12, 0, none⟩ 0 [(.int .i64 (i18)), (.int .i64 (i19)), (.int .i64 (i20)), (.int .i64 (i21))] ∧
 vA B h116 (fun p119 h118 =>
 za B h118 ⟨k12, 0, none⟩ 0 [(.int .i64 (i18)), (.int .i64 (i19)), (.int .i64 (i20)), (.int .i64 (i21))] ∧
 wX B k12 k14 i18 i19 i20 i21 ⟨k115, 0, none⟩ p119 ⟨k112, 0, none⟩ h118 Q)) ∧
 (vA B h113 (fun p122 h121 =>
 za B h121 ⟨k12, 0, none⟩ 0 [(.int .i64 (i18)), (.int .i64 (i19)), (.int .i64 (i20)), (.int .i64 (i21))] ∧
 ∀ k124 : Nat, h121 k124 = none → B k124 = none → ∀ h125 : Heap, h125 = Heap.set h121 k124 (.vec 166 (zc [(.slice none 0 0)]) 1) →
 za B h125 ⟨k12, 0, none⟩ 0 [(.int .i64 (i18)), (.int .i64 (i19)), (.int .i64 (i20)), (.int .i64 (i21))] ∧
 wX B k12 k14 i18 i19 i20 i21 ⟨k124, 0, none⟩ p122 ⟨k112, 0, none⟩ h125 Q)))
def Wz (B : RO) (p1 : Option Addr) (h : Heap) (Q : Option Addr → Heap → Prop) : Prop :=
 (p1 = none →
 Fin B h (Q none)) ∧ (¬ (p1 = none) →
 ∃ A4 : Addr, p1 = some A4 ∧
 ∃ p6 : Option Addr, cellH B h A4 = some (.pointer p6) ∧
 Fin B h (Q p6))
def XE (B : RO) (p1 : Option Addr) (i2 : Int) (h : Heap) (Q : Int → Bool → Heap → Prop) : Prop :=
 ∃ A5 : Addr, p1 = some A5 ∧
 LdSl B h A5 fun a7 n8 c9 h10 =>
 zY B a7 n8 c9 (i2) (Value.func (.func 115) #[] #[]) h10 (fun i12 b13 h11 =>
 Fin B h11 (Q (i12) (b13)))
def vj (B : RO) (p1 : Option Addr) (i3 : Int) (i4 : Int) (i11 : Int) (h24 : Heap) (Q : Bool → Heap → Prop) : Prop :=
 ∃ A25 : Addr, p1 = some A25 ∧
 LdSl B h24 A25 fun a27 n28 c29 h30 =>
 ∀ k31 : Nat, h30 k31 = none → B k31 = none → ∀ h32 : Heap, h32 = Heap.set h30 k31 (.vec 174 (zc [(.int .i64 (i3)), (.int .i64 (i4)), (.int .i64 (i11))]) 3) →
 semH PG B (Builtin.append_ #[135, 135] 135 #[(.slice a27 n28 c29), (.slice (some ⟨k31, 0, none⟩) 1 1)]) h32 (fun v h33 => ∃ a34 : Option Addr, ∃ n35 : Nat, ∃ c36 : Nat, v = (.slice a34 n35 c36) ∧
 ∃ A37 : Addr, p1 = some A37 ∧
 ∃ h39 : Heap, ym h33 A37 (.slice a34 n35 c36) = some h39 ∧
 Fin B h39 (Q (true)))
def VK (B : RO) (p1 : Option Addr) (l2 : List Value) (i3 : Int) (i4 : Int) (h : Heap) (Q : Bool → Heap → Prop) : Prop :=
 ∀ k6 : Nat, h k6 = none → B k6 = none → ∀ h7 : Heap, h7 = Heap.set h k6 (.vec 65 (zc l2) (List.length l2)) →
 (p1 = none →
 Fin B h7 (Q (false))) ∧ (¬ (p1 = none) →
 ∃ l9 : List Value, List.length l9 = 25 ∧ za B h7 ⟨k6, 0, none⟩ 0 l9 ∧
 Zk B l9 (i3) (i4) h7 (fun i11 h10 =>
 vP B p1 (i3) (i4) h10 (fun i13 h12 =>
 ((i13 : Int) ≥ (0) →
 ∃ A14 : Addr, p1 = some A14 ∧
 LdSl B h12 A14 fun a16 n17 c18 h19 =>
 ∃ A20 : Addr, a16 = some A20 ∧ 0 ≤ (i13 : Int) ∧ (i13 : Int) < (n17 : Nat) ∧
 ∃ i22 : Int, cellH B h19 (Addr.add (Addr.add A20 (Int.toNat (i13) * 3)) 2) = some (.int .i64 (i22)) ∧
 Fin B h19 (Q (((i22 : Int) == (i11))))) ∧ (¬ ((i13 : Int) ≥ (0)) →
 ∃ A40 : Addr, p1 = some A40 ∧
 ∃ i42 : Int, cellH B h12 (Addr.add A40 1) = some (.int .i64 (i42)) ∧
 ((i11 : Int) > (i42) →
 ∃ l43 : List Value, List.length l43 = 25 ∧ za B h12 ⟨k6, 0, none⟩ 0 l43 ∧
 w6 B p1 l43 h12 (fun b45 h44 =>
 (b45 = true →
 ∃ i46 : Int, cellH B h44 ⟨k6, 24, none⟩ = some (.int .i64 (i46)) ∧
 ∃ A47 : Addr, p1 = some A47 ∧
 ∃ h49 : Heap, ym h44 (Addr.add A47 1) (.int .i64 (i46)) = some h49 ∧
 Fin B h49 (fun h' => vj B p1 i3 i4 i11 h' Q)) ∧ (b45 = false →
 Fin B h44 (Q (false))))) ∧ (¬ ((i11 : Int) > (i42)) →
 Fin B h12 (fun h' => vj B p1 i3 i4 i11 h' Q))))))
def Xp (B : RO) (p1 : Option Addr) (i2 : Int) (h : Heap) (Q : Bool → Heap → Prop) : Prop :=
 (p1 = none →
 Fin B h (Q (false))) ∧ (¬ (p1 = none) →
 ((i2 : Int) ≥ (0) →
 ∃ A5 : Addr, p1 = some A5 ∧
 LdSl B h A5 fun a7 n8 c9 h10 =>
 Fin B h10 (Q ((decide ((i2 : Int) < ((n8 : Nat))))))) ∧ (¬ ((i2 : Int) ≥ (0)) →
 Fin B h (Q (false))))
def Xr (B : RO) (i2 : Int) (i3 : Int) (k5 : Nat) (h8 : Heap) (Q : Int → Heap → Prop) : Prop :=
 0 ≤ (i2 : Int) ∧ (i2 : Int) < (3 : Nat) ∧
 0 ≤ (i3 : Int) ∧ (i3 : Int) < (8 : Nat) ∧
 ∃ i9 : Int, cellH B h8 (Addr.add (Addr.add ⟨k5, 0, none⟩ (Int.toNat (i2) * 8)) (Int.toNat (i3) * 1)) = some (.int .i64 (i9)) ∧
 Fin B h8 (Q (i9))
def zaG (B : RO) (l1 : List Value) (i2 : Int) (i3 : Int) (h : Heap) (Q : Int → Heap → Prop) : Prop :=
 ∀ k5 : Nat, h k5 = none → B k5 = none → ∀ h6 : Heap, h6 = Heap.set h k5 (.vec 65 (zc l1) (List.length l1)) →
 ((i2 : Int) < (0) →
 Fin B h6 (Q (0))) ∧ (¬ ((i2 : Int) < (0)) →
 ((i2 : Int) > (2) →
 Fin B h6 (Q (0))) ∧ (¬ ((i2 : Int) > (2)) →
 ((i3 : Int) < (0) →
 Fin B h6 (Q (0))) ∧ (¬ ((i3 : Int) < (0)) →
 ((i3 : Int) ≥ (8) →
 Fin B h6 (Q (0))) ∧ (¬ ((i3 : Int) ≥ (8)) →
 Fin B h6 (fun h' => Xr B i2 i3 k5 h' Q)))))
def Xo (B : RO) (v1 : Value) (A2 : Addr) (h : Heap) (Q : Heap → Prop) : Prop :=
 ∃ p3 : Option Addr, cellH B h A2 = some (.pointer p3) ∧
 (p3 = none →
 Fin B h (Q)) ∧ (¬ (p3 = none) →
 ∃ p5 : Option Addr, cellH B h A2 = some (.pointer p5) ∧
 ∃ A6 : Addr, p5 = some A6 ∧
 LdSl B h A6 fun a8 n9 c10 h11 =>
 ∃ (J17 : Int → Nat → Heap → Prop) (m15 : Nat), Fin B h11 (J17 (0) m15) ∧
 ∀ (i12 : Int) (m14 : Nat) (h13 : Heap), J17 i12 m14 h13 →
 ((i12 : Int) < ((n9 : Nat)) →
 ∃ A18 : Addr, a8 = some A18 ∧ 0 ≤ (i12 : Int) ∧ (i12 : Int) < (n9 : Nat) ∧
 ∃ i20 : Int, ∃ i21 : Int, za B h13 (Addr.add A18 (Int.toNat (i12) * 2)) 0 [(.int .i64 (i20)), (.int .i64 (i21))] ∧
 ∀ k22 : Nat, h13 k22 = none → B k22 = none → ∀ h23 : Heap, h23 = Heap.set h13 k22 (.vec 163 (zc [(.int .i64 (0)), (.int .i64 (0))]) 2) →
 ∃ h24 : Heap, zi ⟨k22, 0, none⟩ h23 0 [(.int .i64 (i20)), (.int .i64 (i21))] h24 ∧
 ∃ i25 : Int, cellH B h24 ⟨k22, 0, none⟩ = some (.int .i64 (i25)) ∧
 ∃ i26 : Int, cellH B h24 ⟨k22, 1, none⟩ = some (.int .i64 (i26)) ∧
 CallV PG B v1 [(.int .i64 (i25)), (.int .i64 (i26))] h24 (fun v h27 => ∃ b28 : Bool, v = (.bool b28) ∧
 (b28 = true →
 Fin B h27 (fun h' => ∃ m', m' < m14 ∧ J17 (IntKind.wrap .i64 ((i12) + (1))) m' h')) ∧ (b28 = false →
 Fin B h27 (Q)))) ∧ (¬ ((i12 : Int) < ((n9 : Nat))) →
 Fin B h13 (Q)))
def Yv (B : RO) (p1 : Option Addr) (h : Heap) (Q : Value → Heap → Prop) : Prop :=
 ∀ k3 : Nat, h k3 = none → B k3 = none → ∀ h4 : Heap, h4 = Heap.set h k3 (.vec 157 [.plain (.pointer p1)] 1) →
 Fin B h4 (Q (Value.func (.func 117) #[] #[(.pointer (some ⟨k3, 0, none⟩))]))
def Y1 (B : RO) (h14 : Heap) (Q : Bool → Heap → Prop) : Prop :=
 Fin B h14 (Q (false))
def Y2 (B : RO) (k7 : Nat) (b17 : Bool) (s18 : ByteArray) (h24 : Heap) (Q : Bool → Heap → Prop) : Prop :=
 Fin B h24 (Q (false))
def Y3 (B : RO) (i2 : Int) (i5 : Int) (k7 : Nat) (b17 : Bool) (s18 : ByteArray) (p36 : Option Addr) (b37 : Bool) (s38 : ByteArray) (h39 : Heap) (Q : Bool → Heap → Prop) : Prop :=
 xA B p36 (i2) (b37) s38 (i5) h39 (fun b42 h41 =>
 za B h41 ⟨k7, 0, none⟩ 0 [(.bool b17), (.string s18)] ∧
 Fin B h41 (Q (b42)))
def V5 (B : RO) (p1 : Option Addr) (i2 : Int) (b3 : Bool) (s4 : ByteArray) (i5 : Int) (h : Heap) (Q : Bool → Heap → Prop) : Prop :=
 ∀ k7 : Nat, h k7 = none → B k7 = none → ∀ h8 : Heap, h8 = Heap.set h k7 (.vec 119 (zc [(.bool b3), (.string s4)]) 2) →
 (p1 = none →
 (Y1 B h8 Q) ∧
 (Y1 B h8 Q)) ∧ (¬ (p1 = none) →
 ∃ b17 : Bool, ∃ s18 : ByteArray, za B h8 ⟨k7, 0, none⟩ 0 [(.bool b17), (.string s18)] ∧
 Xt B (b17) s18 h8 (fun b21 h20 =>
 (b21 = true →
 za B h20 ⟨k7, 0, none⟩ 0 [(.bool b17), (.string s18)] ∧
 ∃ A27 : Addr, p1 = some A27 ∧
 (∃ p44 : Option Addr, cellH B h20 A27 = some (.pointer p44) ∧
 ∃ b45 : Bool, ∃ s46 : ByteArray, za B h20 ⟨k7, 0, none⟩ 0 [(.bool b45), (.string s46)] ∧
 Y3 B i2 i5 k7 b17 s18 p44 (b45) s46 h20 Q) ∧
 (∃ b47 : Bool, ∃ s48 : ByteArray, za B h20 ⟨k7, 0, none⟩ 0 [(.bool b47), (.string s48)] ∧
 ∃ p49 : Option Addr, cellH B h20 A27 = some (.pointer p49) ∧
 Y3 B i2 i5 k7 b17 s18 p49 (b47) s48 h20 Q)) ∧ (b21 = false →
 za B h20 ⟨k7, 0, none⟩ 0 [(.bool b17), (.string s18)] ∧
 (Y2 B k7 b17 s18 h20 Q) ∧
 (Y2 B k7 b17 s18 h20 Q))))
def zch (B : RO) (i1 : Int) (h : Heap) (Q : Bool → Heap → Prop) : Prop :=
 ((i1 : Int) ≥ (0) →
 Fin B h (Q ((decide ((i1 : Int) < (3)))))) ∧ (¬ ((i1 : Int) ≥ (0)) →
 Fin B h (Q (false)))
def YW (B : RO) (p1 : Option Addr) (i2 : Int) (h : Heap) (Q : Bool → ByteArray → Int → Heap → Prop) : Prop :=
 ∀ k6 : Nat, h k6 = none → B k6 = none → ∀ h7 : Heap, h7 = Heap.set h k6 (.vec 119 (zc [(.bool false), (.string ByteArray.empty)]) 2) →
 xM B p1 (i2) h7 (fun b9 h8 =>
 (b9 = true →
 ∃ A18 : Addr, p1 = some A18 ∧
 ∃ a22 : Option Addr, ∃ n23 : Nat, ∃ c24 : Nat, cellH B h8 A18 = some (.slice a22 n23 c24) ∧
 ∃ A27 : Addr, a22 = some A27 ∧ 0 ≤ (i2 : Int) ∧ (i2 : Int) < (n23 : Nat) ∧
 ∃ b33 : Bool, ∃ s34 : ByteArray, za B h8 (Addr.add A27 (Int.toNat (i2) * 3)) 0 [(.bool b33), (.string s34)] ∧
 ∃ A37 : Addr, p1 = some A37 ∧
 ∃ a41 : Option Addr, ∃ n42 : Nat, ∃ c43 : Nat, cellH B h8 A37 = some (.slice a41 n42 c43) ∧
 ∃ A46 : Addr, a41 = some A46 ∧ 0 ≤ (i2 : Int) ∧ (i2 : Int) < (n42 : Nat) ∧
 ∃ i52 : Int, cellH B h8 (Addr.add (Addr.add A46 (Int.toNat (i2) * 3)) 2) = some (.int .i64 (i52)) ∧
 ∃ h54 : Heap, zi ⟨k6, 0, none⟩ h8 0 [(.bool b33), (.string s34)] h54 ∧
 cellH B h54 A18 = some (.slice a22 n23 c24) ∧ za B h54 (Addr.add A27 (Int.toNat (i2) * 3)) 0 [(.bool b33), (.string s34)] ∧ cellH B h54 A37 = some (.slice a41 n42 c43) ∧ cellH B h54 (Addr.add (Addr.add A46 (Int.toNat (i2) * 3)) 2) = some (.int .i64 (i52)) ∧
 ∃ b59 : Bool, ∃ s60 : ByteArray, za B h54 ⟨k6, 0, none⟩ 0 [(.bool b59), (.string s60)] ∧ Fin B h54 (Q (b59) s60 (i52))) ∧ (b9 = false →
 ∀ k10 : Nat, h8 k10 = none → B k10 = none → ∀ h11 : Heap, h11 = Heap.set h8 k10 (.vec 119 (zc [(.bool false), (.string ByteArray.empty)]) 2) →
 ∃ b12 : Bool, ∃ s13 : ByteArray, za B h11 ⟨k10, 0, none⟩ 0 [(.bool b12), (.string s13)] ∧
 ∃ h14 : Heap, zi ⟨k6, 0, none⟩ h11 0 [(.bool b12), (.string s13)] h14 ∧
 ∃ b15 : Bool, ∃ s16 : ByteArray, za B h14 ⟨k6, 0, none⟩ 0 [(.bool b15), (.string s16)] ∧ Fin B h14 (Q (b15) s16 (0))))
def xR (B : RO) (p1 : Option Addr) (i2 : Int) (k6 : Nat) (A11 : Addr) (b12 : Bool) (h13 : Heap) (Q : Bool → ByteArray → Int → Heap → Prop) : Prop :=
 (b12 = true →
 ∃ b26 : Bool, ∃ s27 : ByteArray, za B h13 A11 0 [(.bool b26), (.string s27)] ∧
 ∃ h28 : Heap, zi ⟨k6, 0, none⟩ h13 0 [(.bool b26), (.string s27)] h28 ∧
 ∃ b29 : Bool, ∃ s30 : ByteArray, za B h28 ⟨k6, 0, none⟩ 0 [(.bool b29), (.string s30)] ∧ Fin B h28 (Q (b29) s30 (0))) ∧ (b12 = false →
 ∃ b14 : Bool, ∃ s15 : ByteArray, za B h13 A11 0 [(.bool b14), (.string s15)] ∧
 xm B p1 (1) (i2) h13 (fun i20 h19 =>
 za B h19 A11 0 [(.bool b14), (.string s15)] ∧
 ∃ h22 : Heap, zi ⟨k6, 0, none⟩ h19 0 [(.bool b14), (.string s15)] h22 ∧
 za B h22 A11 0 [(.bool b14), (.string s15)] ∧
 ∃ b24 : Bool, ∃ s25 : ByteArray, za B h22 ⟨k6, 0, none⟩ 0 [(.bool b24), (.string s25)] ∧ Fin B h22 (Q (b24) s25 (i20))))
def yT (B : RO) (p1 : Option Addr) (i2 : Int) (k6 : Nat) (A32 : Addr) (p37 : Option Addr) (A40 : Addr) (p44 : Option Addr) (A46 : Addr) (p50 : Option Addr) (A83 : Addr) (b84 : Bool) (s85 : ByteArray) (b86 : Bool) (h87 : Heap) (Q : Bool → ByteArray → Int → Heap → Prop) : Prop :=
 ∃ h91 : Heap, zi A83 h87 0 [(.bool b84), (.string s85)] h91 ∧
 cellH B h91 (Addr.add (Addr.add A32 2) 1) = some (.pointer p37) ∧ cellH B h91 A40 = some (.pointer p44) ∧ cellH B h91 (Addr.add A46 1) = some (.pointer p50) ∧
 (b86 = true →
 Fin B h91 (fun h' => xR B p1 i2 k6 A83 (true) h' Q)) ∧ (b86 = false →
 Fin B h91 (fun h' => xR B p1 i2 k6 A83 (false) h' Q))
def vJ (B : RO) (p1 : Option Addr) (i2 : Int) (k6 : Nat) (h9 : Heap) (Q : Bool → ByteArray → Int → Heap → Prop) : Prop :=
 ∃ A32 : Addr, p1 = some A32 ∧
 ∃ p37 : Option Addr, cellH B h9 (Addr.add (Addr.add A32 2) 1) = some (.pointer p37) ∧
 ∃ A40 : Addr, p1 = some A40 ∧
 ∃ p44 : Option Addr, cellH B h9 A40 = some (.pointer p44) ∧
 ∃ A46 : Addr, p44 = some A46 ∧
 ∃ p50 : Option Addr, cellH B h9 (Addr.add A46 1) = some (.pointer p50) ∧
 (yL B p37 p50 (i2) h9 (fun b96 s97 b98 h95 =>
 cellH B h95 (Addr.add (Addr.add A32 2) 1) = some (.pointer p37) ∧ cellH B h95 A40 = some (.pointer p44) ∧ cellH B h95 (Addr.add A46 1) = some (.pointer p50) ∧
 (b98 = true →
 ∀ k107 : Nat, h95 k107 = none → B k107 = none → ∀ h108 : Heap, h108 = Heap.set h95 k107 (.vec 119 (zc [(.bool false), (.string ByteArray.empty)]) 2) →
 cellH B h108 (Addr.add (Addr.add A32 2) 1) = some (.pointer p37) ∧ cellH B h108 A40 = some (.pointer p44) ∧ cellH B h108 (Addr.add A46 1) = some (.pointer p50) ∧
 yT B p1 i2 k6 A32 p37 A40 p44 A46 p50 ⟨k107, 0, none⟩ (b96) s97 (true) h108 Q) ∧ (b98 = false →
 ∀ k102 : Nat, h95 k102 = none → B k102 = none → ∀ h103 : Heap, h103 = Heap.set h95 k102 (.vec 119 (zc [(.bool false), (.string ByteArray.empty)]) 2) →
 cellH B h103 (Addr.add (Addr.add A32 2) 1) = some (.pointer p37) ∧ cellH B h103 A40 = some (.pointer p44) ∧ cellH B h103 (Addr.add A46 1) = some (.pointer p50) ∧
 yT B p1 i2 k6 A32 p37 A40 p44 A46 p50 ⟨k102, 0, none⟩ (b96) s97 (false) h103 Q))) ∧
 (∀ k112 : Nat, h9 k112 = none → B k112 = none → ∀ h113 : Heap, h113 = Heap.set h9 k112 (.vec 119 (zc [(.bool false), (.string ByteArray.empty)]) 2) →
 cellH B h113 (Addr.add (Addr.add A32 2) 1) = some (.pointer p37) ∧ cellH B h113 A40 = some (.pointer p44) ∧ cellH B h113 (Addr.add A46 1) = some (.pointer p50) ∧
 yL B p37 p50 (i2) h113 (fun b118 s119 b120 h117 =>
 cellH B h117 (Addr.add (Addr.add A32 2) 1) = some (.pointer p37) ∧ cellH B h117 A40 = some (.pointer p44) ∧ cellH B h117 (Addr.add A46 1) = some (.pointer p50) ∧
 (b120 = true →
 yT B p1 i2 k6 A32 p37 A40 p44 A46 p50 ⟨k112, 0, none⟩ (b118) s119 (true) h117 Q) ∧ (b120 = false →
 yT B p1 i2 k6 A32 p37 A40 p44 A46 p50 ⟨k112, 0, none⟩ (b118) s119 (false) h117 Q)))
def ZL (B : RO) (p1 : Option Addr) (i2 : Int) (h : Heap) (Q : Bool → ByteArray → Int → Heap → Prop) : Prop :=
 ∀ k6 : Nat, h k6 = none → B k6 = none → ∀ h7 : Heap, h7 = Heap.set h k6 (.vec 119 (zc [(.bool false), (.string ByteArray.empty)]) 2) →
 (p1 = none →
 ∃ h125 : Heap, zi ⟨k6, 0, none⟩ h7 0 [(.bool false), (.string ByteArray.empty)] h125 ∧
 ∃ b126 : Bool, ∃ s127 : ByteArray, za B h125 ⟨k6, 0, none⟩ 0 [(.bool b126), (.string s127)] ∧ Fin B h125 (Q (b126) s127 (2))) ∧ (¬ (p1 = none) →
 ((i2 : Int) < (0) →
 ∃ h128 : Heap, zi ⟨k6, 0, none⟩ h7 0 [(.bool false), (.string ByteArray.empty)] h128 ∧
 ∃ b129 : Bool, ∃ s130 : ByteArray, za B h128 ⟨k6, 0, none⟩ 0 [(.bool b129), (.string s130)] ∧ Fin B h128 (Q (b129) s130 (1))) ∧ (¬ ((i2 : Int) < (0)) →
 ((i2 : Int) ≥ (6) →
 ∃ h131 : Heap, zi ⟨k6, 0, none⟩ h7 0 [(.bool false), (.string ByteArray.empty)] h131 ∧
 ∃ b132 : Bool, ∃ s133 : ByteArray, za B h131 ⟨k6, 0, none⟩ 0 [(.bool b132), (.string s133)] ∧ Fin B h131 (Q (b132) s133 (1))) ∧ (¬ ((i2 : Int) ≥ (6)) →
 Fin B h7 (fun h' => vJ B p1 i2 k6 h' Q))))
def Zw (B : RO) (i3 : Int) (k5 : Nat) (b8 : Bool) (h9 : Heap) (Q : Int → Heap → Prop) : Prop :=
 (b8 = true →
 Fin B h9 (Q ((-1)))) ∧ (b8 = false →
 ∃ s10 : ByteArray, cellH B h9 ⟨k5, 1, none⟩ = some (.string s10) ∧
 0 ≤ (i3 : Int) ∧ (i3 : Int) < (ByteArray.size s10 : Nat) ∧
 Fin B h9 (Q (IntKind.wrap .i64 (x4 s10 (Int.toNat (i3))))))
def zec (B : RO) (b1 : Bool) (s2 : ByteArray) (i3 : Int) (h : Heap) (Q : Int → Heap → Prop) : Prop :=
 ∀ k5 : Nat, h k5 = none → B k5 = none → ∀ h6 : Heap, h6 = Heap.set h k5 (.vec 119 (zc [(.bool b1), (.string s2)]) 2) →
 ((i3 : Int) < (0) →
 Fin B h6 (fun h' => Zw B i3 k5 (true) h' Q)) ∧ (¬ ((i3 : Int) < (0)) →
 ∃ s11 : ByteArray, cellH B h6 ⟨k5, 1, none⟩ = some (.string s11) ∧
 ((i3 : Int) ≥ ((ByteArray.size s11 : Nat)) →
 Fin B h6 (fun h' => Zw B i3 k5 (true) h' Q)) ∧ (¬ ((i3 : Int) ≥ ((ByteArray.size s11 : Nat))) →
 Fin B h6 (fun h' => Zw B i3 k5 (false) h' Q)))
def WA (B : RO) (p1 : Option Addr) (p2 : Option Addr) (i3 : Int) (i4 : Int) (i5 : Int) (h : Heap) (Q : Bool → Heap → Prop) : Prop :=
 yL B p1 p2 (i3) h (fun b8 s9 b10 h7 =>
 ∀ k11 : Nat, h7 k11 = none → B k11 = none → ∀ h12 : Heap, h12 = Heap.set h7 k11 (.vec 119 (zc [(.bool false), (.string ByteArray.empty)]) 2) →
 ∃ h13 : Heap, zi ⟨k11, 0, none⟩ h12 0 [(.bool b8), (.string s9)] h13 ∧
 ∃ b14 : Bool, ∃ s15 : ByteArray, za B h13 ⟨k11, 0, none⟩ 0 [(.bool b14), (.string s15)] ∧
 X9 B (b14) s15 (i4) (i5) h13 (fun b17 s18 h16 =>
 yM B p1 p2 (i3) (b17) s18 h16 (fun b20 h19 =>
 Fin B h19 (Q (b20)))))
def Wf (B : RO) (p1 : Option Addr) (p2 : Option Addr) (i3 : Int) (h : Heap) (Q : Bool → Heap → Prop) : Prop :=
 yL B p1 p2 (i3) h (fun b6 s7 b8 h5 =>
 ∀ k9 : Nat, h5 k9 = none → B k9 = none → ∀ h10 : Heap, h10 = Heap.set h5 k9 (.vec 119 (zc [(.bool false), (.string ByteArray.empty)]) 2) →
 ∃ h11 : Heap, zi ⟨k9, 0, none⟩ h10 0 [(.bool b6), (.string s7)] h11 ∧
 ∃ b12 : Bool, ∃ s13 : ByteArray, za B h11 ⟨k9, 0, none⟩ 0 [(.bool b12), (.string s13)] ∧
 Xu B (b12) s13 h11 (fun b15 s16 h14 =>
 yM B p1 p2 (i3) (b15) s16 h14 (fun b18 h17 =>
 Fin B h17 (Q (b18)))))
def Wg (B : RO) (p1 : Option Addr) (p2 : Option Addr) (i3 : Int) (h : Heap) (Q : Bool → Heap → Prop) : Prop :=
 yM B p1 p2 (i3) (false) ByteArray.empty h (fun b6 h5 =>
 Fin B h5 (Q (b6)))
def ZP (B : RO) (p1 : Option Addr) (p2 : Option Addr) (i3 : Int) (i4 : Int) (k10 : Nat) (h14 : Heap) (Q : Bool → Heap → Prop) : Prop :=
 ∃ b15 : Bool, ∃ s16 : ByteArray, za B h14 ⟨k10, 0, none⟩ 0 [(.bool b15), (.string s16)] ∧
 yM B p1 p2 (i4) (b15) s16 h14 (fun b18 h17 =>
 yM B p1 p2 (i3) (false) ByteArray.empty h17 (fun b20 h19 =>
 Fin B h19 (Q (b20))))
def yy (B : RO) (p1 : Option Addr) (p2 : Option Addr) (i3 : Int) (i4 : Int) (k10 : Nat) (b22 : Bool) (h23 : Heap) (Q : Bool → Heap → Prop) : Prop :=
 (b22 = true →
 Fin B h23 (Q (false))) ∧ (b22 = false →
 ∃ b24 : Bool, cellH B h23 ⟨k10, 0, none⟩ = some (.bool b24) ∧ (b24 = true →
 ((i3 : Int) = i4 →
 Fin B h23 (Q (true))) ∧ (¬ ((i3 : Int) = i4) →
 Fin B h23 (fun h' => ZP B p1 p2 i3 i4 k10 h' Q))) ∧ (b24 = false →
 Fin B h23 (Q (true))))
def Wh (B : RO) (p1 : Option Addr) (p2 : Option Addr) (i3 : Int) (i4 : Int) (h : Heap) (Q : Bool → Heap → Prop) : Prop :=
 yL B p1 p2 (i3) h (fun b7 s8 b9 h6 =>
 ∀ k10 : Nat, h6 k10 = none → B k10 = none → ∀ h11 : Heap, h11 = Heap.set h6 k10 (.vec 119 (zc [(.bool false), (.string ByteArray.empty)]) 2) →
 ∃ h12 : Heap, zi ⟨k10, 0, none⟩ h11 0 [(.bool b7), (.string s8)] h12 ∧
 (p1 = none →
 Fin B h12 (fun h' => yy B p1 p2 i3 i4 k10 (true) h' Q)) ∧ (¬ (p1 = none) →
 ((i3 : Int) < (0) →
 Fin B h12 (fun h' => yy B p1 p2 i3 i4 k10 (true) h' Q)) ∧ (¬ ((i3 : Int) < (0)) →
 ((i3 : Int) ≥ (6) →
 Fin B h12 (fun h' => yy B p1 p2 i3 i4 k10 (true) h' Q)) ∧ (¬ ((i3 : Int) ≥ (6)) →
 ((i4 : Int) < (0) →
 Fin B h12 (fun h' => yy B p1 p2 i3 i4 k10 (true) h' Q)) ∧ (¬ ((i4 : Int) < (0)) →
 ((i4 : Int) ≥ (6) →
 Fin B h12 (fun h' => yy B p1 p2 i3 i4 k10 (true) h' Q)) ∧ (¬ ((i4 : Int) ≥ (6)) →
 Fin B h12 (fun h' => yy B p1 p2 i3 i4 k10 (false) h' Q)))))))
def Vd (B : RO) (p1 : Option Addr) (p2 : Option Addr) (i3 : Int) (i4 : Int) (h : Heap) (Q : Bool → Heap → Prop) : Prop :=
 yL B p1 p2 (i3) h (fun b7 s8 b9 h6 =>
 ∀ k10 : Nat, h6 k10 = none → B k10 = none → ∀ h11 : Heap, h11 = Heap.set h6 k10 (.vec 119 (zc [(.bool false), (.string ByteArray.empty)]) 2) →
 ∃ h12 : Heap, zi ⟨k10, 0, none⟩ h11 0 [(.bool b7), (.string s8)] h12 ∧
 ∃ b13 : Bool, ∃ s14 : ByteArray, za B h12 ⟨k10, 0, none⟩ 0 [(.bool b13), (.string s14)] ∧
 X8 B (b13) s14 (i4) h12 (fun b16 s17 h15 =>
 yM B p1 p2 (i3) (b16) s17 h15 (fun b19 h18 =>
 Fin B h18 (Q (b19)))))
def Xq (B : RO) (p1 : Option Addr) (i2 : Int) (i3 : Int) (h6 : Heap) (Q : Int → Heap → Prop) : Prop :=
 ∃ A7 : Addr, p1 = some A7 ∧
 0 ≤ (i2 : Int) ∧ (i2 : Int) < (3 : Nat) ∧
 ∃ s9 : ByteArray, cellH B h6 (Addr.add A7 (Int.toNat (i2) * 1)) = some (.string s9) ∧
 0 ≤ (i3 : Int) ∧ (i3 : Int) < (ByteArray.size s9 : Nat) ∧
 Fin B h6 (Q (IntKind.wrap .i64 (x4 s9 (Int.toNat (i3)))))
def zaE (B : RO) (p1 : Option Addr) (i2 : Int) (i3 : Int) (h : Heap) (Q : Int → Heap → Prop) : Prop :=
 wI B p1 (i2) h (fun b11 h10 =>
 (b11 = true →
 ((i3 : Int) < (0) →
 Fin B h10 (Q ((-1)))) ∧ (¬ ((i3 : Int) < (0)) →
 ∃ A12 : Addr, p1 = some A12 ∧
 0 ≤ (i2 : Int) ∧ (i2 : Int) < (3 : Nat) ∧
 ∃ s14 : ByteArray, cellH B h10 (Addr.add A12 (Int.toNat (i2) * 1)) = some (.string s14) ∧
 ((i3 : Int) ≥ ((ByteArray.size s14 : Nat)) →
 Fin B h10 (Q ((-1)))) ∧ (¬ ((i3 : Int) ≥ ((ByteArray.size s14 : Nat))) →
 Fin B h10 (fun h' => Xq B p1 i2 i3 h' Q)))) ∧ (b11 = false →
 Fin B h10 (Q ((-1)))))
def Yp (B : RO) (p1 : Option Addr) (i2 : Int) (i3 : Int) (h6 : Heap) (Q : Int → Heap → Prop) : Prop :=
 ∃ A7 : Addr, p1 = some A7 ∧
 0 ≤ (i2 : Int) ∧ (i2 : Int) < (3 : Nat) ∧
 ∃ i9 : Int, cellH B h6 (Addr.add A7 (Int.toNat (i2) * 1)) = some (.int .i64 (i9)) ∧
 Fin B h6 (Q (IntKind.wrap .i64 ((i3) + (i9))))
def WR (B : RO) (p1 : Option Addr) (i2 : Int) (i3 : Int) (h : Heap) (Q : Int → Heap → Prop) : Prop :=
 (p1 = none →
 Fin B h (Q (i3))) ∧ (¬ (p1 = none) →
 Z4 B (i2) h (fun b12 h11 =>
 (b12 = true →
 Fin B h11 (fun h' => Yp B p1 i2 i3 h' Q)) ∧ (b12 = false →
 Fin B h11 (Q (i3)))))
def ZO (B : RO) (p1 : Option Addr) (i2 : Int) (h5 : Heap) (Q : Bool → Heap → Prop) : Prop :=
 ∃ A6 : Addr, p1 = some A6 ∧
 0 ≤ (i2 : Int) ∧ (i2 : Int) < (3 : Nat) ∧
 ∃ i8 : Int, cellH B h5 (Addr.add A6 (Int.toNat (i2) * 1)) = some (.int .i64 (i8)) ∧
 ∃ A9 : Addr, p1 = some A9 ∧
 0 ≤ (i2 : Int) ∧ (i2 : Int) < (3 : Nat) ∧
 ∃ h11 : Heap, ym h5 (Addr.add A9 (Int.toNat (i2) * 1)) (.int .i64 (IntKind.wrap .i64 ((i8) + (1)))) = some h11 ∧
 Fin B h11 (Q (true))
def Wd (B : RO) (p1 : Option Addr) (i2 : Int) (h : Heap) (Q : Bool → Heap → Prop) : Prop :=
 (p1 = none →
 Fin B h (Q (false))) ∧ (¬ (p1 = none) →
 Z4 B (i2) h (fun b14 h13 =>
 (b14 = true →
 ∃ A15 : Addr, p1 = some A15 ∧
 0 ≤ (i2 : Int) ∧ (i2 : Int) < (3 : Nat) ∧
 ∃ i17 : Int, cellH B h13 (Addr.add A15 (Int.toNat (i2) * 1)) = some (.int .i64 (i17)) ∧
 ((i17 : Int) ≥ (64) →
 Fin B h13 (Q (false))) ∧ (¬ ((i17 : Int) ≥ (64)) →
 Fin B h13 (fun h' => ZO B p1 i2 h' Q))) ∧ (b14 = false →
 Fin B h13 (Q (false)))))
def XQ (B : RO) (i1 : Int) (h : Heap) (Q : Bool → Heap → Prop) : Prop :=
 ((i1 : Int) ≥ (0) →
 Fin B h (Q ((decide ((i1 : Int) ≤ (5)))))) ∧ (¬ ((i1 : Int) ≥ (0)) →
 Fin B h (Q (false)))
def Yo (B : RO) (p1 : Option Addr) (i2 : Int) (b3 : Bool) (s4 : ByteArray) (h : Heap) (Q : Heap → Prop) : Prop :=
 ∀ k5 : Nat, h k5 = none → B k5 = none → ∀ h6 : Heap, h6 = Heap.set h k5 (.vec 51 (zc [(.bool b3), (.string s4)]) 2) →
 ∃ A7 : Addr, p1 = some A7 ∧
 0 ≤ (i2 : Int) ∧ (i2 : Int) < (6 : Nat) ∧
 ∃ b9 : Bool, ∃ s10 : ByteArray, za B h6 (Addr.add (Addr.add A7 12) (Int.toNat (i2) * 2)) 0 [(.bool b9), (.string s10)] ∧
 ∃ b11 : Bool, ∃ s12 : ByteArray, za B h6 ⟨k5, 0, none⟩ 0 [(.bool b11), (.string s12)] ∧
 (eqL [(.bool b9), (.string s10)] [(.bool b11), (.string s12)] = true →
 Fin B h6 (Q)) ∧ (¬ (eqL [(.bool b9), (.string s10)] [(.bool b11), (.string s12)] = true) →
 ∃ b14 : Bool, ∃ s15 : ByteArray, za B h6 ⟨k5, 0, none⟩ 0 [(.bool b14), (.string s15)] ∧
 ∃ A16 : Addr, p1 = some A16 ∧
 0 ≤ (i2 : Int) ∧ (i2 : Int) < (6 : Nat) ∧
 ∃ h18 : Heap, zi (Addr.add (Addr.add A16 12) (Int.toNat (i2) * 2)) h6 0 [(.bool b14), (.string s15)] h18 ∧
 ∃ A19 : Addr, p1 = some A19 ∧
 0 ≤ (i2 : Int) ∧ (i2 : Int) < (6 : Nat) ∧
 ∃ h21 : Heap, ym h18 (Addr.add (Addr.add A19 24) (Int.toNat (i2) * 1)) (.bool true) = some h21 ∧
 Fin B h21 (Q))
def x1 (B : RO) (i3 : Int) (i4 : Int) (k7 : Nat) (k9 : Nat) (s13 : ByteArray) (i14 : Int) (m16 : Nat) (J19 : ByteArray → Int → Nat → Heap → Prop) (i27 : Int) (h28 : Heap) (Q : Bool → ByteArray → Heap → Prop) : Prop :=
 ∀ k29 : Nat, h28 k29 = none → B k29 = none → ∀ h30 : Heap, h30 = Heap.set h28 k29 (.vec 5 (zc [(.int .u8 (IntKind.wrap .u8 (i27)))]) 1) →
 semH PG B (convert 226 9 (.slice (some ⟨k29, 0, none⟩) 1 1)) h30 (fun v h32 => ∃ s31 : ByteArray, v = (.string s31) ∧
 ByteArray.size s13 + ByteArray.size s31 ≤ 4611686018427387904 ∧
 Fin B h32 (fun h' => ∃ m', m' < m16 ∧ J19 (s13 ++ s31) (IntKind.wrap .i64 ((i14) + (1))) m' h'))
def xZ (B : RO) (i3 : Int) (i4 : Int) (k7 : Nat) (k9 : Nat) (s13 : ByteArray) (i14 : Int) (m16 : Nat) (J19 : ByteArray → Int → Nat → Heap → Prop) (h21 : Heap) (Q : Bool → ByteArray → Heap → Prop) : Prop :=
 ∃ b22 : Bool, ∃ s23 : ByteArray, za B h21 ⟨k7, 0, none⟩ 0 [(.bool b22), (.string s23)] ∧
 yR B (b22) s23 (i14) h21 (fun i25 h24 =>
 ((i14 : Int) = i3 →
 Fin B h24 (fun h' => x1 B i3 i4 k7 k9 s13 i14 m16 J19 (IntKind.wrap .i64 (i4)) h' Q)) ∧ (¬ ((i14 : Int) = i3) →
 Fin B h24 (fun h' => x1 B i3 i4 k7 k9 s13 i14 m16 J19 (if (0 : Int) > (i25) then (0 : Int) else (i25)) h' Q)))
def vY (B : RO) (i3 : Int) (i4 : Int) (k7 : Nat) (k9 : Nat) (h12 : Heap) (Q : Bool → ByteArray → Heap → Prop) : Prop :=
 ∃ (J19 : ByteArray → Int → Nat → Heap → Prop) (m17 : Nat), Fin B h12 (J19 (ByteArray.mk #[]) (0) m17) ∧
 ∀ (s13 : ByteArray) (i14 : Int) (m16 : Nat) (h15 : Heap), J19 s13 i14 m16 h15 →
 ∃ s33 : ByteArray, cellH B h15 ⟨k7, 1, none⟩ = some (.string s33) ∧
 ((i14 : Int) < ((ByteArray.size s33 : Nat)) →
 Fin B h15 (fun h' => xZ B i3 i4 k7 k9 s13 i14 m16 J19 h' Q)) ∧ (¬ ((i14 : Int) < ((ByteArray.size s33 : Nat))) →
 ((i14 : Int) ≤ (i3) →
 Fin B h15 (fun h' => xZ B i3 i4 k7 k9 s13 i14 m16 J19 h' Q)) ∧ (¬ ((i14 : Int) ≤ (i3)) →
 ∃ h34 : Heap, zi ⟨k9, 0, none⟩ h15 0 [(.bool true), (.string s13)] h34 ∧
 ∃ b35 : Bool, ∃ s36 : ByteArray, za B h34 ⟨k9, 0, none⟩ 0 [(.bool b35), (.string s36)] ∧ Fin B h34 (Q (b35) s36)))
def XD (B : RO) (b1 : Bool) (s2 : ByteArray) (i3 : Int) (i4 : Int) (h : Heap) (Q : Bool → ByteArray → Heap → Prop) : Prop :=
 ∀ k7 : Nat, h k7 = none → B k7 = none → ∀ h8 : Heap, h8 = Heap.set h k7 (.vec 51 (zc [(.bool b1), (.string s2)]) 2) →
 ∀ k9 : Nat, h8 k9 = none → B k9 = none → ∀ h10 : Heap, h10 = Heap.set h8 k9 (.vec 51 (zc [(.bool false), (.string ByteArray.empty)]) 2) →
 ((i3 : Int) < (0) →
 ∃ b37 : Bool, ∃ s38 : ByteArray, za B h10 ⟨k7, 0, none⟩ 0 [(.bool b37), (.string s38)] ∧
 ∃ h39 : Heap, zi ⟨k9, 0, none⟩ h10 0 [(.bool b37), (.string s38)] h39 ∧
 ∃ b40 : Bool, ∃ s41 : ByteArray, za B h39 ⟨k9, 0, none⟩ 0 [(.bool b40), (.string s41)] ∧ Fin B h39 (Q (b40) s41)) ∧ (¬ ((i3 : Int) < (0)) →
 ((i3 : Int) > (31) →
 ∃ b42 : Bool, ∃ s43 : ByteArray, za B h10 ⟨k7, 0, none⟩ 0 [(.bool b42), (.string s43)] ∧
 ∃ h44 : Heap, zi ⟨k9, 0, none⟩ h10 0 [(.bool b42), (.string s43)] h44 ∧
 ∃ b45 : Bool, ∃ s46 : ByteArray, za B h44 ⟨k9, 0, none⟩ 0 [(.bool b45), (.string s46)] ∧ Fin B h44 (Q (b45) s46)) ∧ (¬ ((i3 : Int) > (31)) →
 Fin B h10 (fun h' => vY B i3 i4 k7 k9 h' Q)))
def vX (B : RO) (i3 : Int) (k6 : Nat) (k8 : Nat) (h11 : Heap) (Q : Bool → ByteArray → Heap → Prop) : Prop :=
 ∃ (J18 : ByteArray → Int → Nat → Heap → Prop) (m16 : Nat), Fin B h11 (J18 (ByteArray.mk #[]) (0) m16) ∧
 ∀ (s12 : ByteArray) (i13 : Int) (m15 : Nat) (h14 : Heap), J18 s12 i13 m15 h14 →
 ((i13 : Int) < (i3) →
 ∃ b19 : Bool, ∃ s20 : ByteArray, za B h14 ⟨k6, 0, none⟩ 0 [(.bool b19), (.string s20)] ∧
 yR B (b19) s20 (i13) h14 (fun i22 h21 =>
 ∀ k23 : Nat, h21 k23 = none → B k23 = none → ∀ h24 : Heap, h24 = Heap.set h21 k23 (.vec 5 (zc [(.int .u8 (IntKind.wrap .u8 (if (0 : Int) > (i22) then (0 : Int) else (i22))))]) 1) →
 semH PG B (convert 226 9 (.slice (some ⟨k23, 0, none⟩) 1 1)) h24 (fun v h26 => ∃ s25 : ByteArray, v = (.string s25) ∧
 ByteArray.size s12 + ByteArray.size s25 ≤ 4611686018427387904 ∧
 Fin B h26 (fun h' => ∃ m', m' < m15 ∧ J18 (s12 ++ s25) (IntKind.wrap .i64 ((i13) + (1))) m' h')))) ∧ (¬ ((i13 : Int) < (i3)) →
 ∃ h27 : Heap, zi ⟨k8, 0, none⟩ h14 0 [(.bool true), (.string s12)] h27 ∧
 ∃ b28 : Bool, ∃ s29 : ByteArray, za B h27 ⟨k8, 0, none⟩ 0 [(.bool b28), (.string s29)] ∧ Fin B h27 (Q (b28) s29))
def XC (B : RO) (b1 : Bool) (s2 : ByteArray) (i3 : Int) (h : Heap) (Q : Bool → ByteArray → Heap → Prop) : Prop :=
 ∀ k6 : Nat, h k6 = none → B k6 = none → ∀ h7 : Heap, h7 = Heap.set h k6 (.vec 51 (zc [(.bool b1), (.string s2)]) 2) →
 ∀ k8 : Nat, h7 k8 = none → B k8 = none → ∀ h9 : Heap, h9 = Heap.set h7 k8 (.vec 51 (zc [(.bool false), (.string ByteArray.empty)]) 2) →
 ∃ b30 : Bool, cellH B h9 ⟨k6, 0, none⟩ = some (.bool b30) ∧ (b30 = true →
 ((i3 : Int) < (0) →
 ∃ b36 : Bool, ∃ s37 : ByteArray, za B h9 ⟨k6, 0, none⟩ 0 [(.bool b36), (.string s37)] ∧
 ∃ h38 : Heap, zi ⟨k8, 0, none⟩ h9 0 [(.bool b36), (.string s37)] h38 ∧
 ∃ b39 : Bool, ∃ s40 : ByteArray, za B h38 ⟨k8, 0, none⟩ 0 [(.bool b39), (.string s40)] ∧ Fin B h38 (Q (b39) s40)) ∧ (¬ ((i3 : Int) < (0)) →
 ((i3 : Int) > (32) →
 ∃ b41 : Bool, ∃ s42 : ByteArray, za B h9 ⟨k6, 0, none⟩ 0 [(.bool b41), (.string s42)] ∧
 ∃ h43 : Heap, zi ⟨k8, 0, none⟩ h9 0 [(.bool b41), (.string s42)] h43 ∧
 ∃ b44 : Bool, ∃ s45 : ByteArray, za B h43 ⟨k8, 0, none⟩ 0 [(.bool b44), (.string s45)] ∧ Fin B h43 (Q (b44) s45)) ∧ (¬ ((i3 : Int) > (32)) →
 Fin B h9 (fun h' => vX B i3 k6 k8 h' Q)))) ∧ (b30 = false →
 ∃ b31 : Bool, ∃ s32 : ByteArray, za B h9 ⟨k6, 0, none⟩ 0 [(.bool b31), (.string s32)] ∧
 ∃ h33 : Heap, zi ⟨k8, 0, none⟩ h9 0 [(.bool b31), (.string s32)] h33 ∧
 ∃ b34 : Bool, ∃ s35 : ByteArray, za B h33 ⟨k8, 0, none⟩ 0 [(.bool b34), (.string s35)] ∧ Fin B h33 (Q (b34) s35))
def y0 (B : RO) (a1 : Option Addr) (n2 : Nat) (c3 : Nat) (i4 : Int) (a5 : Option Addr) (n6 : Nat) (c7 : Nat) (h : Heap) (Q : Option Addr → Nat → Nat → Heap → Prop) : Prop :=
 0 ≤ (i4 : Int) ∧ (i4 : Int) ≤ ((n2 : Nat) : Int) ∧ ((n2 : Nat) : Int) ≤ (c3 : Nat) ∧
 (((n6 : Nat) : Int) = 0 →
 Fin B h (Q a1 n2 c3)) ∧ (¬ (((n6 : Nat) : Int) = 0) →
 ((i4 : Int) = (n2 : Nat) →
 semH PG B (Builtin.append_ #[164, 164] 164 #[(.slice a1 n2 c3), (.slice a5 n6 c7)]) h (fun v h11 => ∃ a12 : Option Addr, ∃ n13 : Nat, ∃ c14 : Nat, v = (.slice a12 n13 c14) ∧
 Fin B h11 (Q a12 n13 c14))) ∧ (¬ ((i4 : Int) = (n2 : Nat)) →
 ((IntKind.wrap .i64 (((n2 : Nat)) + ((n6 : Nat))) : Int) > ((c3 : Nat)) →
 0 ≤ (0 : Int) ∧ (0 : Int) ≤ (i4 : Int) ∧ (i4 : Int) ≤ (c3 : Nat) ∧
 semH PG B (Builtin.append_ #[164, 3] 164 #[(.slice (if c3 = Int.toNat (0) then a1 else Option.map (·.add (Int.toNat (0) * 2)) a1) (Int.toNat (i4) - Int.toNat (0)) (c3 - Int.toNat (0))), (.int .i64 (IntKind.wrap .i64 ((IntKind.wrap .i64 (((n2 : Nat)) + ((n6 : Nat)))) - (i4))))]) h (fun v h15 => ∃ a16 : Option Addr, ∃ n17 : Nat, ∃ c18 : Nat, v = (.slice a16 n17 c18) ∧
 0 ≤ (i4 : Int) ∧ (i4 : Int) ≤ ((n17 : Nat) : Int) ∧ ((n17 : Nat) : Int) ≤ (c18 : Nat) ∧
 semH PG B (Builtin.copy_ #[164, 164] 3 #[(.slice (if c18 = Int.toNat (i4) then a16 else Option.map (·.add (Int.toNat (i4) * 2)) a16) (Int.toNat ((n17 : Nat)) - Int.toNat (i4)) (c18 - Int.toNat (i4))), (.slice a5 n6 c7)]) h15 (fun v h19 => ∃ i20 : Int, v = (.int .i64 (i20)) ∧
 0 ≤ (IntKind.wrap .i64 ((i4) + ((n6 : Nat))) : Int) ∧ (IntKind.wrap .i64 ((i4) + ((n6 : Nat))) : Int) ≤ ((n17 : Nat) : Int) ∧ ((n17 : Nat) : Int) ≤ (c18 : Nat) ∧
 0 ≤ (i4 : Int) ∧ (i4 : Int) ≤ ((n2 : Nat) : Int) ∧ ((n2 : Nat) : Int) ≤ (c3 : Nat) ∧
 semH PG B (Builtin.copy_ #[164, 164] 3 #[(.slice (if c18 = Int.toNat (IntKind.wrap .i64 ((i4) + ((n6 : Nat)))) then a16 else Option.map (·.add (Int.toNat (IntKind.wrap .i64 ((i4) + ((n6 : Nat)))) * 2)) a16) (Int.toNat ((n17 : Nat)) - Int.toNat (IntKind.wrap .i64 ((i4) + ((n6 : Nat))))) (c18 - Int.toNat (IntKind.wrap .i64 ((i4) + ((n6 : Nat)))))), (.slice (if c3 = Int.toNat (i4) then a1 else Option.map (·.add (Int.toNat (i4) * 2)) a1) (Int.toNat ((n2 : Nat)) - Int.toNat (i4)) (c3 - Int.toNat (i4)))]) h19 (fun v h21 => ∃ i22 : Int, v = (.int .i64 (i22)) ∧
 Fin B h21 (Q a16 n17 c18))))) ∧ (¬ ((IntKind.wrap .i64 (((n2 : Nat)) + ((n6 : Nat))) : Int) > ((c3 : Nat))) →
 0 ≤ (0 : Int) ∧ (0 : Int) ≤ (IntKind.wrap .i64 (((n2 : Nat)) + ((n6 : Nat))) : Int) ∧ (IntKind.wrap .i64 (((n2 : Nat)) + ((n6 : Nat))) : Int) ≤ (c3 : Nat) ∧
 0 ≤ (IntKind.wrap .i64 ((i4) + ((n6 : Nat))) : Int) ∧ (IntKind.wrap .i64 ((i4) + ((n6 : Nat))) : Int) ≤ (((Int.toNat (IntKind.wrap .i64 (((n2 : Nat)) + ((n6 : Nat)))) - Int.toNat (0)) : Nat) : Int) ∧ (((Int.toNat (IntKind.wrap .i64 (((n2 : Nat)) + ((n6 : Nat)))) - Int.toNat (0)) : Nat) : Int) ≤ ((c3 - Int.toNat (0)) : Nat) ∧
 semH PG B (Extern.SlicesOverlaps.overlaps #[164, 164] #[4] #[(.slice a5 n6 c7), (.slice (if (c3 - Int.toNat (0)) = Int.toNat (IntKind.wrap .i64 ((i4) + ((n6 : Nat)))) then (if c3 = Int.toNat (0) then a1 else Option.map (·.add (Int.toNat (0) * 2)) a1) else Option.map (·.add (Int.toNat (IntKind.wrap .i64 ((i4) + ((n6 : Nat)))) * 2)) (if c3 = Int.toNat (0) then a1 else Option.map (·.add (Int.toNat (0) * 2)) a1)) (Int.toNat (((Int.toNat (IntKind.wrap .i64 (((n2 : Nat)) + ((n6 : Nat)))) - Int.toNat (0)) : Nat)) - Int.toNat (IntKind.wrap .i64 ((i4) + ((n6 : Nat))))) ((c3 - Int.toNat (0)) - Int.toNat (IntKind.wrap .i64 ((i4) + ((n6 : Nat))))))]) h (fun v h23 => ∃ b24 : Bool, v = (.bool b24) ∧
 (b24 = true →
 0 ≤ ((n2 : Nat) : Int) ∧ ((n2 : Nat) : Int) ≤ (((Int.toNat (IntKind.wrap .i64 (((n2 : Nat)) + ((n6 : Nat)))) - Int.toNat (0)) : Nat) : Int) ∧ (((Int.toNat (IntKind.wrap .i64 (((n2 : Nat)) + ((n6 : Nat)))) - Int.toNat (0)) : Nat) : Int) ≤ ((c3 - Int.toNat (0)) : Nat) ∧
 semH PG B (Builtin.copy_ #[164, 164] 3 #[(.slice (if (c3 - Int.toNat (0)) = Int.toNat ((n2 : Nat)) then (if c3 = Int.toNat (0) then a1 else Option.map (·.add (Int.toNat (0) * 2)) a1) else Option.map (·.add (Int.toNat ((n2 : Nat)) * 2)) (if c3 = Int.toNat (0) then a1 else Option.map (·.add (Int.toNat (0) * 2)) a1)) (Int.toNat (((Int.toNat (IntKind.wrap .i64 (((n2 : Nat)) + ((n6 : Nat)))) - Int.toNat (0)) : Nat)) - Int.toNat ((n2 : Nat))) ((c3 - Int.toNat (0)) - Int.toNat ((n2 : Nat)))), (.slice a5 n6 c7)]) h23 (fun v h29 => ∃ i30 : Int, v = (.int .i64 (i30)) ∧
 0 ≤ (i4 : Int) ∧ (i4 : Int) ≤ (((Int.toNat (IntKind.wrap .i64 (((n2 : Nat)) + ((n6 : Nat)))) - Int.toNat (0)) : Nat) : Int) ∧ (((Int.toNat (IntKind.wrap .i64 (((n2 : Nat)) + ((n6 : Nat)))) - Int.toNat (0)) : Nat) : Int) ≤ ((c3 - Int.toNat (0)) : Nat) ∧
 vE B (if (c3 - Int.toNat (0)) = Int.toNat (i4) then (if c3 = Int.toNat (0) then a1 else Option.map (·.add (Int.toNat (0) * 2)) a1) else Option.map (·.add (Int.toNat (i4) * 2)) (if c3 = Int.toNat (0) then a1 else Option.map (·.add (Int.toNat (0) * 2)) a1)) (Int.toNat (((Int.toNat (IntKind.wrap .i64 (((n2 : Nat)) + ((n6 : Nat)))) - Int.toNat (0)) : Nat)) - Int.toNat (i4)) ((c3 - Int.toNat (0)) - Int.toNat (i4)) ((n6 : Nat)) h29 (fun h31 =>
 Fin B h31 (Q (if c3 = Int.toNat (0) then a1 else Option.map (·.add (Int.toNat (0) * 2)) a1) (Int.toNat (IntKind.wrap .i64 (((n2 : Nat)) + ((n6 : Nat)))) - Int.toNat (0)) (c3 - Int.toNat (0)))))) ∧ (b24 = false →
 0 ≤ (IntKind.wrap .i64 ((i4) + ((n6 : Nat))) : Int) ∧ (IntKind.wrap .i64 ((i4) + ((n6 : Nat))) : Int) ≤ (((Int.toNat (IntKind.wrap .i64 (((n2 : Nat)) + ((n6 : Nat)))) - Int.toNat (0)) : Nat) : Int) ∧ (((Int.toNat (IntKind.wrap .i64 (((n2 : Nat)) + ((n6 : Nat)))) - Int.toNat (0)) : Nat) : Int) ≤ ((c3 - Int.toNat (0)) : Nat) ∧
 0 ≤ (i4 : Int) ∧ (i4 : Int) ≤ (((Int.toNat (IntKind.wrap .i64 (((n2 : Nat)) + ((n6 : Nat)))) - Int.toNat (0)) : Nat) : Int) ∧ (((Int.toNat (IntKind.wrap .i64 (((n2 : Nat)) + ((n6 : Nat)))) - Int.toNat (0)) : Nat) : Int) ≤ ((c3 - Int.toNat (0)) : Nat) ∧
 semH PG B (Builtin.copy_ #[164, 164] 3 #[(.slice (if (c3 - Int.toNat (0)) = Int.toNat (IntKind.wrap .i64 ((i4) + ((n6 : Nat)))) then (if c3 = Int.toNat (0) then a1 else Option.map (·.add (Int.toNat (0) * 2)) a1) else Option.map (·.add (Int.toNat (IntKind.wrap .i64 ((i4) + ((n6 : Nat)))) * 2)) (if c3 = Int.toNat (0) then a1 else Option.map (·.add (Int.toNat (0) * 2)) a1)) (Int.toNat (((Int.toNat (IntKind.wrap .i64 (((n2 : Nat)) + ((n6 : Nat)))) - Int.toNat (0)) : Nat)) - Int.toNat (IntKind.wrap .i64 ((i4) + ((n6 : Nat))))) ((c3 - Int.toNat (0)) - Int.toNat (IntKind.wrap .i64 ((i4) + ((n6 : Nat)))))), (.slice (if (c3 - Int.toNat (0)) = Int.toNat (i4) then (if c3 = Int.toNat (0) then a1 else Option.map (·.add (Int.toNat (0) * 2)) a1) else Option.map (·.add (Int.toNat (i4) * 2)) (if c3 = Int.toNat (0) then a1 else Option.map (·.add (Int.toNat (0) * 2)) a1)) (Int.toNat (((Int.toNat (IntKind.wrap .i64 (((n2 : Nat)) + ((n6 : Nat)))) - Int.toNat (0)) : Nat)) - Int.toNat (i4)) ((c3 - Int.toNat (0)) - Int.toNat (i4)))]) h23 (fun v h25 => ∃ i26 : Int, v = (.int .i64 (i26)) ∧
 0 ≤ (i4 : Int) ∧ (i4 : Int) ≤ (((Int.toNat (IntKind.wrap .i64 (((n2 : Nat)) + ((n6 : Nat)))) - Int.toNat (0)) : Nat) : Int) ∧ (((Int.toNat (IntKind.wrap .i64 (((n2 : Nat)) + ((n6 : Nat)))) - Int.toNat (0)) : Nat) : Int) ≤ ((c3 - Int.toNat (0)) : Nat) ∧
 semH PG B (Builtin.copy_ #[164, 164] 3 #[(.slice (if (c3 - Int.toNat (0)) = Int.toNat (i4) then (if c3 = Int.toNat (0) then a1 else Option.map (·.add (Int.toNat (0) * 2)) a1) else Option.map (·.add (Int.toNat (i4) * 2)) (if c3 = Int.toNat (0) then a1 else Option.map (·.add (Int.toNat (0) * 2)) a1)) (Int.toNat (((Int.toNat (IntKind.wrap .i64 (((n2 : Nat)) + ((n6 : Nat)))) - Int.toNat (0)) : Nat)) - Int.toNat (i4)) ((c3 - Int.toNat (0)) - Int.toNat (i4))), (.slice a5 n6 c7)]) h25 (fun v h27 => ∃ i28 : Int, v = (.int .i64 (i28)) ∧
 Fin B h27 (Q (if c3 = Int.toNat (0) then a1 else Option.map (·.add (Int.toNat (0) * 2)) a1) (Int.toNat (IntKind.wrap .i64 (((n2 : Nat)) + ((n6 : Nat)))) - Int.toNat (0)) (c3 - Int.toNat (0))))))))))
def Wb (B : RO) (i1 : Int) (b2 : Bool) (s3 : ByteArray) (h : Heap) (Q : Option Addr → Heap → Prop) : Prop :=
 ∀ k5 : Nat, h k5 = none → B k5 = none → ∀ h6 : Heap, h6 = Heap.set h k5 (.vec 119 (zc [(.bool b2), (.string s3)]) 2) →
 ∀ k7 : Nat, h6 k7 = none → B k7 = none → ∀ h8 : Heap, h8 = Heap.set h6 k7 (.vec 219 (zc [(.slice none 0 0)]) 1) →
 ∃ (J14 : Int → Nat → Heap → Prop) (m12 : Nat), Fin B h8 (J14 (0) m12) ∧
 ∀ (i9 : Int) (m11 : Nat) (h10 : Heap), J14 i9 m11 h10 →
 ((i9 : Int) < (i1) →
 ∃ a19 : Option Addr, ∃ n20 : Nat, ∃ c21 : Nat, cellH B h10 ⟨k7, 0, none⟩ = some (.slice a19 n20 c21) ∧
 ∃ b23 : Bool, ∃ s24 : ByteArray, za B h10 ⟨k5, 0, none⟩ 0 [(.bool b23), (.string s24)] ∧
 ∀ k27 : Nat, h10 k27 = none → B k27 = none → ∀ h28 : Heap, h28 = Heap.set h10 k27 (.vec 216 (zc [(.bool b23), (.string s24), (.int .i64 (0))]) 3) →
 cellH B h28 ⟨k7, 0, none⟩ = some (.slice a19 n20 c21) ∧ za B h28 ⟨k5, 0, none⟩ 0 [(.bool b23), (.string s24)] ∧
 semH PG B (Builtin.append_ #[217, 217] 217 #[(.slice a19 n20 c21), (.slice (some ⟨k27, 0, none⟩) 1 1)]) h28 (fun v h31 => ∃ a32 : Option Addr, ∃ n33 : Nat, ∃ c34 : Nat, v = (.slice a32 n33 c34) ∧
 cellH B h31 ⟨k7, 0, none⟩ = some (.slice a19 n20 c21) ∧ za B h31 ⟨k5, 0, none⟩ 0 [(.bool b23), (.string s24)] ∧
 ∃ h37 : Heap, ym h31 ⟨k7, 0, none⟩ (.slice a32 n33 c34) = some h37 ∧
 Fin B h37 (fun h' => ∃ m', m' < m11 ∧ J14 (IntKind.wrap .i64 ((i9) + (1))) m' h'))) ∧ (¬ ((i9 : Int) < (i1)) →
 Fin B h10 (Q (some ⟨k7, 0, none⟩)))
def zcl (B : RO) (h : Heap) (Q : Option Addr → Heap → Prop) : Prop :=
 ∀ k2 : Nat, h k2 = none → B k2 = none → ∀ h3 : Heap, h3 = Heap.set h k2 (.vec 207 (zc [(.slice none 0 0)]) 1) →
 ∀ k4 : Nat, h3 k4 = none → B k4 = none → ∀ h5 : Heap, h5 = Heap.set h3 k4 (.vec 204 (zc [(.pointer (some ⟨k2, 0, none⟩))]) 1) →
 Fin B h5 (Q (some ⟨k4, 0, none⟩))
def yu (B : RO) (a1 : Option Addr) (n2 : Nat) (c3 : Nat) (i4 : Int) (v5 : Value) (i9 : Int) (h10 : Heap) (Q : Int → Bool → Heap → Prop) : Prop :=
 ((i9 : Int) < ((n2 : Nat)) →
 ∃ A11 : Addr, a1 = some A11 ∧ 0 ≤ (i9 : Int) ∧ (i9 : Int) < (n2 : Nat) ∧
 ∃ i13 : Int, ∃ i14 : Int, za B h10 (Addr.add A11 (Int.toNat (i9) * 2)) 0 [(.int .i64 (i13)), (.int .i64 (i14))] ∧
 CallV PG B v5 [(.agg #[(.int .i64 (i13)), (.int .i64 (i14))]), (.int .i64 (i4))] h10 (fun v h15 => ∃ i16 : Int, v = (.int .i64 (i16)) ∧
 Fin B h15 (Q (i9) (((i16 : Int) == (0)))))) ∧ (¬ ((i9 : Int) < ((n2 : Nat))) →
 Fin B h10 (Q (i9) (false)))
def y8 (B : RO) (a1 : Option Addr) (n2 : Nat) (c3 : Nat) (i4 : Int) (v5 : Value) (h : Heap) (Q : Int → Bool → Heap → Prop) : Prop :=
 ∃ (J23 : Int → Int → Nat → Heap → Prop) (m21 : Nat), Fin B h (J23 (0) ((n2 : Nat)) m21) ∧
 ∀ (i17 : Int) (i18 : Int) (m20 : Nat) (h19 : Heap), J23 i17 i18 m20 h19 →
 ((i17 : Int) < (i18) →
 ¬ ((1 : Int) < 0) ∧
 ∃ A24 : Addr, a1 = some A24 ∧ 0 ≤ (IntKind.wrap .i64 (Int.fdiv (IntKind.wrap .u64 (IntKind.wrap .i64 ((i17) + (i18)))) (2 ^ (min (Int.toNat (1)) (IntKind.bits .u64)))) : Int) ∧ (IntKind.wrap .i64 (Int.fdiv (IntKind.wrap .u64 (IntKind.wrap .i64 ((i17) + (i18)))) (2 ^ (min (Int.toNat (1)) (IntKind.bits .u64)))) : Int) < (n2 : Nat) ∧
 ∃ i26 : Int, ∃ i27 : Int, za B h19 (Addr.add A24 (Int.toNat (IntKind.wrap .i64 (Int.fdiv (IntKind.wrap .u64 (IntKind.wrap .i64 ((i17) + (i18)))) (2 ^ (min (Int.toNat (1)) (IntKind.bits .u64))))) * 2)) 0 [(.int .i64 (i26)), (.int .i64 (i27))] ∧
 CallV PG B v5 [(.agg #[(.int .i64 (i26)), (.int .i64 (i27))]), (.int .i64 (i4))] h19 (fun v h28 => ∃ i29 : Int, v = (.int .i64 (i29)) ∧
 ((i29 : Int) < (0) →
 Fin B h28 (fun h' => ∃ m', m' < m20 ∧ J23 (IntKind.wrap .i64 ((IntKind.wrap .i64 (Int.fdiv (IntKind.wrap .u64 (IntKind.wrap .i64 ((i17) + (i18)))) (2 ^ (min (Int.toNat (1)) (IntKind.bits .u64))))) + (1))) (i18) m' h')) ∧ (¬ ((i29 : Int) < (0)) →
 Fin B h28 (fun h' => ∃ m', m' < m20 ∧ J23 (i17) (IntKind.wrap .i64 (Int.fdiv (IntKind.wrap .u64 (IntKind.wrap .i64 ((i17) + (i18)))) (2 ^ (min (Int.toNat (1)) (IntKind.bits .u64))))) m' h')))) ∧ (¬ ((i17 : Int) < (i18)) →
 Fin B h19 (fun h' => yu B a1 n2 c3 i4 v5 (i17) h' Q))
def zaD (B : RO) (i1 : Int) (i2 : Int) (i3 : Int) (h : Heap) (Q : Int → Heap → Prop) : Prop :=
 ∀ k5 : Nat, h k5 = none → B k5 = none → ∀ h6 : Heap, h6 = Heap.set h k5 (.vec 163 (zc [(.int .i64 (i1)), (.int .i64 (i2))]) 2) →
 ∃ i7 : Int, cellH B h6 ⟨k5, 0, none⟩ = some (.int .i64 (i7)) ∧
 ((i7 : Int) < (i3) →
 Fin B h6 (Q ((-1)))) ∧ (¬ ((i7 : Int) < (i3)) →
 ∃ i8 : Int, cellH B h6 ⟨k5, 0, none⟩ = some (.int .i64 (i8)) ∧
 ((i8 : Int) > (i3) →
 Fin B h6 (Q (1))) ∧ (¬ ((i8 : Int) > (i3)) →
 Fin B h6 (Q (0))))
def Vc (B : RO) (p1 : Option Addr) (i2 : Int) (i3 : Int) (h : Heap) (Q : Int → Heap → Prop) : Prop :=
 ∀ k5 : Nat, h k5 = none → B k5 = none → ∀ h6 : Heap, h6 = Heap.set h k5 (.vec 110 [.plain (.int .i64 (i2))] 1) →
 ∀ k7 : Nat, h6 k7 = none → B k7 = none → ∀ h8 : Heap, h8 = Heap.set h6 k7 (.vec 3 [.plain (.int .i64 (i3))] 1) →
 ∃ A9 : Addr, p1 = some A9 ∧
 LdSl B h8 A9 fun a11 n12 c13 h14 =>
 yN B a11 n12 c13 (Value.func (.func 133) #[] #[(.pointer (some ⟨k5, 0, none⟩)), (.pointer (some ⟨k7, 0, none⟩))]) h14 (fun i16 h15 =>
 Fin B h15 (Q (i16)))
def Yf (B : RO) (v1 : Value) (A2 : Addr) (h : Heap) (Q : Heap → Prop) : Prop :=
 ∃ p3 : Option Addr, cellH B h A2 = some (.pointer p3) ∧
 (p3 = none →
 Fin B h (Q)) ∧ (¬ (p3 = none) →
 ∃ p5 : Option Addr, cellH B h A2 = some (.pointer p5) ∧
 ∃ A6 : Addr, p5 = some A6 ∧
 LdSl B h A6 fun a8 n9 c10 h11 =>
 ∃ (J17 : Int → Nat → Heap → Prop) (m15 : Nat), Fin B h11 (J17 (0) m15) ∧
 ∀ (i12 : Int) (m14 : Nat) (h13 : Heap), J17 i12 m14 h13 →
 ((i12 : Int) < ((n9 : Nat)) →
 ∃ A18 : Addr, a8 = some A18 ∧ 0 ≤ (i12 : Int) ∧ (i12 : Int) < (n9 : Nat) ∧
 ∃ i20 : Int, ∃ b21 : Bool, ∃ s22 : ByteArray, za B h13 (Addr.add A18 (Int.toNat (i12) * 3)) 0 [(.int .i64 (i20)), (.bool b21), (.string s22)] ∧
 ∀ k23 : Nat, h13 k23 = none → B k23 = none → ∀ h24 : Heap, h24 = Heap.set h13 k23 (.vec 213 (zc [(.int .i64 (0)), (.bool false), (.string ByteArray.empty)]) 3) →
 ∃ h25 : Heap, zi ⟨k23, 0, none⟩ h24 0 [(.int .i64 (i20)), (.bool b21), (.string s22)] h25 ∧
 ∃ i26 : Int, cellH B h25 ⟨k23, 0, none⟩ = some (.int .i64 (i26)) ∧
 ∃ b27 : Bool, ∃ s28 : ByteArray, za B h25 ⟨k23, 1, none⟩ 0 [(.bool b27), (.string s28)] ∧
 CallV PG B v1 [(.int .i64 (i26)), (.agg #[(.bool b27), (.string s28)])] h25 (fun v h29 => ∃ b30 : Bool, v = (.bool b30) ∧
 (b30 = true →
 Fin B h29 (fun h' => ∃ m', m' < m14 ∧ J17 (IntKind.wrap .i64 ((i12) + (1))) m' h')) ∧ (b30 = false →
 Fin B h29 (Q)))) ∧ (¬ ((i12 : Int) < ((n9 : Nat))) →
 Fin B h13 (Q)))
def zci (B : RO) (b1 : Bool) (s2 : ByteArray) (h : Heap) (Q : Bool → Heap → Prop) : Prop :=
 ∀ k4 : Nat, h k4 = none → B k4 = none → ∀ h5 : Heap, h5 = Heap.set h k4 (.vec 119 (zc [(.bool b1), (.string s2)]) 2) →
 ∃ s6 : ByteArray, cellH B h5 ⟨k4, 1, none⟩ = some (.string s6) ∧
 (((ByteArray.size s6 : Nat) : Int) ≤ (32) →
 ∃ b7 : Bool, cellH B h5 ⟨k4, 0, none⟩ = some (.bool b7) ∧ (b7 = true →
 Fin B h5 (Q (true))) ∧ (b7 = false →
 ∃ s8 : ByteArray, cellH B h5 ⟨k4, 1, none⟩ = some (.string s8) ∧
 Fin B h5 (Q ((decide (s8 = (ByteArray.mk #[]))))))) ∧ (¬ (((ByteArray.size s6 : Nat) : Int) ≤ (32)) →
 Fin B h5 (Q (false)))
def YX (B : RO) (p1 : Option Addr) (i2 : Int) (b3 : Bool) (s4 : ByteArray) (i5 : Int) (h : Heap) (Q : Bool → Heap → Prop) : Prop :=
 ∀ k7 : Nat, h k7 = none → B k7 = none → ∀ h8 : Heap, h8 = Heap.set h k7 (.vec 119 (zc [(.bool b3), (.string s4)]) 2) →
 xM B p1 (i2) h8 (fun b10 h9 =>
 (b10 = true →
 ∃ A11 : Addr, p1 = some A11 ∧
 ∃ a13 : Option Addr, ∃ n14 : Nat, ∃ c15 : Nat, cellH B h9 A11 = some (.slice a13 n14 c15) ∧
 ∃ b16 : Bool, ∃ s17 : ByteArray, za B h9 ⟨k7, 0, none⟩ 0 [(.bool b16), (.string s17)] ∧
 ∃ A18 : Addr, a13 = some A18 ∧ 0 ≤ (i2 : Int) ∧ (i2 : Int) < (n14 : Nat) ∧
 ∃ h20 : Heap, zi (Addr.add A18 (Int.toNat (i2) * 3)) h9 0 [(.bool b16), (.string s17), (.int .i64 (i5))] h20 ∧
 Fin B h20 (Q (true))) ∧ (b10 = false →
 Fin B h9 (Q (false))))
def Xm (B : RO) (p1 : Option Addr) (i2 : Int) (h : Heap) (Q : Bool → Heap → Prop) : Prop :=
 (p1 = none →
 Fin B h (Q (false))) ∧ (¬ (p1 = none) →
 ((i2 : Int) ≥ (0) →
 ∃ A5 : Addr, p1 = some A5 ∧
 LdSl B h A5 fun a7 n8 c9 h10 =>
 Fin B h10 (Q ((decide ((i2 : Int) < ((n8 : Nat))))))) ∧ (¬ ((i2 : Int) ≥ (0)) →
 Fin B h (Q (false))))
def vZ (B : RO) (p2 : Option Addr) (i3 : Int) (k7 : Nat) (h10 : Heap) (Q : Bool → ByteArray → Bool → Heap → Prop) : Prop :=
 wV B p2 (i3) h10 (fun b12 s13 i14 h11 =>
 ∀ k15 : Nat, h11 k15 = none → B k15 = none → ∀ h16 : Heap, h16 = Heap.set h11 k15 (.vec 119 (zc [(.bool false), (.string ByteArray.empty)]) 2) →
 ∃ h17 : Heap, zi ⟨k15, 0, none⟩ h16 0 [(.bool b12), (.string s13)] h17 ∧
 ∃ b18 : Bool, ∃ s19 : ByteArray, za B h17 ⟨k15, 0, none⟩ 0 [(.bool b18), (.string s19)] ∧
 ∃ h20 : Heap, zi ⟨k7, 0, none⟩ h17 0 [(.bool b18), (.string s19)] h20 ∧
 ∃ b21 : Bool, ∃ s22 : ByteArray, za B h20 ⟨k7, 0, none⟩ 0 [(.bool b21), (.string s22)] ∧ Fin B h20 (Q (b21) s22 (false)))
def Ve (B : RO) (p1 : Option Addr) (p2 : Option Addr) (i3 : Int) (h : Heap) (Q : Bool → ByteArray → Bool → Heap → Prop) : Prop :=
 ∀ k7 : Nat, h k7 = none → B k7 = none → ∀ h8 : Heap, h8 = Heap.set h k7 (.vec 119 (zc [(.bool false), (.string ByteArray.empty)]) 2) →
 (p1 = none →
 Fin B h8 (fun h' => vZ B p2 i3 k7 h' Q)) ∧ (¬ (p1 = none) →
 ∃ A24 : Addr, p1 = some A24 ∧
 ∃ p26 : Option Addr, cellH B h8 A24 = some (.pointer p26) ∧
 xH B p26 (i3) h8 (fun b28 s29 b30 h27 =>
 (b30 = true →
 ∀ k34 : Nat, h27 k34 = none → B k34 = none → ∀ h35 : Heap, h35 = Heap.set h27 k34 (.vec 119 (zc [(.bool false), (.string ByteArray.empty)]) 2) →
 ∃ h36 : Heap, zi ⟨k34, 0, none⟩ h35 0 [(.bool b28), (.string s29)] h36 ∧
 ∃ b37 : Bool, ∃ s38 : ByteArray, za B h36 ⟨k34, 0, none⟩ 0 [(.bool b37), (.string s38)] ∧
 ∃ h39 : Heap, zi ⟨k7, 0, none⟩ h36 0 [(.bool b37), (.string s38)] h39 ∧
 ∃ b40 : Bool, ∃ s41 : ByteArray, za B h39 ⟨k7, 0, none⟩ 0 [(.bool b40), (.string s41)] ∧ Fin B h39 (Q (b40) s41 (true))) ∧ (b30 = false →
 ∀ k31 : Nat, h27 k31 = none → B k31 = none → ∀ h32 : Heap, h32 = Heap.set h27 k31 (.vec 119 (zc [(.bool false), (.string ByteArray.empty)]) 2) →
 ∃ h33 : Heap, zi ⟨k31, 0, none⟩ h32 0 [(.bool b28), (.string s29)] h33 ∧
 Fin B h33 (fun h' => vZ B p2 i3 k7 h' Q))))
def YD (B : RO) (p1 : Option Addr) (p2 : Option Addr) (i3 : Int) (k7 : Nat) (h10 : Heap) (Q : Bool → Heap → Prop) : Prop :=
 yL B p1 p2 (i3) h10 (fun b12 s13 b14 h11 =>
 ∀ k15 : Nat, h11 k15 = none → B k15 = none → ∀ h16 : Heap, h16 = Heap.set h11 k15 (.vec 119 (zc [(.bool false), (.string ByteArray.empty)]) 2) →
 ∃ h17 : Heap, zi ⟨k15, 0, none⟩ h16 0 [(.bool b12), (.string s13)] h17 ∧
 ∃ b18 : Bool, ∃ s19 : ByteArray, za B h17 ⟨k15, 0, none⟩ 0 [(.bool b18), (.string s19)] ∧
 ∃ b20 : Bool, ∃ s21 : ByteArray, za B h17 ⟨k7, 0, none⟩ 0 [(.bool b20), (.string s21)] ∧
 (eqL [(.bool b18), (.string s19)] [(.bool b20), (.string s21)] = true →
 Fin B h17 (Q (true))) ∧ (¬ (eqL [(.bool b18), (.string s19)] [(.bool b20), (.string s21)] = true) →
 ∃ A24 : Addr, p1 = some A24 ∧
 ∃ p28 : Option Addr, cellH B h17 A24 = some (.pointer p28) ∧
 ∃ b31 : Bool, ∃ s32 : ByteArray, za B h17 ⟨k7, 0, none⟩ 0 [(.bool b31), (.string s32)] ∧
 xI B p28 (i3) (b31) s32 h17 (fun b35 h34 =>
 cellH B h34 A24 = some (.pointer p28) ∧ za B h34 ⟨k7, 0, none⟩ 0 [(.bool b31), (.string s32)] ∧
 Fin B h34 (Q (b35)))))
def Xs (B : RO) (p1 : Option Addr) (p2 : Option Addr) (i3 : Int) (b4 : Bool) (s5 : ByteArray) (h : Heap) (Q : Bool → Heap → Prop) : Prop :=
 ∀ k7 : Nat, h k7 = none → B k7 = none → ∀ h8 : Heap, h8 = Heap.set h k7 (.vec 119 (zc [(.bool b4), (.string s5)]) 2) →
 (p1 = none →
 Fin B h8 (Q (false))) ∧ (¬ (p1 = none) →
 ((i3 : Int) < (0) →
 Fin B h8 (Q (false))) ∧ (¬ ((i3 : Int) < (0)) →
 ((i3 : Int) ≥ (6) →
 Fin B h8 (Q (false))) ∧ (¬ ((i3 : Int) ≥ (6)) →
 Fin B h8 (fun h' => YD B p1 p2 i3 k7 h' Q))))
def W6 (B : RO) (i3 : Int) (i4 : Int) (k9 : Nat) (a19 : Option Addr) (n20 : Nat) (c21 : Nat) (h22 : Heap) (Q : Bool → ByteArray → Heap → Prop) : Prop :=
 ∃ A23 : Addr, a19 = some A23 ∧ 0 ≤ (i3 : Int) ∧ (i3 : Int) < (n20 : Nat) ∧
 ∃ h25 : Heap, ym h22 (Addr.add A23 (Int.toNat (i3) * 1)) (.int .u8 (i4)) = some h25 ∧
 semH PG B (convert 226 9 (.slice a19 n20 c21)) h25 (fun v h27 => ∃ s26 : ByteArray, v = (.string s26) ∧
 ∃ h28 : Heap, zi ⟨k9, 0, none⟩ h27 0 [(.bool true), (.string s26)] h28 ∧
 ∃ b29 : Bool, ∃ s30 : ByteArray, za B h28 ⟨k9, 0, none⟩ 0 [(.bool b29), (.string s30)] ∧ Fin B h28 (Q (b29) s30))
def W5 (B : RO) (i3 : Int) (i4 : Int) (k7 : Nat) (k9 : Nat) (h12 : Heap) (Q : Bool → ByteArray → Heap → Prop) : Prop :=
 ∃ s13 : ByteArray, cellH B h12 ⟨k7, 1, none⟩ = some (.string s13) ∧
 semH PG B (convert 9 226 (.string s13)) h12 (fun v h17 => ∃ a14 : Option Addr, ∃ n15 : Nat, ∃ c16 : Nat, v = (.slice a14 n15 c16) ∧
 ∃ (J38 : Option Addr → Nat → Nat → Nat → Heap → Prop) (m36 : Nat), Fin B h17 (J38 a14 n15 c16 m36) ∧
 ∀ (a31 : Option Addr) (n32 : Nat) (c33 : Nat) (m35 : Nat) (h34 : Heap), J38 a31 n32 c33 m35 h34 →
 (((n32 : Nat) : Int) ≤ (i3) →
 ∀ k39 : Nat, h34 k39 = none → B k39 = none → ∀ h40 : Heap, h40 = Heap.set h34 k39 (.vec 5 (zc [(.int .u8 (0))]) 1) →
 semH PG B (Builtin.append_ #[226, 226] 226 #[(.slice a31 n32 c33), (.slice (some ⟨k39, 0, none⟩) 1 1)]) h40 (fun v h41 => ∃ a42 : Option Addr, ∃ n43 : Nat, ∃ c44 : Nat, v = (.slice a42 n43 c44) ∧
 Fin B h41 (fun h' => ∃ m', m' < m35 ∧ J38 a42 n43 c44 m' h'))) ∧ (¬ (((n32 : Nat) : Int) ≤ (i3)) →
 Fin B h34 (fun h' => W6 B i3 i4 k9 a31 n32 c33 h' Q)))
def zc3 (B : RO) (b1 : Bool) (s2 : ByteArray) (i3 : Int) (i4 : Int) (h : Heap) (Q : Bool → ByteArray → Heap → Prop) : Prop :=
 ∀ k7 : Nat, h k7 = none → B k7 = none → ∀ h8 : Heap, h8 = Heap.set h k7 (.vec 119 (zc [(.bool b1), (.string s2)]) 2) →
 ∀ k9 : Nat, h8 k9 = none → B k9 = none → ∀ h10 : Heap, h10 = Heap.set h8 k9 (.vec 119 (zc [(.bool false), (.string ByteArray.empty)]) 2) →
 ((i3 : Int) < (0) →
 ∃ b45 : Bool, ∃ s46 : ByteArray, za B h10 ⟨k7, 0, none⟩ 0 [(.bool b45), (.string s46)] ∧
 ∃ h47 : Heap, zi ⟨k9, 0, none⟩ h10 0 [(.bool b45), (.string s46)] h47 ∧
 ∃ b48 : Bool, ∃ s49 : ByteArray, za B h47 ⟨k9, 0, none⟩ 0 [(.bool b48), (.string s49)] ∧ Fin B h47 (Q (b48) s49)) ∧ (¬ ((i3 : Int) < (0)) →
 ((i3 : Int) ≥ (32) →
 ∃ b50 : Bool, ∃ s51 : ByteArray, za B h10 ⟨k7, 0, none⟩ 0 [(.bool b50), (.string s51)] ∧
 ∃ h52 : Heap, zi ⟨k9, 0, none⟩ h10 0 [(.bool b50), (.string s51)] h52 ∧
 ∃ b53 : Bool, ∃ s54 : ByteArray, za B h52 ⟨k9, 0, none⟩ 0 [(.bool b53), (.string s54)] ∧ Fin B h52 (Q (b53) s54)) ∧ (¬ ((i3 : Int) ≥ (32)) →
 Fin B h10 (fun h' => W5 B i3 i4 k7 k9 h' Q)))
def zcj (B : RO) (b1 : Bool) (s2 : ByteArray) (h : Heap) (Q : Bool → ByteArray → Heap → Prop) : Prop :=
 ∀ k5 : Nat, h k5 = none → B k5 = none → ∀ h6 : Heap, h6 = Heap.set h k5 (.vec 119 (zc [(.bool b1), (.string s2)]) 2) →
 ∀ k7 : Nat, h6 k7 = none → B k7 = none → ∀ h8 : Heap, h8 = Heap.set h6 k7 (.vec 119 (zc [(.bool false), (.string ByteArray.empty)]) 2) →
 ∃ s9 : ByteArray, cellH B h8 ⟨k5, 1, none⟩ = some (.string s9) ∧
 ∃ h10 : Heap, zi ⟨k7, 0, none⟩ h8 0 [(.bool true), (.string s9)] h10 ∧
 ∃ b11 : Bool, ∃ s12 : ByteArray, za B h10 ⟨k7, 0, none⟩ 0 [(.bool b11), (.string s12)] ∧ Fin B h10 (Q (b11) s12)
def W4 (B : RO) (i3 : Int) (k6 : Nat) (k8 : Nat) (h11 : Heap) (Q : Bool → ByteArray → Heap → Prop) : Prop :=
 ∃ s12 : ByteArray, cellH B h11 ⟨k6, 1, none⟩ = some (.string s12) ∧
 ((i3 : Int) ≤ ((ByteArray.size s12 : Nat)) →
 ∃ s13 : ByteArray, cellH B h11 ⟨k6, 1, none⟩ = some (.string s13) ∧
 0 ≤ (0 : Int) ∧ (0 : Int) ≤ (i3 : Int) ∧ (i3 : Int) ≤ (ByteArray.size s13 : Nat) ∧
 ∃ h14 : Heap, zi ⟨k8, 0, none⟩ h11 0 [(.bool true), (.string (ByteArray.extract s13 (Int.toNat (0)) (Int.toNat (i3))))] h14 ∧
 ∃ b15 : Bool, ∃ s16 : ByteArray, za B h14 ⟨k8, 0, none⟩ 0 [(.bool b15), (.string s16)] ∧ Fin B h14 (Q (b15) s16)) ∧ (¬ ((i3 : Int) ≤ ((ByteArray.size s12 : Nat))) →
 ∃ s18 : ByteArray, cellH B h11 ⟨k6, 1, none⟩ = some (.string s18) ∧
 ∃ s22 : ByteArray, cellH B h11 ⟨k6, 1, none⟩ = some (.string s22) ∧
 XJ B (ByteArray.mk #[0]) (IntKind.wrap .i64 ((i3) - ((ByteArray.size s22 : Nat)))) h11 (fun s27 h26 =>
 cellH B h26 ⟨k6, 1, none⟩ = some (.string s18) ∧ cellH B h26 ⟨k6, 1, none⟩ = some (.string s22) ∧
 ByteArray.size s18 + ByteArray.size s27 ≤ 4611686018427387904 ∧
 ∃ h30 : Heap, zi ⟨k8, 0, none⟩ h26 0 [(.bool true), (.string (s18 ++ s27))] h30 ∧
 ∃ b31 : Bool, ∃ s32 : ByteArray, za B h30 ⟨k8, 0, none⟩ 0 [(.bool b31), (.string s32)] ∧ Fin B h30 (Q (b31) s32)))
def zc2 (B : RO) (b1 : Bool) (s2 : ByteArray) (i3 : Int) (h : Heap) (Q : Bool → ByteArray → Heap → Prop) : Prop :=
 ∀ k6 : Nat, h k6 = none → B k6 = none → ∀ h7 : Heap, h7 = Heap.set h k6 (.vec 119 (zc [(.bool b1), (.string s2)]) 2) →
 ∀ k8 : Nat, h7 k8 = none → B k8 = none → ∀ h9 : Heap, h9 = Heap.set h7 k8 (.vec 119 (zc [(.bool false), (.string ByteArray.empty)]) 2) →
 ∃ b33 : Bool, cellH B h9 ⟨k6, 0, none⟩ = some (.bool b33) ∧ (b33 = true →
 ((i3 : Int) < (0) →
 ∃ b39 : Bool, ∃ s40 : ByteArray, za B h9 ⟨k6, 0, none⟩ 0 [(.bool b39), (.string s40)] ∧
 ∃ h41 : Heap, zi ⟨k8, 0, none⟩ h9 0 [(.bool b39), (.string s40)] h41 ∧
 ∃ b42 : Bool, ∃ s43 : ByteArray, za B h41 ⟨k8, 0, none⟩ 0 [(.bool b42), (.string s43)] ∧ Fin B h41 (Q (b42) s43)) ∧ (¬ ((i3 : Int) < (0)) →
 ((i3 : Int) > (32) →
 ∃ b44 : Bool, ∃ s45 : ByteArray, za B h9 ⟨k6, 0, none⟩ 0 [(.bool b44), (.string s45)] ∧
 ∃ h46 : Heap, zi ⟨k8, 0, none⟩ h9 0 [(.bool b44), (.string s45)] h46 ∧
 ∃ b47 : Bool, ∃ s48 : ByteArray, za B h46 ⟨k8, 0, none⟩ 0 [(.bool b47), (.string s48)] ∧ Fin B h46 (Q (b47) s48)) ∧ (¬ ((i3 : Int) > (32)) →
 Fin B h9 (fun h' => W4 B i3 k6 k8 h' Q)))) ∧ (b33 = false →
 ∃ b34 : Bool, ∃ s35 : ByteArray, za B h9 ⟨k6, 0, none⟩ 0 [(.bool b34), (.string s35)] ∧
 ∃ h36 : Heap, zi ⟨k8, 0, none⟩ h9 0 [(.bool b34), (.string s35)] h36 ∧
 ∃ b37 : Bool, ∃ s38 : ByteArray, za B h36 ⟨k8, 0, none⟩ 0 [(.bool b37), (.string s38)] ∧ Fin B h36 (Q (b37) s38))
def wz (B : RO) (a1 : Option Addr) (n2 : Nat) (c3 : Nat) (v4 : Value) (h : Heap) (Q : Int → Heap → Prop) : Prop :=
 ∃ (J11 : Int → Nat → Heap → Prop) (m9 : Nat), Fin B h (J11 (0) m9) ∧
 ∀ (i6 : Int) (m8 : Nat) (h7 : Heap), J11 i6 m8 h7 →
 ((i6 : Int) < ((n2 : Nat)) →
 ∃ A12 : Addr, a1 = some A12 ∧ 0 ≤ (i6 : Int) ∧ (i6 : Int) < (n2 : Nat) ∧
 ∃ i14 : Int, ∃ i15 : Int, ∃ i16 : Int, za B h7 (Addr.add A12 (Int.toNat (i6) * 3)) 0 [(.int .i64 (i14)), (.int .i64 (i15)), (.int .i64 (i16))] ∧
 CallV PG B v4 [(.agg #[(.int .i64 (i14)), (.int .i64 (i15)), (.int .i64 (i16))])] h7 (fun v h17 => ∃ b18 : Bool, v = (.bool b18) ∧
 (b18 = true →
 Fin B h17 (Q (i6))) ∧ (b18 = false →
 Fin B h17 (fun h' => ∃ m', m' < m8 ∧ J11 (IntKind.wrap .i64 ((i6) + (1))) m' h')))) ∧ (¬ ((i6 : Int) < ((n2 : Nat))) →
 Fin B h7 (Q ((-1))))
def Wy (B : RO) (i1 : Int) (i2 : Int) (i3 : Int) (A4 : Addr) (A5 : Addr) (h : Heap) (Q : Bool → Heap → Prop) : Prop :=
 ∀ k7 : Nat, h k7 = none → B k7 = none → ∀ h8 : Heap, h8 = Heap.set h k7 (.vec 174 (zc [(.int .i64 (i1)), (.int .i64 (i2)), (.int .i64 (i3))]) 3) →
 ∃ i9 : Int, cellH B h8 ⟨k7, 0, none⟩ = some (.int .i64 (i9)) ∧
 ∃ i10 : Int, cellH B h8 A4 = some (.int .i64 (i10)) ∧
 ((i9 : Int) = i10 →
 ∃ i11 : Int, cellH B h8 ⟨k7, 1, none⟩ = some (.int .i64 (i11)) ∧
 ∃ i12 : Int, cellH B h8 A5 = some (.int .i64 (i12)) ∧
 Fin B h8 (Q (((i11 : Int) == (i12))))) ∧ (¬ ((i9 : Int) = i10) →
 Fin B h8 (Q (false)))
def Yw (B : RO) (p1 : Option Addr) (i2 : Int) (h : Heap) (Q : Bool → ByteArray → Bool → Heap → Prop) : Prop :=
 ∀ k6 : Nat, h k6 = none → B k6 = none → ∀ h7 : Heap, h7 = Heap.set h k6 (.vec 119 (zc [(.bool false), (.string ByteArray.empty)]) 2) →
 ∀ k8 : Nat, h7 k8 = none → B k8 = none → ∀ h9 : Heap, h9 = Heap.set h7 k8 (.vec 119 (zc [(.bool false), (.string ByteArray.empty)]) 2) →
 (p1 = none →
 ∃ b11 : Bool, ∃ s12 : ByteArray, za B h9 ⟨k8, 0, none⟩ 0 [(.bool b11), (.string s12)] ∧
 ∃ h13 : Heap, zi ⟨k6, 0, none⟩ h9 0 [(.bool b11), (.string s12)] h13 ∧
 ∃ b14 : Bool, ∃ s15 : ByteArray, za B h13 ⟨k6, 0, none⟩ 0 [(.bool b14), (.string s15)] ∧ Fin B h13 (Q (b14) s15 (false))) ∧ (¬ (p1 = none) →
 yZ B p1 (i2) h9 (fun i17 b18 h16 =>
 (b18 = true →
 ∃ A24 : Addr, p1 = some A24 ∧
 LdSl B h16 A24 fun a26 n27 c28 h29 =>
 ∃ A30 : Addr, a26 = some A30 ∧ 0 ≤ (i17 : Int) ∧ (i17 : Int) < (n27 : Nat) ∧
 ∃ b32 : Bool, ∃ s33 : ByteArray, za B h29 (Addr.add (Addr.add A30 (Int.toNat (i17) * 3)) 1) 0 [(.bool b32), (.string s33)] ∧
 ∃ h34 : Heap, zi ⟨k6, 0, none⟩ h29 0 [(.bool b32), (.string s33)] h34 ∧
 ∃ b35 : Bool, ∃ s36 : ByteArray, za B h34 ⟨k6, 0, none⟩ 0 [(.bool b35), (.string s36)] ∧ Fin B h34 (Q (b35) s36 (true))) ∧ (b18 = false →
 ∃ b19 : Bool, ∃ s20 : ByteArray, za B h16 ⟨k8, 0, none⟩ 0 [(.bool b19), (.string s20)] ∧
 ∃ h21 : Heap, zi ⟨k6, 0, none⟩ h16 0 [(.bool b19), (.string s20)] h21 ∧
 ∃ b22 : Bool, ∃ s23 : ByteArray, za B h21 ⟨k6, 0, none⟩ 0 [(.bool b22), (.string s23)] ∧ Fin B h21 (Q (b22) s23 (false)))))
def Yx (B : RO) (p1 : Option Addr) (i2 : Int) (b3 : Bool) (s4 : ByteArray) (h : Heap) (Q : Bool → Heap → Prop) : Prop :=
 ∀ k6 : Nat, h k6 = none → B k6 = none → ∀ h7 : Heap, h7 = Heap.set h k6 (.vec 119 (zc [(.bool b3), (.string s4)]) 2) →
 (p1 = none →
 Fin B h7 (Q (false))) ∧ (¬ (p1 = none) →
 yZ B p1 (i2) h7 (fun i10 b11 h9 =>
 (b11 = true →
 ∃ A41 : Addr, p1 = some A41 ∧
 ∃ a43 : Option Addr, ∃ n44 : Nat, ∃ c45 : Nat, cellH B h9 A41 = some (.slice a43 n44 c45) ∧
 ∃ b46 : Bool, ∃ s47 : ByteArray, za B h9 ⟨k6, 0, none⟩ 0 [(.bool b46), (.string s47)] ∧
 ∃ A48 : Addr, a43 = some A48 ∧ 0 ≤ (i10 : Int) ∧ (i10 : Int) < (n44 : Nat) ∧
 ∃ h50 : Heap, zi (Addr.add (Addr.add A48 (Int.toNat (i10) * 3)) 1) h9 0 [(.bool b46), (.string s47)] h50 ∧
 Fin B h50 (Q (true))) ∧ (b11 = false →
 ∃ A14 : Addr, p1 = some A14 ∧
 ∃ a18 : Option Addr, ∃ n19 : Nat, ∃ c20 : Nat, cellH B h9 A14 = some (.slice a18 n19 c20) ∧
 ∃ b24 : Bool, ∃ s25 : ByteArray, za B h9 ⟨k6, 0, none⟩ 0 [(.bool b24), (.string s25)] ∧
 ∀ k28 : Nat, h9 k28 = none → B k28 = none → ∀ h29 : Heap, h29 = Heap.set h9 k28 (.vec 213 (zc [(.int .i64 (i2)), (.bool b24), (.string s25)]) 3) →
 cellH B h29 A14 = some (.slice a18 n19 c20) ∧ za B h29 ⟨k6, 0, none⟩ 0 [(.bool b24), (.string s25)] ∧
 yg B a18 n19 c20 (i10) (some ⟨k28, 0, none⟩) 1 1 h29 (fun a33 n34 c35 h32 =>
 cellH B h32 A14 = some (.slice a18 n19 c20) ∧ za B h32 ⟨k6, 0, none⟩ 0 [(.bool b24), (.string s25)] ∧
 ∃ A38 : Addr, p1 = some A38 ∧
 ∃ h40 : Heap, ym h32 A38 (.slice a33 n34 c35) = some h40 ∧
 Fin B h40 (Q (true))))))
def Yq (B : RO) (p1 : Option Addr) (i2 : Int) (h : Heap) (Q : Int → Bool → Heap → Prop) : Prop :=
 ∃ A5 : Addr, p1 = some A5 ∧
 LdSl B h A5 fun a7 n8 c9 h10 =>
 zN B a7 n8 c9 (i2) (Value.func (.func 152) #[] #[]) h10 (fun i12 b13 h11 =>
 Fin B h11 (Q (i12) (b13)))
def yD (B : RO) (a1 : Option Addr) (n2 : Nat) (c3 : Nat) (i4 : Int) (a5 : Option Addr) (n6 : Nat) (c7 : Nat) (h : Heap) (Q : Option Addr → Nat → Nat → Heap → Prop) : Prop :=
 0 ≤ (i4 : Int) ∧ (i4 : Int) ≤ ((n2 : Nat) : Int) ∧ ((n2 : Nat) : Int) ≤ (c3 : Nat) ∧
 (((n6 : Nat) : Int) = 0 →
 Fin B h (Q a1 n2 c3)) ∧ (¬ (((n6 : Nat) : Int) = 0) →
 ((i4 : Int) = (n2 : Nat) →
 semH PG B (Builtin.append_ #[205, 205] 205 #[(.slice a1 n2 c3), (.slice a5 n6 c7)]) h (fun v h11 => ∃ a12 : Option Addr, ∃ n13 : Nat, ∃ c14 : Nat, v = (.slice a12 n13 c14) ∧
 Fin B h11 (Q a12 n13 c14))) ∧ (¬ ((i4 : Int) = (n2 : Nat)) →
 ((IntKind.wrap .i64 (((n2 : Nat)) + ((n6 : Nat))) : Int) > ((c3 : Nat)) →
 0 ≤ (0 : Int) ∧ (0 : Int) ≤ (i4 : Int) ∧ (i4 : Int) ≤ (c3 : Nat) ∧
 semH PG B (Builtin.append_ #[205, 3] 205 #[(.slice (if c3 = Int.toNat (0) then a1 else Option.map (·.add (Int.toNat (0) * 3)) a1) (Int.toNat (i4) - Int.toNat (0)) (c3 - Int.toNat (0))), (.int .i64 (IntKind.wrap .i64 ((IntKind.wrap .i64 (((n2 : Nat)) + ((n6 : Nat)))) - (i4))))]) h (fun v h15 => ∃ a16 : Option Addr, ∃ n17 : Nat, ∃ c18 : Nat, v = (.slice a16 n17 c18) ∧
 0 ≤ (i4 : Int) ∧ (i4 : Int) ≤ ((n17 : Nat) : Int) ∧ ((n17 : Nat) : Int) ≤ (c18 : Nat) ∧
 semH PG B (Builtin.copy_ #[205, 205] 3 #[(.slice (if c18 = Int.toNat (i4) then a16 else Option.map (·.add (Int.toNat (i4) * 3)) a16) (Int.toNat ((n17 : Nat)) - Int.toNat (i4)) (c18 - Int.toNat (i4))), (.slice a5 n6 c7)]) h15 (fun v h19 => ∃ i20 : Int, v = (.int .i64 (i20)) ∧
 0 ≤ (IntKind.wrap .i64 ((i4) + ((n6 : Nat))) : Int) ∧ (IntKind.wrap .i64 ((i4) + ((n6 : Nat))) : Int) ≤ ((n17 : Nat) : Int) ∧ ((n17 : Nat) : Int) ≤ (c18 : Nat) ∧
 0 ≤ (i4 : Int) ∧ (i4 : Int) ≤ ((n2 : Nat) : Int) ∧ ((n2 : Nat) : Int) ≤ (c3 : Nat) ∧
 semH PG B (Builtin.copy_ #[205, 205] 3 #[(.slice (if c18 = Int.toNat (IntKind.wrap .i64 ((i4) + ((n6 : Nat)))) then a16 else Option.map (·.add (Int.toNat (IntKind.wrap .i64 ((i4) + ((n6 : Nat)))) * 3)) a16) (Int.toNat ((n17 : Nat)) - Int.toNat (IntKind.wrap .i64 ((i4) + ((n6 : Nat))))) (c18 - Int.toNat (IntKind.wrap .i64 ((i4) + ((n6 : Nat)))))), (.slice (if c3 = Int.toNat (i4) then a1 else Option.map (·.add (Int.toNat (i4) * 3)) a1) (Int.toNat ((n2 : Nat)) - Int.toNat (i4)) (c3 - Int.toNat (i4)))]) h19 (fun v h21 => ∃ i22 : Int, v = (.int .i64 (i22)) ∧
 Fin B h21 (Q a16 n17 c18))))) ∧ (¬ ((IntKind.wrap .i64 (((n2 : Nat)) + ((n6 : Nat))) : Int) > ((c3 : Nat))) →
 0 ≤ (0 : Int) ∧ (0 : Int) ≤ (IntKind.wrap .i64 (((n2 : Nat)) + ((n6 : Nat))) : Int) ∧ (IntKind.wrap .i64 (((n2 : Nat)) + ((n6 : Nat))) : Int) ≤ (c3 : Nat) ∧
 0 ≤ (IntKind.wrap .i64 ((i4) + ((n6 : Nat))) : Int) ∧ (IntKind.wrap .i64 ((i4) + ((n6 : Nat))) : Int) ≤ (((Int.toNat (IntKind.wrap .i64 (((n2 : Nat)) + ((n6 : Nat)))) - Int.toNat (0)) : Nat) : Int) ∧ (((Int.toNat (IntKind.wrap .i64 (((n2 : Nat)) + ((n6 : Nat)))) - Int.toNat (0)) : Nat) : Int) ≤ ((c3 - Int.toNat (0)) : Nat) ∧
 semH PG B (Extern.SlicesOverlaps.overlaps #[205, 205] #[4] #[(.slice a5 n6 c7), (.slice (if (c3 - Int.toNat (0)) = Int.toNat (IntKind.wrap .i64 ((i4) + ((n6 : Nat)))) then (if c3 = Int.toNat (0) then a1 else Option.map (·.add (Int.toNat (0) * 3)) a1) else Option.map (·.add (Int.toNat (IntKind.wrap .i64 ((i4) + ((n6 : Nat)))) * 3)) (if c3 = Int.toNat (0) then a1 else Option.map (·.add (Int.toNat (0) * 3)) a1)) (Int.toNat (((Int.toNat (IntKind.wrap .i64 (((n2 : Nat)) + ((n6 : Nat)))) - Int.toNat (0)) : Nat)) - Int.toNat (IntKind.wrap .i64 ((i4) + ((n6 : Nat))))) ((c3 - Int.toNat (0)) - Int.toNat (IntKind.wrap .i64 ((i4) + ((n6 : Nat))))))]) h (fun v h23 => ∃ b24 : Bool, v = (.bool b24) ∧
 (b24 = true →
 0 ≤ ((n2 : Nat) : Int) ∧ ((n2 : Nat) : Int) ≤ (((Int.toNat (IntKind.wrap .i64 (((n2 : Nat)) + ((n6 : Nat)))) - Int.toNat (0)) : Nat) : Int) ∧ (((Int.toNat (IntKind.wrap .i64 (((n2 : Nat)) + ((n6 : Nat)))) - Int.toNat (0)) : Nat) : Int) ≤ ((c3 - Int.toNat (0)) : Nat) ∧
 semH PG B (Builtin.copy_ #[205, 205] 3 #[(.slice (if (c3 - Int.toNat (0)) = Int.toNat ((n2 : Nat)) then (if c3 = Int.toNat (0) then a1 else Option.map (·.add (Int.toNat (0) * 3)) a1) else Option.map (·.add (Int.toNat ((n2 : Nat)) * 3)) (if c3 = Int.toNat (0) then a1 else Option.map (·.add (Int.toNat (0) * 3)) a1)) (Int.toNat (((Int.toNat (IntKind.wrap .i64 (((n2 : Nat)) + ((n6 : Nat)))) - Int.toNat (0)) : Nat)) - Int.toNat ((n2 : Nat))) ((c3 - Int.toNat (0)) - Int.toNat ((n2 : Nat)))), (.slice a5 n6 c7)]) h23 (fun v h29 => ∃ i30 : Int, v = (.int .i64 (i30)) ∧
 0 ≤ (i4 : Int) ∧ (i4 : Int) ≤ (((Int.toNat (IntKind.wrap .i64 (((n2 : Nat)) + ((n6 : Nat)))) - Int.toNat (0)) : Nat) : Int) ∧ (((Int.toNat (IntKind.wrap .i64 (((n2 : Nat)) + ((n6 : Nat)))) - Int.toNat (0)) : Nat) : Int) ≤ ((c3 - Int.toNat (0)) : Nat) ∧
 wJ B (if (c3 - Int.toNat (0)) = Int.toNat (i4) then (if c3 = Int.toNat (0) then a1 else Option.map (·.add (Int.toNat (0) * 3)) a1) else Option.map (·.add (Int.toNat (i4) * 3)) (if c3 = Int.toNat (0) then a1 else Option.map (·.add (Int.toNat (0) * 3)) a1)) (Int.toNat (((Int.toNat (IntKind.wrap .i64 (((n2 : Nat)) + ((n6 : Nat)))) - Int.toNat (0)) : Nat)) - Int.toNat (i4)) ((c3 - Int.toNat (0)) - Int.toNat (i4)) ((n6 : Nat)) h29 (fun h31 =>
 Fin B h31 (Q (if c3 = Int.toNat (0) then a1 else Option.map (·.add (Int.toNat (0) * 3)) a1) (Int.toNat (IntKind.wrap .i64 (((n2 : Nat)) + ((n6 : Nat)))) - Int.toNat (0)) (c3 - Int.toNat (0)))))) ∧ (b24 = false →
 0 ≤ (IntKind.wrap .i64 ((i4) + ((n6 : Nat))) : Int) ∧ (IntKind.wrap .i64 ((i4) + ((n6 : Nat))) : Int) ≤ (((Int.toNat (IntKind.wrap .i64 (((n2 : Nat)) + ((n6 : Nat)))) - Int.toNat (0)) : Nat) : Int) ∧ (((Int.toNat (IntKind.wrap .i64 (((n2 : Nat)) + ((n6 : Nat)))) - Int.toNat (0)) : Nat) : Int) ≤ ((c3 - Int.toNat (0)) : Nat) ∧
 0 ≤ (i4 : Int) ∧ (i4 : Int) ≤ (((Int.toNat (IntKind.wrap .i64 (((n2 : Nat)) + ((n6 : Nat)))) - Int.toNat (0)) : Nat) : Int) ∧ (((Int.toNat (IntKind.wrap .i64 (((n2 : Nat)) + ((n6 : Nat)))) - Int.toNat (0)) : Nat) : Int) ≤ ((c3 - Int.toNat (0)) : Nat) ∧
 semH PG B (Builtin.copy_ #[205, 205] 3 #[(.slice (if (c3 - Int.toNat (0)) = Int.toNat (IntKind.wrap .i64 ((i4) + ((n6 : Nat)))) then (if c3 = Int.toNat (0) then a1 else Option.map (·.add (Int.toNat (0) * 3)) a1) else Option.map (·.add (Int.toNat (IntKind.wrap .i64 ((i4) + ((n6 : Nat)))) * 3)) (if c3 = Int.toNat (0) then a1 else Option.map (·.add (Int.toNat (0) * 3)) a1)) (Int.toNat (((Int.toNat (IntKind.wrap .i64 (((n2 : Nat)) + ((n6 : Nat)))) - Int.toNat (0)) : Nat)) - Int.toNat (IntKind.wrap .i64 ((i4) + ((n6 : Nat))))) ((c3 - Int.toNat (0)) - Int.toNat (IntKind.wrap .i64 ((i4) + ((n6 : Nat)))))), (.slice (if (c3 - Int.toNat (0)) = Int.toNat (i4) then (if c3 = Int.toNat (0) then a1 else Option.map (·.add (Int.toNat (0) * 3)) a1) else Option.map (·.add (Int.toNat (i4) * 3)) (if c3 = Int.toNat (0) then a1 else Option.map (·.add (Int.toNat (0) * 3)) a1)) (Int.toNat (((Int.toNat (IntKind.wrap .i64 (((n2 : Nat)) + ((n6 : Nat)))) - Int.toNat (0)) : Nat)) - Int.toNat (i4)) ((c3 - Int.toNat (0)) - Int.toNat (i4)))]) h23 (fun v h25 => ∃ i26 : Int, v = (.int .i64 (i26)) ∧
 0 ≤ (i4 : Int) ∧ (i4 : Int) ≤ (((Int.toNat (IntKind.wrap .i64 (((n2 : Nat)) + ((n6 : Nat)))) - Int.toNat (0)) : Nat) : Int) ∧ (((Int.toNat (IntKind.wrap .i64 (((n2 : Nat)) + ((n6 : Nat)))) - Int.toNat (0)) : Nat) : Int) ≤ ((c3 - Int.toNat (0)) : Nat) ∧
 semH PG B (Builtin.copy_ #[205, 205] 3 #[(.slice (if (c3 - Int.toNat (0)) = Int.toNat (i4) then (if c3 = Int.toNat (0) then a1 else Option.map (·.add (Int.toNat (0) * 3)) a1) else Option.map (·.add (Int.toNat (i4) * 3)) (if c3 = Int.toNat (0) then a1 else Option.map (·.add (Int.toNat (0) * 3)) a1)) (Int.toNat (((Int.toNat (IntKind.wrap .i64 (((n2 : Nat)) + ((n6 : Nat)))) - Int.toNat (0)) : Nat)) - Int.toNat (i4)) ((c3 - Int.toNat (0)) - Int.toNat (i4))), (.slice a5 n6 c7)]) h25 (fun v h27 => ∃ i28 : Int, v = (.int .i64 (i28)) ∧
 Fin B h27 (Q (if c3 = Int.toNat (0) then a1 else Option.map (·.add (Int.toNat (0) * 3)) a1) (Int.toNat (IntKind.wrap .i64 (((n2 : Nat)) + ((n6 : Nat)))) - Int.toNat (0)) (c3 - Int.toNat (0))))))))))
def yd (B : RO) (a1 : Option Addr) (n2 : Nat) (c3 : Nat) (i4 : Int) (v5 : Value) (i9 : Int) (h10 : Heap) (Q : Int → Bool → Heap → Prop) : Prop :=
 ((i9 : Int) < ((n2 : Nat)) →
 ∃ A11 : Addr, a1 = some A11 ∧ 0 ≤ (i9 : Int) ∧ (i9 : Int) < (n2 : Nat) ∧
 ∃ i13 : Int, ∃ b14 : Bool, ∃ s15 : ByteArray, za B h10 (Addr.add A11 (Int.toNat (i9) * 3)) 0 [(.int .i64 (i13)), (.bool b14), (.string s15)] ∧
 CallV PG B v5 [(.agg #[(.int .i64 (i13)), (.bool b14), (.string s15)]), (.int .i64 (i4))] h10 (fun v h16 => ∃ i17 : Int, v = (.int .i64 (i17)) ∧
 Fin B h16 (Q (i9) (((i17 : Int) == (0)))))) ∧ (¬ ((i9 : Int) < ((n2 : Nat))) →
 Fin B h10 (Q (i9) (false)))
def yJ (B : RO) (a1 : Option Addr) (n2 : Nat) (c3 : Nat) (i4 : Int) (v5 : Value) (h : Heap) (Q : Int → Bool → Heap → Prop) : Prop :=
 ∃ (J24 : Int → Int → Nat → Heap → Prop) (m22 : Nat), Fin B h (J24 (0) ((n2 : Nat)) m22) ∧
 ∀ (i18 : Int) (i19 : Int) (m21 : Nat) (h20 : Heap), J24 i18 i19 m21 h20 →
 ((i18 : Int) < (i19) →
 ¬ ((1 : Int) < 0) ∧
 ∃ A25 : Addr, a1 = some A25 ∧ 0 ≤ (IntKind.wrap .i64 (Int.fdiv (IntKind.wrap .u64 (IntKind.wrap .i64 ((i18) + (i19)))) (2 ^ (min (Int.toNat (1)) (IntKind.bits .u64)))) : Int) ∧ (IntKind.wrap .i64 (Int.fdiv (IntKind.wrap .u64 (IntKind.wrap .i64 ((i18) + (i19)))) (2 ^ (min (Int.toNat (1)) (IntKind.bits .u64)))) : Int) < (n2 : Nat) ∧
 ∃ i27 : Int, ∃ b28 : Bool, ∃ s29 : ByteArray, za B h20 (Addr.add A25 (Int.toNat (IntKind.wrap .i64 (Int.fdiv (IntKind.wrap .u64 (IntKind.wrap .i64 ((i18) + (i19)))) (2 ^ (min (Int.toNat (1)) (IntKind.bits .u64))))) * 3)) 0 [(.int .i64 (i27)), (.bool b28), (.string s29)] ∧
 CallV PG B v5 [(.agg #[(.int .i64 (i27)), (.bool b28), (.string s29)]), (.int .i64 (i4))] h20 (fun v h30 => ∃ i31 : Int, v = (.int .i64 (i31)) ∧
 ((i31 : Int) < (0) →
 Fin B h30 (fun h' => ∃ m', m' < m21 ∧ J24 (IntKind.wrap .i64 ((IntKind.wrap .i64 (Int.fdiv (IntKind.wrap .u64 (IntKind.wrap .i64 ((i18) + (i19)))) (2 ^ (min (Int.toNat (1)) (IntKind.bits .u64))))) + (1))) (i19) m' h')) ∧ (¬ ((i31 : Int) < (0)) →
 Fin B h30 (fun h' => ∃ m', m' < m21 ∧ J24 (i18) (IntKind.wrap .i64 (Int.fdiv (IntKind.wrap .u64 (IntKind.wrap .i64 ((i18) + (i19)))) (2 ^ (min (Int.toNat (1)) (IntKind.bits .u64))))) m' h')))) ∧ (¬ ((i18 : Int) < (i19)) →
 Fin B h20 (fun h' => yd B a1 n2 c3 i4 v5 (i18) h' Q))
def We (B : RO) (i1 : Int) (b2 : Bool) (s3 : ByteArray) (i4 : Int) (h : Heap) (Q : Int → Heap → Prop) : Prop :=
 ∀ k6 : Nat, h k6 = none → B k6 = none → ∀ h7 : Heap, h7 = Heap.set h k6 (.vec 213 (zc [(.int .i64 (i1)), (.bool b2), (.string s3)]) 3) →
 ∃ i8 : Int, cellH B h7 ⟨k6, 0, none⟩ = some (.int .i64 (i8)) ∧
 ((i8 : Int) < (i4) →
 Fin B h7 (Q ((-1)))) ∧ (¬ ((i8 : Int) < (i4)) →
 ∃ i9 : Int, cellH B h7 ⟨k6, 0, none⟩ = some (.int .i64 (i9)) ∧
 ((i9 : Int) > (i4) →
 Fin B h7 (Q (1))) ∧ (¬ ((i9 : Int) > (i4)) →
 Fin B h7 (Q (0))))
end Go.Proofs.YtgldgabefiialaaGreat.H
