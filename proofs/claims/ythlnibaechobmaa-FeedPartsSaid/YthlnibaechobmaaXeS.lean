/- What each function asks. No condition. -/
import Derived.Test.YthlnibaechobmaaXeF
namespace Go.Proofs.Ythlnibaechobmaa.H
open Go
set_option linter.unusedVariables false
set_option maxRecDepth 100000

def S_countermandlaw11_FeedDoes_J1 (B : RO) (h14 : Heap) (Q : Bool → Heap → Prop) : Prop :=
 C_feed_Feed_Place B none (0) h14 (fun i16 i17 h15 =>
 C_feed_Feed_Arrive B none (0) (ByteArray.mk #[]) h15 (fun i19 h18 =>
 ((i19 : Int) = 2 →
 C_feed_Feed_At B none (0) (0) h18 (fun i22 h21 =>
 ((i22 : Int) = (-1) →
 ((IntKind.wrap .i64 ((i16) + (i17)) : Int) = 0 →
 C_feed_Feed_Take B none (0) (0) (0) h21 (fun b26 h25 =>
 (b26 = true →
 Fin B h25 (Q (false))) ∧ (b26 = false →
 C_feed_Feed_Text B none (0) h25 (fun s28 h27 =>
 C_feed_Feed_Left B none (0) h27 (fun s30 h29 =>
 ByteArray.size s28 + ByteArray.size s30 ≤ 4611686018427387904 ∧
 Fin B h29 (Q ((decide ((s28 ++ s30) = (ByteArray.mk #[])))))))))) ∧ (¬ ((IntKind.wrap .i64 ((i16) + (i17)) : Int) = 0) →
 Fin B h21 (Q (false)))) ∧ (¬ ((i22 : Int) = (-1)) →
 Fin B h21 (Q (false))))) ∧ (¬ ((i19 : Int) = 2) →
 Fin B h18 (Q (false)))))
def S_countermandlaw11_FeedDoes_J4 (B : RO) (a1 : Option Addr) (n2 : Nat) (c3 : Nat) (i4 : Int) (p10 : Option Addr) (k11 : Nat) (i31 : Int) (i55 : Int) (m57 : Nat) (J60 : Int → Nat → Heap → Prop) (i63 : Int) (i64 : Int) (i66 : Int) (h67 : Heap) (Q : Bool → Heap → Prop) : Prop :=
 0 ≤ (i55 : Int) ∧ (i55 : Int) < (3 : Nat) ∧
 ∃ i68 : Int, cellH B h67 (Addr.add ⟨k11, 3, none⟩ (Int.toNat (i55) * 1)) = some (Value.int .i64 (i68)) ∧
 ((i63 : Int) = i68 →
 0 ≤ (i55 : Int) ∧ (i55 : Int) < (3 : Nat) ∧
 ∃ i70 : Int, cellH B h67 (Addr.add ⟨k11, 6, none⟩ (Int.toNat (i55) * 1)) = some (Value.int .i64 (i70)) ∧
 ((i64 : Int) = i70 →
 0 ≤ (i55 : Int) ∧ (i55 : Int) < (3 : Nat) ∧
 ∃ s72 : ByteArray, cellH B h67 (Addr.add ⟨k11, 0, none⟩ (Int.toNat (i55) * 1)) = some (Value.string s72) ∧
 C_feed_Feed_Text B p10 (i55) h67 (fun s74 h73 =>
 h73 = h67 ∧
 (s74 = s72 →
 0 ≤ (i55 : Int) ∧ (i55 : Int) < (3 : Nat) ∧
 ∃ s76 : ByteArray, cellH B h67 (Addr.add ⟨k11, 0, none⟩ (Int.toNat (i55) * 1)) = some (Value.string s76) ∧
 0 ≤ (i63 : Int) ∧ (i63 : Int) ≤ ((ByteArray.size s76 : Nat) : Int) ∧ ((ByteArray.size s76 : Nat) : Int) ≤ (ByteArray.size s76 : Nat) ∧
 C_feed_Feed_Left B p10 (i55) h67 (fun s78 h77 =>
 h77 = h67 ∧
 (s78 = (ByteArray.extract s76 (Int.toNat (i63)) (Int.toNat ((ByteArray.size s76 : Nat)))) →
 C_feed_Feed_At B p10 (i55) (i4) h67 (fun i81 h80 =>
 h80 = h67 ∧
 ((i81 : Int) = i66 →
 Fin B h67 (fun h' => ∃ m', m' < m57 ∧ J60 (IntKind.wrap .i64 ((i55) + (1))) m' h')) ∧ (¬ ((i81 : Int) = i66) →
 Fin B h67 (Q (false))))) ∧ (¬ (s78 = (ByteArray.extract s76 (Int.toNat (i63)) (Int.toNat ((ByteArray.size s76 : Nat))))) →
 Fin B h67 (Q (false))))) ∧ (¬ (s74 = s72) →
 Fin B h67 (Q (false))))) ∧ (¬ ((i64 : Int) = i70) →
 Fin B h67 (Q (false)))) ∧ (¬ ((i63 : Int) = i68) →
 Fin B h67 (Q (false)))
def S_countermandlaw11_FeedDoes_J5 (B : RO) (a1 : Option Addr) (n2 : Nat) (c3 : Nat) (i4 : Int) (p10 : Option Addr) (k11 : Nat) (i31 : Int) (i55 : Int) (m57 : Nat) (J60 : Int → Nat → Heap → Prop) (i63 : Int) (i64 : Int) (b84 : Bool) (h85 : Heap) (Q : Bool → Heap → Prop) : Prop :=
 (b84 = true →
 0 ≤ (i55 : Int) ∧ (i55 : Int) < (3 : Nat) ∧
 ∃ s86 : ByteArray, cellH B h85 (Addr.add ⟨k11, 0, none⟩ (Int.toNat (i55) * 1)) = some (Value.string s86) ∧
 0 ≤ (i4 : Int) ∧ (i4 : Int) < (ByteArray.size s86 : Nat) ∧
 Fin B h85 (fun h' => S_countermandlaw11_FeedDoes_J4 B a1 n2 c3 i4 p10 k11 i31 i55 m57 J60 i63 i64 (IntKind.wrap .i64 (byteAt s86 (Int.toNat (i4)))) h' Q)) ∧ (b84 = false →
 Fin B h85 (fun h' => S_countermandlaw11_FeedDoes_J4 B a1 n2 c3 i4 p10 k11 i31 i55 m57 J60 i63 i64 ((-1)) h' Q))
def S_countermandlaw11_FeedDoes_J3 (B : RO) (a1 : Option Addr) (n2 : Nat) (c3 : Nat) (i4 : Int) (p10 : Option Addr) (k11 : Nat) (i31 : Int) (m33 : Nat) (J36 : Int → Nat → Heap → Prop) (h54 : Heap) (Q : Bool → Heap → Prop) : Prop :=
 ∃ (J60 : Int → Nat → Heap → Prop) (m58 : Nat), Fin B h54 (J60 (0) m58) ∧
 ∀ (i55 : Int) (m57 : Nat) (h56 : Heap), J60 i55 m57 h56 →
 ((i55 : Int) < (3) →
 C_feed_Feed_Place B p10 (i55) h56 (fun i63 i64 h62 =>
 ((i4 : Int) ≥ (0) →
 0 ≤ (i55 : Int) ∧ (i55 : Int) < (3 : Nat) ∧
 ∃ s88 : ByteArray, cellH B h62 (Addr.add ⟨k11, 0, none⟩ (Int.toNat (i55) * 1)) = some (Value.string s88) ∧
 ((i4 : Int) < ((ByteArray.size s88 : Nat)) →
 Fin B h62 (fun h' => S_countermandlaw11_FeedDoes_J5 B a1 n2 c3 i4 p10 k11 i31 i55 m57 J60 i63 i64 (true) h' Q)) ∧ (¬ ((i4 : Int) < ((ByteArray.size s88 : Nat))) →
 Fin B h62 (fun h' => S_countermandlaw11_FeedDoes_J5 B a1 n2 c3 i4 p10 k11 i31 i55 m57 J60 i63 i64 (false) h' Q))) ∧ (¬ ((i4 : Int) ≥ (0)) →
 Fin B h62 (fun h' => S_countermandlaw11_FeedDoes_J5 B a1 n2 c3 i4 p10 k11 i31 i55 m57 J60 i63 i64 (false) h' Q)))) ∧ (¬ ((i55 : Int) < (3)) →
 Fin B h56 (fun h' => ∃ m', m' < m33 ∧ J36 (IntKind.wrap .i64 ((i31) + (1))) m' h'))
def S_countermandlaw11_FeedDoes_J2 (B : RO) (a1 : Option Addr) (n2 : Nat) (c3 : Nat) (i4 : Int) (p10 : Option Addr) (k11 : Nat) (i31 : Int) (m33 : Nat) (J36 : Int → Nat → Heap → Prop) (k45 : Nat) (b51 : Bool) (h52 : Heap) (Q : Bool → Heap → Prop) : Prop :=
 (b51 = true →
 ∃ i90 : Int, cellH B h52 ⟨k45, 1, none⟩ = some (Value.int .i64 (i90)) ∧
 C_countermandref11_Is B (i90) h52 (fun b92 h91 =>
 (b92 = true →
 h91 = h52 ∧
 Fin B h52 (fun h' => S_countermandlaw11_FeedDoes_J3 B a1 n2 c3 i4 p10 k11 i31 m33 J36 h' Q)) ∧ (b92 = false →
 h91 = h52 ∧
 ∃ i93 : Int, cellH B h52 ⟨k45, 1, none⟩ = some (Value.int .i64 (i93)) ∧
 ∃ i94 : Int, cellH B h52 ⟨k45, 1, none⟩ = some (Value.int .i64 (i94)) ∧
 C_feed_Feed_Text B p10 (i93) h52 (fun s96 h95 =>
 h95 = h52 ∧
 C_feed_Feed_Left B p10 (i94) h52 (fun s98 h97 =>
 h97 = h52 ∧
 ByteArray.size s96 + ByteArray.size s98 ≤ 4611686018427387904 ∧
 ((s96 ++ s98) = (ByteArray.mk #[]) →
 ∃ i100 : Int, cellH B h52 ⟨k45, 1, none⟩ = some (Value.int .i64 (i100)) ∧
 C_feed_Feed_At B p10 (i100) (0) h52 (fun i102 h101 =>
 h101 = h52 ∧
 ((i102 : Int) = (-1) →
 Fin B h52 (fun h' => S_countermandlaw11_FeedDoes_J3 B a1 n2 c3 i4 p10 k11 i31 m33 J36 h' Q)) ∧ (¬ ((i102 : Int) = (-1)) →
 Fin B h52 (Q (false))))) ∧ (¬ ((s96 ++ s98) = (ByteArray.mk #[])) →
 Fin B h52 (Q (false)))))))) ∧ (b51 = false →
 Fin B h52 (Q (false)))
def S_countermandlaw11_FeedDoes (B : RO) (a1 : Option Addr) (n2 : Nat) (c3 : Nat) (i4 : Int) (h : Heap) (Q : Bool → Heap → Prop) : Prop :=
 C_countermandlaw11_alive B h (fun b7 h6 =>
 (b7 = true →
 (((n2 : Nat) : Int) > (60) →
 Fin B h6 (Q (true))) ∧ (¬ (((n2 : Nat) : Int) > (60)) →
 C_feed_New B h6 (fun p10 h9 =>
 ∀ k11 : Nat, h9 k11 = none → B k11 = none → ∀ h12 : Heap, h12 = Heap.set h9 k11 (.vec 85 (plains [(Value.string ByteArray.empty), (Value.string ByteArray.empty), (Value.string ByteArray.empty), (Value.int .i64 (0)), (Value.int .i64 (0)), (Value.int .i64 (0)), (Value.int .i64 (0)), (Value.int .i64 (0)), (Value.int .i64 (0))]) 9) →
 ∃ (J36 : Int → Nat → Heap → Prop) (m34 : Nat), Fin B h12 (J36 (0) m34) ∧
 ∀ (i31 : Int) (m33 : Nat) (h32 : Heap), J36 i31 m33 h32 →
 ((i31 : Int) < ((n2 : Nat)) →
 ∃ A38 : Addr, a1 = some A38 ∧ 0 ≤ (i31 : Int) ∧ (i31 : Int) < (n2 : Nat) ∧
 ∃ i40 : Int, ∃ i41 : Int, ∃ s42 : ByteArray, ∃ i43 : Int, ∃ i44 : Int, CellsAt B h32 (Addr.add A38 (Int.toNat (i31) * 5)) 0 [(Value.int .i64 (i40)), (Value.int .i64 (i41)), (Value.string s42), (Value.int .i64 (i43)), (Value.int .i64 (i44))] ∧
 ∀ k45 : Nat, h32 k45 = none → B k45 = none → ∀ h46 : Heap, h46 = Heap.set h32 k45 (.vec 87 (plains [(Value.int .i64 (0)), (Value.int .i64 (0)), (Value.string ByteArray.empty), (Value.int .i64 (0)), (Value.int .i64 (0))]) 5) →
 ∃ h47 : Heap, StoresAt ⟨k45, 0, none⟩ h46 0 [(Value.int .i64 (i40)), (Value.int .i64 (i41)), (Value.string s42), (Value.int .i64 (i43)), (Value.int .i64 (i44))] h47 ∧
 ∃ s48 : ByteArray, cellH B h47 ⟨k45, 2, none⟩ = some (Value.string s48) ∧
 (((ByteArray.size s48 : Nat) : Int) > (100) →
 Fin B h47 (Q (true))) ∧ (¬ (((ByteArray.size s48 : Nat) : Int) > (100)) →
 ∃ i104 : Int, cellH B h47 ⟨k45, 0, none⟩ = some (Value.int .i64 (i104)) ∧
 ((i104 : Int) = 0 →
 ∃ i108 : Int, cellH B h47 ⟨k45, 1, none⟩ = some (Value.int .i64 (i108)) ∧
 ∃ s111 : ByteArray, cellH B h47 ⟨k45, 2, none⟩ = some (Value.string s111) ∧
 ∃ i115 : Int, cellH B h47 ⟨k45, 1, none⟩ = some (Value.int .i64 (i115)) ∧
 ∃ s118 : ByteArray, cellH B h47 ⟨k45, 2, none⟩ = some (Value.string s118) ∧
 C_feed_Feed_Arrive B p10 (i108) s111 h47 (fun i121 h120 =>
 cellH B h120 ⟨k45, 1, none⟩ = some (Value.int .i64 (i108)) ∧ cellH B h120 ⟨k45, 2, none⟩ = some (Value.string s111) ∧ cellH B h120 ⟨k45, 1, none⟩ = some (Value.int .i64 (i115)) ∧ cellH B h120 ⟨k45, 2, none⟩ = some (Value.string s118) ∧
 C_countermandref11_Feed_Arrive B (some ⟨k11, 0, none⟩) (i115) s118 h120 (fun i127 h126 =>
 cellH B h126 ⟨k45, 1, none⟩ = some (Value.int .i64 (i108)) ∧ cellH B h126 ⟨k45, 2, none⟩ = some (Value.string s111) ∧ cellH B h126 ⟨k45, 1, none⟩ = some (Value.int .i64 (i115)) ∧ cellH B h126 ⟨k45, 2, none⟩ = some (Value.string s118) ∧
 ((i121 : Int) = i127 →
 Fin B h126 (fun h' => S_countermandlaw11_FeedDoes_J2 B a1 n2 c3 i4 p10 k11 i31 m33 J36 k45 (true) h' Q)) ∧ (¬ ((i121 : Int) = i127) →
 Fin B h126 (fun h' => S_countermandlaw11_FeedDoes_J2 B a1 n2 c3 i4 p10 k11 i31 m33 J36 k45 (false) h' Q))))) ∧ (¬ ((i104 : Int) = 0) →
 ∃ i135 : Int, cellH B h47 ⟨k45, 1, none⟩ = some (Value.int .i64 (i135)) ∧
 ∃ i138 : Int, cellH B h47 ⟨k45, 3, none⟩ = some (Value.int .i64 (i138)) ∧
 ∃ i141 : Int, cellH B h47 ⟨k45, 4, none⟩ = some (Value.int .i64 (i141)) ∧
 ∃ i145 : Int, cellH B h47 ⟨k45, 1, none⟩ = some (Value.int .i64 (i145)) ∧
 ∃ i148 : Int, cellH B h47 ⟨k45, 3, none⟩ = some (Value.int .i64 (i148)) ∧
 ∃ i151 : Int, cellH B h47 ⟨k45, 4, none⟩ = some (Value.int .i64 (i151)) ∧
 C_feed_Feed_Take B p10 (i135) (i138) (i141) h47 (fun b154 h153 =>
 cellH B h153 ⟨k45, 1, none⟩ = some (Value.int .i64 (i135)) ∧ cellH B h153 ⟨k45, 3, none⟩ = some (Value.int .i64 (i138)) ∧ cellH B h153 ⟨k45, 4, none⟩ = some (Value.int .i64 (i141)) ∧ cellH B h153 ⟨k45, 1, none⟩ = some (Value.int .i64 (i145)) ∧ cellH B h153 ⟨k45, 3, none⟩ = some (Value.int .i64 (i148)) ∧ cellH B h153 ⟨k45, 4, none⟩ = some (Value.int .i64 (i151)) ∧
 C_countermandref11_Feed_Take B (some ⟨k11, 0, none⟩) (i145) (i148) (i151) h153 (fun b162 h161 =>
 cellH B h161 ⟨k45, 1, none⟩ = some (Value.int .i64 (i135)) ∧ cellH B h161 ⟨k45, 3, none⟩ = some (Value.int .i64 (i138)) ∧ cellH B h161 ⟨k45, 4, none⟩ = some (Value.int .i64 (i141)) ∧ cellH B h161 ⟨k45, 1, none⟩ = some (Value.int .i64 (i145)) ∧ cellH B h161 ⟨k45, 3, none⟩ = some (Value.int .i64 (i148)) ∧ cellH B h161 ⟨k45, 4, none⟩ = some (Value.int .i64 (i151)) ∧
 (b154 = b162 →
 Fin B h161 (fun h' => S_countermandlaw11_FeedDoes_J2 B a1 n2 c3 i4 p10 k11 i31 m33 J36 k45 (true) h' Q)) ∧ (¬ (b154 = b162) →
 Fin B h161 (fun h' => S_countermandlaw11_FeedDoes_J2 B a1 n2 c3 i4 p10 k11 i31 m33 J36 k45 (false) h' Q))))))) ∧ (¬ ((i31 : Int) < ((n2 : Nat))) →
 Fin B h32 (fun h' => S_countermandlaw11_FeedDoes_J1 B h' Q))))) ∧ (b7 = false →
 Fin B h6 (Q (false))))
def S_countermandlaw11_FeedStays_J3 (B : RO) (a1 : Option Addr) (n2 : Nat) (c3 : Nat) (i4 : Int) (p11 : Option Addr) (i14 : Int) (m16 : Nat) (J19 : ByteArray → Int → Int → Nat → Heap → Prop) (s36 : ByteArray) (i38 : Int) (b41 : Bool) (h42 : Heap) (Q : Bool → Heap → Prop) : Prop :=
 (b41 = true →
 Fin B h42 (Q (false))) ∧ (b41 = false →
 Fin B h42 (fun h' => ∃ m', m' < m16 ∧ J19 s36 (i38) (IntKind.wrap .i64 ((i14) + (1))) m' h'))
def S_countermandlaw11_FeedStays_J2 (B : RO) (a1 : Option Addr) (n2 : Nat) (c3 : Nat) (i4 : Int) (p11 : Option Addr) (s12 : ByteArray) (i13 : Int) (i14 : Int) (m16 : Nat) (J19 : ByteArray → Int → Int → Nat → Heap → Prop) (h34 : Heap) (Q : Bool → Heap → Prop) : Prop :=
 C_feed_Feed_Text B p11 (i4) h34 (fun s36 h35 =>
 C_feed_Feed_Place B p11 (i4) h35 (fun i38 i39 h37 =>
 (((ByteArray.size s36 : Nat) : Int) < ((ByteArray.size s12 : Nat)) →
 Fin B h37 (fun h' => S_countermandlaw11_FeedStays_J3 B a1 n2 c3 i4 p11 i14 m16 J19 s36 i38 (true) h' Q)) ∧ (¬ (((ByteArray.size s36 : Nat) : Int) < ((ByteArray.size s12 : Nat))) →
 0 ≤ (0 : Int) ∧ (0 : Int) ≤ ((ByteArray.size s12 : Nat) : Int) ∧ ((ByteArray.size s12 : Nat) : Int) ≤ (ByteArray.size s36 : Nat) ∧
 ((ByteArray.extract s36 (Int.toNat (0)) (Int.toNat ((ByteArray.size s12 : Nat)))) = s12 →
 ((i38 : Int) < (i13) →
 Fin B h37 (fun h' => S_countermandlaw11_FeedStays_J3 B a1 n2 c3 i4 p11 i14 m16 J19 s36 i38 (true) h' Q)) ∧ (¬ ((i38 : Int) < (i13)) →
 ((i38 : Int) > ((ByteArray.size s36 : Nat)) →
 Fin B h37 (fun h' => S_countermandlaw11_FeedStays_J3 B a1 n2 c3 i4 p11 i14 m16 J19 s36 i38 (true) h' Q)) ∧ (¬ ((i38 : Int) > ((ByteArray.size s36 : Nat))) →
 Fin B h37 (fun h' => S_countermandlaw11_FeedStays_J3 B a1 n2 c3 i4 p11 i14 m16 J19 s36 i38 (false) h' Q)))) ∧ (¬ ((ByteArray.extract s36 (Int.toNat (0)) (Int.toNat ((ByteArray.size s12 : Nat)))) = s12) →
 Fin B h37 (fun h' => S_countermandlaw11_FeedStays_J3 B a1 n2 c3 i4 p11 i14 m16 J19 s36 i38 (true) h' Q)))))
def S_countermandlaw11_FeedStays_J1 (B : RO) (a1 : Option Addr) (n2 : Nat) (c3 : Nat) (i4 : Int) (h9 : Heap) (Q : Bool → Heap → Prop) : Prop :=
 C_feed_New B h9 (fun p11 h10 =>
 ∃ (J19 : ByteArray → Int → Int → Nat → Heap → Prop) (m17 : Nat), Fin B h10 (J19 (ByteArray.mk #[]) (0) (0) m17) ∧
 ∀ (s12 : ByteArray) (i13 : Int) (i14 : Int) (m16 : Nat) (h15 : Heap), J19 s12 i13 i14 m16 h15 →
 ((i14 : Int) < ((n2 : Nat)) →
 ∃ A21 : Addr, a1 = some A21 ∧ 0 ≤ (i14 : Int) ∧ (i14 : Int) < (n2 : Nat) ∧
 ∃ i23 : Int, ∃ i24 : Int, ∃ s25 : ByteArray, ∃ i26 : Int, ∃ i27 : Int, CellsAt B h15 (Addr.add A21 (Int.toNat (i14) * 5)) 0 [(Value.int .i64 (i23)), (Value.int .i64 (i24)), (Value.string s25), (Value.int .i64 (i26)), (Value.int .i64 (i27))] ∧
 ∀ k28 : Nat, h15 k28 = none → B k28 = none → ∀ h29 : Heap, h29 = Heap.set h15 k28 (.vec 87 (plains [(Value.int .i64 (0)), (Value.int .i64 (0)), (Value.string ByteArray.empty), (Value.int .i64 (0)), (Value.int .i64 (0))]) 5) →
 ∃ h30 : Heap, StoresAt ⟨k28, 0, none⟩ h29 0 [(Value.int .i64 (i23)), (Value.int .i64 (i24)), (Value.string s25), (Value.int .i64 (i26)), (Value.int .i64 (i27))] h30 ∧
 ∃ s31 : ByteArray, cellH B h30 ⟨k28, 2, none⟩ = some (Value.string s31) ∧
 (((ByteArray.size s31 : Nat) : Int) > (100) →
 Fin B h30 (Q (true))) ∧ (¬ (((ByteArray.size s31 : Nat) : Int) > (100)) →
 ∃ i47 : Int, cellH B h30 ⟨k28, 0, none⟩ = some (Value.int .i64 (i47)) ∧
 ((i47 : Int) = 0 →
 ∃ i49 : Int, cellH B h30 ⟨k28, 1, none⟩ = some (Value.int .i64 (i49)) ∧
 ∃ s50 : ByteArray, cellH B h30 ⟨k28, 2, none⟩ = some (Value.string s50) ∧
 C_feed_Feed_Arrive B p11 (i49) s50 h30 (fun i52 h51 =>
 Fin B h51 (fun h' => S_countermandlaw11_FeedStays_J2 B a1 n2 c3 i4 p11 s12 i13 i14 m16 J19 h' Q))) ∧ (¬ ((i47 : Int) = 0) →
 ∃ i53 : Int, cellH B h30 ⟨k28, 1, none⟩ = some (Value.int .i64 (i53)) ∧
 ∃ i54 : Int, cellH B h30 ⟨k28, 3, none⟩ = some (Value.int .i64 (i54)) ∧
 ∃ i55 : Int, cellH B h30 ⟨k28, 4, none⟩ = some (Value.int .i64 (i55)) ∧
 C_feed_Feed_Take B p11 (i53) (i54) (i55) h30 (fun b57 h56 =>
 Fin B h56 (fun h' => S_countermandlaw11_FeedStays_J2 B a1 n2 c3 i4 p11 s12 i13 i14 m16 J19 h' Q))))) ∧ (¬ ((i14 : Int) < ((n2 : Nat))) →
 Fin B h15 (Q (true))))
def S_countermandlaw11_FeedStays (B : RO) (a1 : Option Addr) (n2 : Nat) (c3 : Nat) (i4 : Int) (h : Heap) (Q : Bool → Heap → Prop) : Prop :=
 C_countermandlaw11_alive B h (fun b7 h6 =>
 (b7 = true →
 (((n2 : Nat) : Int) > (60) →
 Fin B h6 (Q (true))) ∧ (¬ (((n2 : Nat) : Int) > (60)) →
 C_countermandref11_Is B (i4) h6 (fun b60 h59 =>
 (b60 = true →
 Fin B h59 (fun h' => S_countermandlaw11_FeedStays_J1 B a1 n2 c3 i4 h' Q)) ∧ (b60 = false →
 Fin B h59 (Q (true)))))) ∧ (b7 = false →
 Fin B h6 (Q (false))))
def S_countermandlaw11_FeedParts_J3 (B : RO) (i4 : Int) (i5 : Int) (s12 : ByteArray) (p15 : Option Addr) (p17 : Option Addr) (h19 : Heap) (Q : Bool → Heap → Prop) : Prop :=
 C_feed_Feed_Arrive B p17 (i4) s12 h19 (fun i21 h20 =>
 ((i21 : Int) = 0 →
 C_feed_Feed_Text B p15 (i4) h20 (fun s24 h23 =>
 (s24 = s12 →
 C_feed_Feed_Left B p17 (i4) h23 (fun s27 h26 =>
 (s27 = s12 →
 C_feed_Feed_At B p15 (i4) (i5) h26 (fun i30 h29 =>
 C_feed_Feed_At B p17 (i4) (i5) h29 (fun i32 h31 =>
 Fin B h31 (Q (((i30 : Int) == (i32))))))) ∧ (¬ (s27 = s12) →
 Fin B h26 (Q (false))))) ∧ (¬ (s24 = s12) →
 Fin B h23 (Q (false))))) ∧ (¬ ((i21 : Int) = 0) →
 Fin B h20 (Q (false))))
def S_countermandlaw11_FeedParts_J2 (B : RO) (a1 : Option Addr) (n2 : Nat) (c3 : Nat) (i4 : Int) (i5 : Int) (s12 : ByteArray) (h13 : Heap) (Q : Bool → Heap → Prop) : Prop :=
 C_feed_New B h13 (fun p15 h14 =>
 C_feed_New B h14 (fun p17 h16 =>
 ∃ (J38 : Int → Nat → Heap → Prop) (m36 : Nat), Fin B h16 (J38 (0) m36) ∧
 ∀ (i33 : Int) (m35 : Nat) (h34 : Heap), J38 i33 m35 h34 →
 ((i33 : Int) < ((n2 : Nat)) →
 ∃ A40 : Addr, a1 = some A40 ∧ 0 ≤ (i33 : Int) ∧ (i33 : Int) < (n2 : Nat) ∧
 ∃ s42 : ByteArray, cellH B h34 (Addr.add A40 (Int.toNat (i33) * 1)) = some (Value.string s42) ∧
 C_feed_Feed_Arrive B p15 (i4) s42 h34 (fun i44 h43 =>
 ((i44 : Int) = 0 →
 Fin B h43 (fun h' => ∃ m', m' < m35 ∧ J38 (IntKind.wrap .i64 ((i33) + (1))) m' h')) ∧ (¬ ((i44 : Int) = 0) →
 Fin B h43 (Q (false))))) ∧ (¬ ((i33 : Int) < ((n2 : Nat))) →
 Fin B h34 (fun h' => S_countermandlaw11_FeedParts_J3 B i4 i5 s12 p15 p17 h' Q))))
def S_countermandlaw11_FeedParts_J1 (B : RO) (a1 : Option Addr) (n2 : Nat) (c3 : Nat) (i4 : Int) (i5 : Int) (h10 : Heap) (Q : Bool → Heap → Prop) : Prop :=
 ∃ (J52 : ByteArray → Int → Nat → Heap → Prop) (m50 : Nat), Fin B h10 (J52 (ByteArray.mk #[]) (0) m50) ∧
 ∀ (s46 : ByteArray) (i47 : Int) (m49 : Nat) (h48 : Heap), J52 s46 i47 m49 h48 →
 ((i47 : Int) < ((n2 : Nat)) →
 ∃ A54 : Addr, a1 = some A54 ∧ 0 ≤ (i47 : Int) ∧ (i47 : Int) < (n2 : Nat) ∧
 ∃ s56 : ByteArray, cellH B h48 (Addr.add A54 (Int.toNat (i47) * 1)) = some (Value.string s56) ∧
 (((ByteArray.size s56 : Nat) : Int) > (64) →
 Fin B h48 (Q (true))) ∧ (¬ (((ByteArray.size s56 : Nat) : Int) > (64)) →
 ByteArray.size s46 + ByteArray.size s56 ≤ 4611686018427387904 ∧
 (((ByteArray.size (s46 ++ s56) : Nat) : Int) > (64) →
 Fin B h48 (Q (true))) ∧ (¬ (((ByteArray.size (s46 ++ s56) : Nat) : Int) > (64)) →
 Fin B h48 (fun h' => ∃ m', m' < m49 ∧ J52 (s46 ++ s56) (IntKind.wrap .i64 ((i47) + (1))) m' h')))) ∧ (¬ ((i47 : Int) < ((n2 : Nat))) →
 Fin B h48 (fun h' => S_countermandlaw11_FeedParts_J2 B a1 n2 c3 i4 i5 s46 h' Q))
def S_countermandlaw11_FeedParts (B : RO) (a1 : Option Addr) (n2 : Nat) (c3 : Nat) (i4 : Int) (i5 : Int) (h : Heap) (Q : Bool → Heap → Prop) : Prop :=
 C_countermandlaw11_alive B h (fun b8 h7 =>
 (b8 = true →
 (((n2 : Nat) : Int) > (30) →
 Fin B h7 (Q (true))) ∧ (¬ (((n2 : Nat) : Int) > (30)) →
 C_countermandref11_Is B (i4) h7 (fun b61 h60 =>
 (b61 = true →
 Fin B h60 (fun h' => S_countermandlaw11_FeedParts_J1 B a1 n2 c3 i4 i5 h' Q)) ∧ (b61 = false →
 Fin B h60 (Q (true)))))) ∧ (b8 = false →
 Fin B h7 (Q (false))))
def S_cell_New_int (B : RO) (i1 : Int) (i2 : Int) (h : Heap) (Q : Option Addr → Heap → Prop) : Prop :=
 ∀ k4 : Nat, h k4 = none → B k4 = none → ∀ h5 : Heap, h5 = Heap.set h k4 (.vec 127 (plains [(Value.slice none 0 0)]) 1) →
 ∃ (J11 : Int → Nat → Heap → Prop) (m9 : Nat), Fin B h5 (J11 (0) m9) ∧
 ∀ (i6 : Int) (m8 : Nat) (h7 : Heap), J11 i6 m8 h7 →
 ((i6 : Int) < (i1) →
 LdSl B h7 ⟨k4, 0, none⟩ fun a13 n14 c15 h16 =>
 ∀ k17 : Nat, h16 k17 = none → B k17 = none → ∀ h18 : Heap, h18 = Heap.set h16 k17 (.vec 129 (plains [(Value.int .i64 (i2)), (Value.int .i64 (0))]) 2) →
 semH PG B (Builtin.append_ #[125, 125] 125 #[(Value.slice a13 n14 c15), (Value.slice (some ⟨k17, 0, none⟩) 1 1)]) h18 (fun v h19 => ∃ a20 : Option Addr, ∃ n21 : Nat, ∃ c22 : Nat, v = (Value.slice a20 n21 c22) ∧
 ∃ h23 : Heap, storeH h19 ⟨k4, 0, none⟩ (Value.slice a20 n21 c22) = some h23 ∧
 Fin B h23 (fun h' => ∃ m', m' < m8 ∧ J11 (IntKind.wrap .i64 ((i6) + (1))) m' h'))) ∧ (¬ ((i6 : Int) < (i1)) →
 Fin B h7 (Q (some ⟨k4, 0, none⟩)))
def S_cell_Row_int_Set (B : RO) (p1 : Option Addr) (i2 : Int) (i3 : Int) (i4 : Int) (h : Heap) (Q : Bool → Heap → Prop) : Prop :=
 C_cell_Row_int_is B p1 (i2) h (fun b7 h6 =>
 (b7 = true →
 ∃ A8 : Addr, p1 = some A8 ∧
 LdSl B h6 A8 fun a10 n11 c12 h13 =>
 ∃ A14 : Addr, a10 = some A14 ∧ 0 ≤ (i2 : Int) ∧ (i2 : Int) < (n11 : Nat) ∧
 ∃ h16 : Heap, StoresAt (Addr.add A14 (Int.toNat (i2) * 2)) h13 0 [(Value.int .i64 (i3)), (Value.int .i64 (i4))] h16 ∧
 Fin B h16 (Q (true))) ∧ (b7 = false →
 Fin B h6 (Q (false))))
def S_cell_Row_int_Get (B : RO) (p1 : Option Addr) (i2 : Int) (h : Heap) (Q : Int → Int → Heap → Prop) : Prop :=
 C_cell_Row_int_is B p1 (i2) h (fun b6 h5 =>
 (b6 = true →
 ∃ A7 : Addr, p1 = some A7 ∧
 ∃ a9 : Option Addr, ∃ n10 : Nat, ∃ c11 : Nat, cellH B h5 A7 = some (Value.slice a9 n10 c11) ∧
 ∃ A12 : Addr, a9 = some A12 ∧ 0 ≤ (i2 : Int) ∧ (i2 : Int) < (n10 : Nat) ∧
 ∃ i14 : Int, cellH B h5 (Addr.add A12 (Int.toNat (i2) * 2)) = some (Value.int .i64 (i14)) ∧
 ∃ A15 : Addr, p1 = some A15 ∧
 ∃ a17 : Option Addr, ∃ n18 : Nat, ∃ c19 : Nat, cellH B h5 A15 = some (Value.slice a17 n18 c19) ∧
 ∃ A20 : Addr, a17 = some A20 ∧ 0 ≤ (i2 : Int) ∧ (i2 : Int) < (n18 : Nat) ∧
 ∃ i22 : Int, cellH B h5 (Addr.add (Addr.add A20 (Int.toNat (i2) * 2)) 1) = some (Value.int .i64 (i22)) ∧
 Fin B h5 (Q (i14) (i22))) ∧ (b6 = false →
 Fin B h5 (Q (0) (0))))
def S_cell_Row_int_Version (B : RO) (p1 : Option Addr) (i2 : Int) (h : Heap) (Q : Int → Heap → Prop) : Prop :=
 C_cell_Row_int_Get B p1 (i2) h (fun i5 i6 h4 =>
 Fin B h4 (Q (i6)))
def S_countermandlaw11_alive (B : RO) (h : Heap) (Q : Bool → Heap → Prop) : Prop :=
 C_feed_New B h (fun p3 h2 =>
 C_feed_Feed_Arrive B p3 (0) (ByteArray.mk #[97, 98]) h2 (fun i5 h4 =>
 ((i5 : Int) = 0 →
 C_feed_Feed_Take B p3 (0) (1) (5) h4 (fun b8 h7 =>
 (b8 = true →
 C_feed_Feed_Left B p3 (0) h7 (fun s10 h9 =>
 (s10 = (ByteArray.mk #[98]) →
 C_feed_Feed_At B p3 (0) (0) h9 (fun i13 h12 =>
 Fin B h12 (Q (((i13 : Int) == (97)))))) ∧ (¬ (s10 = (ByteArray.mk #[98])) →
 Fin B h9 (Q (false))))) ∧ (b8 = false →
 Fin B h7 (Q (false))))) ∧ (¬ ((i5 : Int) = 0) →
 Fin B h4 (Q (false)))))
def S_feed_New (B : RO) (h : Heap) (Q : Option Addr → Heap → Prop) : Prop :=
 C_cell_New_int B (3) (0) h (fun p3 h2 =>
 ∀ k4 : Nat, h2 k4 = none → B k4 = none → ∀ h5 : Heap, h5 = Heap.set h2 k4 (.vec 143 (plains [(Value.string ByteArray.empty), (Value.string ByteArray.empty), (Value.string ByteArray.empty), (Value.pointer p3)]) 4) →
 Fin B h5 (Q (some ⟨k4, 0, none⟩)))
def S_feed_Feed_Arrive_J1 (B : RO) (p1 : Option Addr) (i2 : Int) (s3 : ByteArray) (h6 : Heap) (Q : Int → Heap → Prop) : Prop :=
 ∃ A7 : Addr, p1 = some A7 ∧
 0 ≤ (i2 : Int) ∧ (i2 : Int) < (3 : Nat) ∧
 ∃ s9 : ByteArray, cellH B h6 (Addr.add A7 (Int.toNat (i2) * 1)) = some (Value.string s9) ∧
 ByteArray.size s9 + ByteArray.size s3 ≤ 4611686018427387904 ∧
 ∃ A10 : Addr, p1 = some A10 ∧
 0 ≤ (i2 : Int) ∧ (i2 : Int) < (3 : Nat) ∧
 ∃ h12 : Heap, storeH h6 (Addr.add A10 (Int.toNat (i2) * 1)) (Value.string (s9 ++ s3)) = some h12 ∧
 Fin B h12 (Q (0))
def S_feed_Feed_Arrive (B : RO) (p1 : Option Addr) (i2 : Int) (s3 : ByteArray) (h : Heap) (Q : Int → Heap → Prop) : Prop :=
 (p1 = none →
 Fin B h (Q (2))) ∧ (¬ (p1 = none) →
 C_feed_Feed_is B p1 (i2) h (fun b15 h14 =>
 (b15 = true →
 ∃ A16 : Addr, p1 = some A16 ∧
 0 ≤ (i2 : Int) ∧ (i2 : Int) < (3 : Nat) ∧
 ∃ s18 : ByteArray, cellH B h14 (Addr.add A16 (Int.toNat (i2) * 1)) = some (Value.string s18) ∧
 (((ByteArray.size s3 : Nat) : Int) > (IntKind.wrap .i64 ((64) - ((ByteArray.size s18 : Nat)))) →
 Fin B h14 (Q (6))) ∧ (¬ (((ByteArray.size s3 : Nat) : Int) > (IntKind.wrap .i64 ((64) - ((ByteArray.size s18 : Nat))))) →
 Fin B h14 (fun h' => S_feed_Feed_Arrive_J1 B p1 i2 s3 h' Q))) ∧ (b15 = false →
 Fin B h14 (Q (1)))))
def S_countermandref11_Feed_Arrive (B : RO) (p1 : Option Addr) (i2 : Int) (s3 : ByteArray) (h : Heap) (Q : Int → Heap → Prop) : Prop :=
 C_countermandref11_Is B (i2) h (fun b6 h5 =>
 (b6 = true →
 ∃ A7 : Addr, p1 = some A7 ∧
 0 ≤ (i2 : Int) ∧ (i2 : Int) < (3 : Nat) ∧
 ∃ s9 : ByteArray, cellH B h5 (Addr.add A7 (Int.toNat (i2) * 1)) = some (Value.string s9) ∧
 ((IntKind.wrap .i64 (((ByteArray.size s9 : Nat)) + ((ByteArray.size s3 : Nat))) : Int) > (64) →
 Fin B h5 (Q (6))) ∧ (¬ ((IntKind.wrap .i64 (((ByteArray.size s9 : Nat)) + ((ByteArray.size s3 : Nat))) : Int) > (64)) →
 ∃ A11 : Addr, p1 = some A11 ∧
 0 ≤ (i2 : Int) ∧ (i2 : Int) < (3 : Nat) ∧
 ∃ s13 : ByteArray, cellH B h5 (Addr.add A11 (Int.toNat (i2) * 1)) = some (Value.string s13) ∧
 ByteArray.size s13 + ByteArray.size s3 ≤ 4611686018427387904 ∧
 ∃ A14 : Addr, p1 = some A14 ∧
 0 ≤ (i2 : Int) ∧ (i2 : Int) < (3 : Nat) ∧
 ∃ h16 : Heap, storeH h5 (Addr.add A14 (Int.toNat (i2) * 1)) (Value.string (s13 ++ s3)) = some h16 ∧
 Fin B h16 (Q (0)))) ∧ (b6 = false →
 Fin B h5 (Q (1))))
def S_feed_Feed_Take_J1 (B : RO) (p1 : Option Addr) (i2 : Int) (i3 : Int) (i4 : Int) (h10 : Heap) (Q : Bool → Heap → Prop) : Prop :=
 ∃ A11 : Addr, p1 = some A11 ∧
 ∃ p13 : Option Addr, cellH B h10 (Addr.add A11 3) = some (Value.pointer p13) ∧
 C_cell_Row_int_Set B p13 (i2) (i3) (i4) h10 (fun b15 h14 =>
 Fin B h14 (Q (b15)))
def S_feed_Feed_Take (B : RO) (p1 : Option Addr) (i2 : Int) (i3 : Int) (i4 : Int) (h : Heap) (Q : Bool → Heap → Prop) : Prop :=
 C_feed_Feed_Place B p1 (i2) h (fun i7 i8 h6 =>
 C_feed_Feed_is B p1 (i2) h6 (fun b17 h16 =>
 (b17 = true →
 ((i3 : Int) < (i7) →
 Fin B h16 (Q (false))) ∧ (¬ ((i3 : Int) < (i7)) →
 ∃ A19 : Addr, p1 = some A19 ∧
 0 ≤ (i2 : Int) ∧ (i2 : Int) < (3 : Nat) ∧
 ∃ s21 : ByteArray, cellH B h16 (Addr.add A19 (Int.toNat (i2) * 1)) = some (Value.string s21) ∧
 ((i3 : Int) > ((ByteArray.size s21 : Nat)) →
 Fin B h16 (Q (false))) ∧ (¬ ((i3 : Int) > ((ByteArray.size s21 : Nat))) →
 Fin B h16 (fun h' => S_feed_Feed_Take_J1 B p1 i2 i3 i4 h' Q)))) ∧ (b17 = false →
 Fin B h16 (Q (false)))))
def S_countermandref11_Feed_Take_J1 (B : RO) (p1 : Option Addr) (i2 : Int) (i3 : Int) (i4 : Int) (h7 : Heap) (Q : Bool → Heap → Prop) : Prop :=
 ∃ A8 : Addr, p1 = some A8 ∧
 0 ≤ (i2 : Int) ∧ (i2 : Int) < (3 : Nat) ∧
 ∃ h10 : Heap, storeH h7 (Addr.add (Addr.add A8 3) (Int.toNat (i2) * 1)) (Value.int .i64 (i3)) = some h10 ∧
 ∃ A11 : Addr, p1 = some A11 ∧
 0 ≤ (i2 : Int) ∧ (i2 : Int) < (3 : Nat) ∧
 ∃ h13 : Heap, storeH h10 (Addr.add (Addr.add A11 6) (Int.toNat (i2) * 1)) (Value.int .i64 (i4)) = some h13 ∧
 Fin B h13 (Q (true))
def S_countermandref11_Feed_Take (B : RO) (p1 : Option Addr) (i2 : Int) (i3 : Int) (i4 : Int) (h : Heap) (Q : Bool → Heap → Prop) : Prop :=
 C_countermandref11_Is B (i2) h (fun b15 h14 =>
 (b15 = true →
 ∃ A16 : Addr, p1 = some A16 ∧
 0 ≤ (i2 : Int) ∧ (i2 : Int) < (3 : Nat) ∧
 ∃ i18 : Int, cellH B h14 (Addr.add (Addr.add A16 3) (Int.toNat (i2) * 1)) = some (Value.int .i64 (i18)) ∧
 ((i3 : Int) < (i18) →
 Fin B h14 (Q (false))) ∧ (¬ ((i3 : Int) < (i18)) →
 ∃ A20 : Addr, p1 = some A20 ∧
 0 ≤ (i2 : Int) ∧ (i2 : Int) < (3 : Nat) ∧
 ∃ s22 : ByteArray, cellH B h14 (Addr.add A20 (Int.toNat (i2) * 1)) = some (Value.string s22) ∧
 ((i3 : Int) > ((ByteArray.size s22 : Nat)) →
 Fin B h14 (Q (false))) ∧ (¬ ((i3 : Int) > ((ByteArray.size s22 : Nat))) →
 Fin B h14 (fun h' => S_countermandref11_Feed_Take_J1 B p1 i2 i3 i4 h' Q)))) ∧ (b15 = false →
 Fin B h14 (Q (false))))
def S_countermandref11_Is (B : RO) (i1 : Int) (h : Heap) (Q : Bool → Heap → Prop) : Prop :=
 ((i1 : Int) ≥ (0) →
 Fin B h (Q ((decide ((i1 : Int) ≤ (2)))))) ∧ (¬ ((i1 : Int) ≥ (0)) →
 Fin B h (Q (false)))
def S_feed_Feed_Text (B : RO) (p1 : Option Addr) (i2 : Int) (h : Heap) (Q : ByteArray → Heap → Prop) : Prop :=
 C_feed_Feed_is B p1 (i2) h (fun b5 h4 =>
 (b5 = true →
 ∃ A6 : Addr, p1 = some A6 ∧
 0 ≤ (i2 : Int) ∧ (i2 : Int) < (3 : Nat) ∧
 ∃ s8 : ByteArray, cellH B h4 (Addr.add A6 (Int.toNat (i2) * 1)) = some (Value.string s8) ∧
 Fin B h4 (Q s8)) ∧ (b5 = false →
 Fin B h4 (Q (ByteArray.mk #[]))))
def S_feed_Feed_Left (B : RO) (p1 : Option Addr) (i2 : Int) (h : Heap) (Q : ByteArray → Heap → Prop) : Prop :=
 C_feed_Feed_Place B p1 (i2) h (fun i5 i6 h4 =>
 C_feed_Feed_Text B p1 (i2) h4 (fun s8 h7 =>
 0 ≤ (i5 : Int) ∧ (i5 : Int) ≤ ((ByteArray.size s8 : Nat) : Int) ∧ ((ByteArray.size s8 : Nat) : Int) ≤ (ByteArray.size s8 : Nat) ∧
 Fin B h7 (Q (ByteArray.extract s8 (Int.toNat (i5)) (Int.toNat ((ByteArray.size s8 : Nat)))))))
def S_feed_Feed_At_J1 (B : RO) (p1 : Option Addr) (i2 : Int) (i3 : Int) (h6 : Heap) (Q : Int → Heap → Prop) : Prop :=
 ∃ A7 : Addr, p1 = some A7 ∧
 0 ≤ (i2 : Int) ∧ (i2 : Int) < (3 : Nat) ∧
 ∃ s9 : ByteArray, cellH B h6 (Addr.add A7 (Int.toNat (i2) * 1)) = some (Value.string s9) ∧
 0 ≤ (i3 : Int) ∧ (i3 : Int) < (ByteArray.size s9 : Nat) ∧
 Fin B h6 (Q (IntKind.wrap .i64 (byteAt s9 (Int.toNat (i3)))))
def S_feed_Feed_At (B : RO) (p1 : Option Addr) (i2 : Int) (i3 : Int) (h : Heap) (Q : Int → Heap → Prop) : Prop :=
 C_feed_Feed_is B p1 (i2) h (fun b11 h10 =>
 (b11 = true →
 ((i3 : Int) < (0) →
 Fin B h10 (Q ((-1)))) ∧ (¬ ((i3 : Int) < (0)) →
 ∃ A13 : Addr, p1 = some A13 ∧
 0 ≤ (i2 : Int) ∧ (i2 : Int) < (3 : Nat) ∧
 ∃ s15 : ByteArray, cellH B h10 (Addr.add A13 (Int.toNat (i2) * 1)) = some (Value.string s15) ∧
 ((i3 : Int) ≥ ((ByteArray.size s15 : Nat)) →
 Fin B h10 (Q ((-1)))) ∧ (¬ ((i3 : Int) ≥ ((ByteArray.size s15 : Nat))) →
 Fin B h10 (fun h' => S_feed_Feed_At_J1 B p1 i2 i3 h' Q)))) ∧ (b11 = false →
 Fin B h10 (Q ((-1)))))
def S_feed_Feed_Place (B : RO) (p1 : Option Addr) (i2 : Int) (h : Heap) (Q : Int → Int → Heap → Prop) : Prop :=
 (p1 = none →
 Fin B h (Q (0) (0))) ∧ (¬ (p1 = none) →
 ∃ A6 : Addr, p1 = some A6 ∧
 ∃ p8 : Option Addr, cellH B h (Addr.add A6 3) = some (Value.pointer p8) ∧
 C_cell_Row_int_Get B p8 (i2) h (fun i10 i11 h9 =>
 Fin B h9 (Q (i10) (i11))))
def S_cell_Row_int_is (B : RO) (p1 : Option Addr) (i2 : Int) (h : Heap) (Q : Bool → Heap → Prop) : Prop :=
 (p1 = none →
 Fin B h (Q (false))) ∧ (¬ (p1 = none) →
 ((i2 : Int) ≥ (0) →
 ∃ A6 : Addr, p1 = some A6 ∧
 LdSl B h A6 fun a8 n9 c10 h11 =>
 Fin B h11 (Q ((decide ((i2 : Int) < ((n9 : Nat))))))) ∧ (¬ ((i2 : Int) ≥ (0)) →
 Fin B h (Q (false))))
def S_feed_Feed_is (B : RO) (p1 : Option Addr) (i2 : Int) (h : Heap) (Q : Bool → Heap → Prop) : Prop :=
 (p1 = none →
 Fin B h (Q (false))) ∧ (¬ (p1 = none) →
 ((i2 : Int) ≥ (0) →
 Fin B h (Q ((decide ((i2 : Int) < (3)))))) ∧ (¬ ((i2 : Int) ≥ (0)) →
 Fin B h (Q (false))))
end Go.Proofs.Ythlnibaechobmaa.H
