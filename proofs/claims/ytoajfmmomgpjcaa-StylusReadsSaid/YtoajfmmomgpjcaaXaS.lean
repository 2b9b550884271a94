/- What each function asks. No condition. -/
import Derived.Test.YtoajfmmomgpjcaaXaF
namespace Go.Proofs.Ytoajfmmomgpjcaa.H
open Go
set_option linter.unusedVariables false
set_option maxRecDepth 100000

def S_countermandlaw01_StylusReads_J2 (B : RO) (h13 : Heap) (Q : Bool → Heap → Prop) : Prop :=
 C_stylus_Reader_Spoil B none h13 (fun h14 =>
 C_stylus_Reader_Raw B none (0) h14 (fun s16 h15 =>
 (s16 = (ByteArray.mk #[]) →
 C_stylus_Reader_Nat B none (9) h15 (fun i19 h18 =>
 ((i19 : Int) = 0 →
 C_stylus_Reader_Int B none h18 (fun i22 h21 =>
 ((i22 : Int) = 0 →
 C_stylus_Reader_Text B none (9) h21 (fun s25 h24 =>
 (s25 = (ByteArray.mk #[]) →
 C_stylus_Reader_Bad B none h24 (fun b28 h27 =>
 (b28 = true →
 C_stylus_Reader_Over B none h27 (fun b30 h29 =>
 (b30 = true →
 Fin B h29 (Q (false))) ∧ (b30 = false →
 C_stylus_Reader_Left B none h29 (fun i32 h31 =>
 Fin B h31 (Q (((i32 : Int) == (0)))))))) ∧ (b28 = false →
 Fin B h27 (Q (false))))) ∧ (¬ (s25 = (ByteArray.mk #[])) →
 Fin B h24 (Q (false))))) ∧ (¬ ((i22 : Int) = 0) →
 Fin B h21 (Q (false))))) ∧ (¬ ((i19 : Int) = 0) →
 Fin B h18 (Q (false))))) ∧ (¬ (s16 = (ByteArray.mk #[])) →
 Fin B h15 (Q (false)))))
def S_countermandlaw01_StylusReads_J7 (B : RO) (a2 : Option Addr) (n3 : Nat) (c4 : Nat) (p11 : Option Addr) (i35 : Int) (m37 : Nat) (J40 : ByteArray → Bool → Int → Nat → Heap → Prop) (b60 : Bool) (s64 : ByteArray) (b68 : Bool) (h69 : Heap) (Q : Bool → Heap → Prop) : Prop :=
 (b68 = true →
 C_stylus_Reader_Bad B p11 h69 (fun b71 h70 =>
 (b71 = b60 →
 C_stylus_Reader_Left B p11 h70 (fun i74 h73 =>
 ((i74 : Int) = (ByteArray.size s64 : Nat) →
 C_stylus_Reader_Over B p11 h73 (fun b77 h76 =>
 (b60 = true →
 (b77 = false →
 Fin B h76 (fun h' => ∃ m', m' < m37 ∧ J40 s64 (true) (IntKind.wrap .i64 ((i35) + (1))) m' h')) ∧ (¬ (b77 = false) →
 Fin B h76 (Q (false)))) ∧ (b60 = false →
 (b77 = (decide (s64 = (ByteArray.mk #[]))) →
 Fin B h76 (fun h' => ∃ m', m' < m37 ∧ J40 s64 (false) (IntKind.wrap .i64 ((i35) + (1))) m' h')) ∧ (¬ (b77 = (decide (s64 = (ByteArray.mk #[])))) →
 Fin B h76 (Q (false)))))) ∧ (¬ ((i74 : Int) = (ByteArray.size s64 : Nat)) →
 Fin B h73 (Q (false))))) ∧ (¬ (b71 = b60) →
 Fin B h70 (Q (false))))) ∧ (b68 = false →
 Fin B h69 (Q (false)))
def S_countermandlaw01_StylusReads_J6 (B : RO) (a2 : Option Addr) (n3 : Nat) (c4 : Nat) (p11 : Option Addr) (i35 : Int) (m37 : Nat) (J40 : ByteArray → Bool → Int → Nat → Heap → Prop) (k46 : Nat) (b60 : Bool) (s61 : ByteArray) (s64 : ByteArray) (i65 : Int) (h66 : Heap) (Q : Bool → Heap → Prop) : Prop :=
 ∃ i80 : Int, cellH B h66 ⟨k46, 0, none⟩ = some (Value.int .i64 (i80)) ∧
 ((i80 : Int) = 0 →
 ∃ i82 : Int, cellH B h66 ⟨k46, 1, none⟩ = some (Value.int .i64 (i82)) ∧
 C_stylus_Reader_Nat B p11 (i82) h66 (fun i84 h83 =>
 ((i84 : Int) = IntKind.wrap .i64 (i65) →
 Fin B h83 (fun h' => S_countermandlaw01_StylusReads_J7 B a2 n3 c4 p11 i35 m37 J40 b60 s64 (true) h' Q)) ∧ (¬ ((i84 : Int) = IntKind.wrap .i64 (i65)) →
 Fin B h83 (fun h' => S_countermandlaw01_StylusReads_J7 B a2 n3 c4 p11 i35 m37 J40 b60 s64 (false) h' Q)))) ∧ (¬ ((i80 : Int) = 0) →
 ((i80 : Int) = 1 →
 C_stylus_Reader_Int B p11 h66 (fun i88 h87 =>
 C_countermandref01_Signed B (i65) h87 (fun i90 h89 =>
 ((i88 : Int) = i90 →
 Fin B h89 (fun h' => S_countermandlaw01_StylusReads_J7 B a2 n3 c4 p11 i35 m37 J40 b60 s64 (true) h' Q)) ∧ (¬ ((i88 : Int) = i90) →
 Fin B h89 (fun h' => S_countermandlaw01_StylusReads_J7 B a2 n3 c4 p11 i35 m37 J40 b60 s64 (false) h' Q))))) ∧ (¬ ((i80 : Int) = 1) →
 ((i80 : Int) = 2 →
 ∃ i93 : Int, cellH B h66 ⟨k46, 1, none⟩ = some (Value.int .i64 (i93)) ∧
 C_stylus_Reader_Raw B p11 (i93) h66 (fun s95 h94 =>
 (s95 = s61 →
 Fin B h94 (fun h' => S_countermandlaw01_StylusReads_J7 B a2 n3 c4 p11 i35 m37 J40 b60 s64 (true) h' Q)) ∧ (¬ (s95 = s61) →
 Fin B h94 (fun h' => S_countermandlaw01_StylusReads_J7 B a2 n3 c4 p11 i35 m37 J40 b60 s64 (false) h' Q)))) ∧ (¬ ((i80 : Int) = 2) →
 ((i80 : Int) = 3 →
 ∃ i98 : Int, cellH B h66 ⟨k46, 1, none⟩ = some (Value.int .i64 (i98)) ∧
 C_stylus_Reader_Text B p11 (i98) h66 (fun s100 h99 =>
 (s100 = s61 →
 Fin B h99 (fun h' => S_countermandlaw01_StylusReads_J7 B a2 n3 c4 p11 i35 m37 J40 b60 s64 (true) h' Q)) ∧ (¬ (s100 = s61) →
 Fin B h99 (fun h' => S_countermandlaw01_StylusReads_J7 B a2 n3 c4 p11 i35 m37 J40 b60 s64 (false) h' Q)))) ∧ (¬ ((i80 : Int) = 3) →
 Fin B h66 (Q (true))))))
def S_countermandlaw01_StylusReads_J5 (B : RO) (a2 : Option Addr) (n3 : Nat) (c4 : Nat) (p11 : Option Addr) (i35 : Int) (m37 : Nat) (J40 : ByteArray → Bool → Int → Nat → Heap → Prop) (k46 : Nat) (i52 : Int) (s59 : ByteArray) (b60 : Bool) (s61 : ByteArray) (h62 : Heap) (Q : Bool → Heap → Prop) : Prop :=
 (b60 = true →
 Fin B h62 (fun h' => S_countermandlaw01_StylusReads_J6 B a2 n3 c4 p11 i35 m37 J40 k46 b60 s61 (ByteArray.mk #[]) (0) h' Q)) ∧ (b60 = false →
 Fin B h62 (fun h' => S_countermandlaw01_StylusReads_J6 B a2 n3 c4 p11 i35 m37 J40 k46 b60 s61 s59 (i52) h' Q))
def S_countermandlaw01_StylusReads_J8 (B : RO) (a2 : Option Addr) (n3 : Nat) (c4 : Nat) (p11 : Option Addr) (i35 : Int) (m37 : Nat) (J40 : ByteArray → Bool → Int → Nat → Heap → Prop) (k46 : Nat) (s50 : ByteArray) (i52 : Int) (i56 : Int) (b105 : Bool) (h106 : Heap) (Q : Bool → Heap → Prop) : Prop :=
 (b105 = true →
 Fin B h106 (fun h' => S_countermandlaw01_StylusReads_J5 B a2 n3 c4 p11 i35 m37 J40 k46 i52 s50 (true) (ByteArray.mk #[]) h' Q)) ∧ (b105 = false →
 0 ≤ (0 : Int) ∧ (0 : Int) ≤ (i56 : Int) ∧ (i56 : Int) ≤ (ByteArray.size s50 : Nat) ∧
 0 ≤ (i56 : Int) ∧ (i56 : Int) ≤ ((ByteArray.size s50 : Nat) : Int) ∧ ((ByteArray.size s50 : Nat) : Int) ≤ (ByteArray.size s50 : Nat) ∧
 Fin B h106 (fun h' => S_countermandlaw01_StylusReads_J5 B a2 n3 c4 p11 i35 m37 J40 k46 i52 (ByteArray.extract s50 (Int.toNat (i56)) (Int.toNat ((ByteArray.size s50 : Nat)))) (false) (ByteArray.extract s50 (Int.toNat (0)) (Int.toNat (i56))) h' Q))
def S_countermandlaw01_StylusReads_J4 (B : RO) (a2 : Option Addr) (n3 : Nat) (c4 : Nat) (p11 : Option Addr) (i35 : Int) (m37 : Nat) (J40 : ByteArray → Bool → Int → Nat → Heap → Prop) (k46 : Nat) (s50 : ByteArray) (b51 : Bool) (i52 : Int) (i56 : Int) (h57 : Heap) (Q : Bool → Heap → Prop) : Prop :=
 ∃ i102 : Int, cellH B h57 ⟨k46, 0, none⟩ = some (Value.int .i64 (i102)) ∧
 ((i102 : Int) > (1) →
 (b51 = true →
 Fin B h57 (fun h' => S_countermandlaw01_StylusReads_J8 B a2 n3 c4 p11 i35 m37 J40 k46 s50 i52 i56 (true) h' Q)) ∧ (b51 = false →
 ((i56 : Int) < (0) →
 Fin B h57 (fun h' => S_countermandlaw01_StylusReads_J8 B a2 n3 c4 p11 i35 m37 J40 k46 s50 i52 i56 (true) h' Q)) ∧ (¬ ((i56 : Int) < (0)) →
 ((i56 : Int) > ((ByteArray.size s50 : Nat)) →
 Fin B h57 (fun h' => S_countermandlaw01_StylusReads_J8 B a2 n3 c4 p11 i35 m37 J40 k46 s50 i52 i56 (true) h' Q)) ∧ (¬ ((i56 : Int) > ((ByteArray.size s50 : Nat))) →
 Fin B h57 (fun h' => S_countermandlaw01_StylusReads_J8 B a2 n3 c4 p11 i35 m37 J40 k46 s50 i52 i56 (false) h' Q))))) ∧ (¬ ((i102 : Int) > (1)) →
 Fin B h57 (fun h' => S_countermandlaw01_StylusReads_J5 B a2 n3 c4 p11 i35 m37 J40 k46 i52 s50 (b51) (ByteArray.mk #[]) h' Q))
def S_countermandlaw01_StylusReads_J3 (B : RO) (a2 : Option Addr) (n3 : Nat) (c4 : Nat) (p11 : Option Addr) (i35 : Int) (m37 : Nat) (J40 : ByteArray → Bool → Int → Nat → Heap → Prop) (k46 : Nat) (s50 : ByteArray) (b51 : Bool) (i52 : Int) (h53 : Heap) (Q : Bool → Heap → Prop) : Prop :=
 ∃ i54 : Int, cellH B h53 ⟨k46, 1, none⟩ = some (Value.int .i64 (i54)) ∧
 ∃ i109 : Int, cellH B h53 ⟨k46, 0, none⟩ = some (Value.int .i64 (i109)) ∧
 ((i109 : Int) = 3 →
 Fin B h53 (fun h' => S_countermandlaw01_StylusReads_J4 B a2 n3 c4 p11 i35 m37 J40 k46 s50 b51 i52 (IntKind.wrap .i64 (i52)) h' Q)) ∧ (¬ ((i109 : Int) = 3) →
 Fin B h53 (fun h' => S_countermandlaw01_StylusReads_J4 B a2 n3 c4 p11 i35 m37 J40 k46 s50 b51 i52 (i54) h' Q))
def S_countermandlaw01_StylusReads_J9 (B : RO) (a2 : Option Addr) (n3 : Nat) (c4 : Nat) (p11 : Option Addr) (s33 : ByteArray) (i35 : Int) (m37 : Nat) (J40 : ByteArray → Bool → Int → Nat → Heap → Prop) (k46 : Nat) (i114 : Int) (i115 : Int) (b117 : Bool) (h118 : Heap) (Q : Bool → Heap → Prop) : Prop :=
 (b117 = true →
 Fin B h118 (fun h' => S_countermandlaw01_StylusReads_J3 B a2 n3 c4 p11 i35 m37 J40 k46 s33 (true) (0) h' Q)) ∧ (b117 = false →
 0 ≤ (i115 : Int) ∧ (i115 : Int) ≤ ((ByteArray.size s33 : Nat) : Int) ∧ ((ByteArray.size s33 : Nat) : Int) ≤ (ByteArray.size s33 : Nat) ∧
 Fin B h118 (fun h' => S_countermandlaw01_StylusReads_J3 B a2 n3 c4 p11 i35 m37 J40 k46 (ByteArray.extract s33 (Int.toNat (i115)) (Int.toNat ((ByteArray.size s33 : Nat)))) (false) (i114) h' Q))
def S_countermandlaw01_StylusReads_J1 (B : RO) (s1 : ByteArray) (a2 : Option Addr) (n3 : Nat) (c4 : Nat) (h9 : Heap) (Q : Bool → Heap → Prop) : Prop :=
 C_stylus_Of B s1 h9 (fun p11 h10 =>
 ∃ (J40 : ByteArray → Bool → Int → Nat → Heap → Prop) (m38 : Nat), Fin B h10 (J40 s1 (false) (0) m38) ∧
 ∀ (s33 : ByteArray) (b34 : Bool) (i35 : Int) (m37 : Nat) (h36 : Heap), J40 s33 b34 i35 m37 h36 →
 ((i35 : Int) < ((n3 : Nat)) →
 ∃ A42 : Addr, a2 = some A42 ∧ 0 ≤ (i35 : Int) ∧ (i35 : Int) < (n3 : Nat) ∧
 ∃ i44 : Int, ∃ i45 : Int, CellsAt B h36 (Addr.add A42 (Int.toNat (i35) * 2)) 0 [(Value.int .i64 (i44)), (Value.int .i64 (i45))] ∧
 ∀ k46 : Nat, h36 k46 = none → B k46 = none → ∀ h47 : Heap, h47 = Heap.set h36 k46 (.vec 27 (plains [(Value.int .i64 (0)), (Value.int .i64 (0))]) 2) →
 ∃ h48 : Heap, StoresAt ⟨k46, 0, none⟩ h47 0 [(Value.int .i64 (i44)), (Value.int .i64 (i45))] h48 ∧
 ∃ i111 : Int, cellH B h48 ⟨k46, 0, none⟩ = some (Value.int .i64 (i111)) ∧
 ((i111 : Int) = 2 →
 Fin B h48 (fun h' => S_countermandlaw01_StylusReads_J3 B a2 n3 c4 p11 i35 m37 J40 k46 s33 (b34) (0) h' Q)) ∧ (¬ ((i111 : Int) = 2) →
 C_countermandref01_Taken B s33 h48 (fun i114 i115 h113 =>
 (b34 = true →
 Fin B h113 (fun h' => S_countermandlaw01_StylusReads_J9 B a2 n3 c4 p11 s33 i35 m37 J40 k46 i114 i115 (true) h' Q)) ∧ (b34 = false →
 ((i115 : Int) = 0 →
 Fin B h113 (fun h' => S_countermandlaw01_StylusReads_J9 B a2 n3 c4 p11 s33 i35 m37 J40 k46 i114 i115 (true) h' Q)) ∧ (¬ ((i115 : Int) = 0) →
 ∃ i120 : Int, cellH B h113 ⟨k46, 0, none⟩ = some (Value.int .i64 (i120)) ∧
 ((i120 : Int) = 1 →
 Fin B h113 (fun h' => S_countermandlaw01_StylusReads_J9 B a2 n3 c4 p11 s33 i35 m37 J40 k46 i114 i115 (false) h' Q)) ∧ (¬ ((i120 : Int) = 1) →
 ∃ i122 : Int, cellH B h113 ⟨k46, 1, none⟩ = some (Value.int .i64 (i122)) ∧
 ((i122 : Int) < (0) →
 Fin B h113 (fun h' => S_countermandlaw01_StylusReads_J9 B a2 n3 c4 p11 s33 i35 m37 J40 k46 i114 i115 (true) h' Q)) ∧ (¬ ((i122 : Int) < (0)) →
 ∃ i124 : Int, cellH B h113 ⟨k46, 1, none⟩ = some (Value.int .i64 (i124)) ∧
 ((i114 : Int) > (IntKind.wrap .u64 (i124)) →
 Fin B h113 (fun h' => S_countermandlaw01_StylusReads_J9 B a2 n3 c4 p11 s33 i35 m37 J40 k46 i114 i115 (true) h' Q)) ∧ (¬ ((i114 : Int) > (IntKind.wrap .u64 (i124))) →
 Fin B h113 (fun h' => S_countermandlaw01_StylusReads_J9 B a2 n3 c4 p11 s33 i35 m37 J40 k46 i114 i115 (false) h' Q))))))))) ∧ (¬ ((i35 : Int) < ((n3 : Nat))) →
 Fin B h36 (fun h' => S_countermandlaw01_StylusReads_J2 B h' Q)))
def S_countermandlaw01_StylusReads (B : RO) (s1 : ByteArray) (a2 : Option Addr) (n3 : Nat) (c4 : Nat) (h : Heap) (Q : Bool → Heap → Prop) : Prop :=
 C_countermandlaw01_alive B h (fun b7 h6 =>
 (b7 = true →
 (((n3 : Nat) : Int) > (50) →
 Fin B h6 (Q (true))) ∧ (¬ (((n3 : Nat) : Int) > (50)) →
 (((ByteArray.size s1 : Nat) : Int) > (2048) →
 Fin B h6 (Q (true))) ∧ (¬ (((ByteArray.size s1 : Nat) : Int) > (2048)) →
 Fin B h6 (fun h' => S_countermandlaw01_StylusReads_J1 B s1 a2 n3 c4 h' Q)))) ∧ (b7 = false →
 Fin B h6 (Q (false))))
def S_countermandlaw01_StylusTexts_J4 (B : RO) (p23 : Option Addr) (h25 : Heap) (Q : Bool → Heap → Prop) : Prop :=
 C_stylus_Reader_Bad B p23 h25 (fun b27 h26 =>
 (b27 = true →
 C_stylus_Reader_Left B p23 h26 (fun i29 h28 =>
 Fin B h28 (Q (((i29 : Int) == (0)))))) ∧ (b27 = false →
 Fin B h26 (Q (false))))
def S_countermandlaw01_StylusTexts_J3 (B : RO) (a1 : Option Addr) (n2 : Nat) (c3 : Nat) (i4 : Int) (s15 : ByteArray) (h21 : Heap) (Q : Bool → Heap → Prop) : Prop :=
 ¬ ((IntKind.wrap .u64 ((ByteArray.size s15 : Nat)) : Int) = 0) ∧
 0 ≤ (0 : Int) ∧ (0 : Int) ≤ (IntKind.wrap .i64 (Int.tmod (IntKind.wrap .u64 (i4)) (IntKind.wrap .u64 ((ByteArray.size s15 : Nat)))) : Int) ∧ (IntKind.wrap .i64 (Int.tmod (IntKind.wrap .u64 (i4)) (IntKind.wrap .u64 ((ByteArray.size s15 : Nat)))) : Int) ≤ (ByteArray.size s15 : Nat) ∧
 C_stylus_Of B (ByteArray.extract s15 (Int.toNat (0)) (Int.toNat (IntKind.wrap .i64 (Int.tmod (IntKind.wrap .u64 (i4)) (IntKind.wrap .u64 ((ByteArray.size s15 : Nat))))))) h21 (fun p23 h22 =>
 ∃ (J35 : Int → Nat → Heap → Prop) (m33 : Nat), Fin B h22 (J35 (0) m33) ∧
 ∀ (i30 : Int) (m32 : Nat) (h31 : Heap), J35 i30 m32 h31 →
 ((i30 : Int) < ((n2 : Nat)) →
 C_stylus_Reader_Text B p23 (2048) h31 (fun s38 h37 =>
 Fin B h37 (fun h' => ∃ m', m' < m32 ∧ J35 (IntKind.wrap .i64 ((i30) + (1))) m' h'))) ∧ (¬ ((i30 : Int) < ((n2 : Nat))) →
 Fin B h31 (fun h' => S_countermandlaw01_StylusTexts_J4 B p23 h' Q)))
def S_countermandlaw01_StylusTexts_J2 (B : RO) (a1 : Option Addr) (n2 : Nat) (c3 : Nat) (i4 : Int) (s15 : ByteArray) (p17 : Option Addr) (h19 : Heap) (Q : Bool → Heap → Prop) : Prop :=
 C_stylus_Reader_Over B p17 h19 (fun b40 h39 =>
 (b40 = true →
 (((ByteArray.size s15 : Nat) : Int) = 0 →
 C_stylus_Reader_Over B p17 h39 (fun b45 h44 =>
 Fin B h44 (Q (b45)))) ∧ (¬ (((ByteArray.size s15 : Nat) : Int) = 0) →
 Fin B h39 (fun h' => S_countermandlaw01_StylusTexts_J3 B a1 n2 c3 i4 s15 h' Q))) ∧ (b40 = false →
 C_stylus_Reader_Over B p17 h39 (fun b42 h41 =>
 Fin B h41 (Q (b42)))))
def S_countermandlaw01_StylusTexts_J1 (B : RO) (a1 : Option Addr) (n2 : Nat) (c3 : Nat) (i4 : Int) (k9 : Nat) (h12 : Heap) (Q : Bool → Heap → Prop) : Prop :=
 C_stylus_Stylus_Text B (some ⟨k9, 0, none⟩) a1 n2 c3 h12 (fun h13 =>
 C_stylus_Stylus_Bytes B (some ⟨k9, 0, none⟩) h13 (fun s15 h14 =>
 C_stylus_Of B s15 h14 (fun p17 h16 =>
 ∃ (J51 : Int → Nat → Heap → Prop) (m49 : Nat), Fin B h16 (J51 (0) m49) ∧
 ∀ (i46 : Int) (m48 : Nat) (h47 : Heap), J51 i46 m48 h47 →
 ((i46 : Int) < ((n2 : Nat)) →
 ∃ A53 : Addr, a1 = some A53 ∧ 0 ≤ (i46 : Int) ∧ (i46 : Int) < (n2 : Nat) ∧
 ∃ s55 : ByteArray, cellH B h47 (Addr.add A53 (Int.toNat (i46) * 1)) = some (Value.string s55) ∧
 C_stylus_Reader_Text B p17 (2048) h47 (fun s57 h56 =>
 (s57 = s55 →
 Fin B h56 (fun h' => ∃ m', m' < m48 ∧ J51 (IntKind.wrap .i64 ((i46) + (1))) m' h')) ∧ (¬ (s57 = s55) →
 Fin B h56 (Q (false))))) ∧ (¬ ((i46 : Int) < ((n2 : Nat))) →
 Fin B h47 (fun h' => S_countermandlaw01_StylusTexts_J2 B a1 n2 c3 i4 s15 p17 h' Q)))))
def S_countermandlaw01_StylusTexts (B : RO) (a1 : Option Addr) (n2 : Nat) (c3 : Nat) (i4 : Int) (h : Heap) (Q : Bool → Heap → Prop) : Prop :=
 C_countermandlaw01_alive B h (fun b7 h6 =>
 (b7 = true →
 (((n2 : Nat) : Int) > (20) →
 Fin B h6 (Q (true))) ∧ (¬ (((n2 : Nat) : Int) > (20)) →
 ∀ k9 : Nat, h6 k9 = none → B k9 = none → ∀ h10 : Heap, h10 = Heap.set h6 k9 (.vec 40 (plains [(Value.slice none 0 0)]) 1) →
 ∃ (J65 : Int → Int → Nat → Heap → Prop) (m63 : Nat), Fin B h10 (J65 (0) (0) m63) ∧
 ∀ (i59 : Int) (i60 : Int) (m62 : Nat) (h61 : Heap), J65 i59 i60 m62 h61 →
 ((i60 : Int) < ((n2 : Nat)) →
 ∃ A67 : Addr, a1 = some A67 ∧ 0 ≤ (i60 : Int) ∧ (i60 : Int) < (n2 : Nat) ∧
 ∃ s69 : ByteArray, cellH B h61 (Addr.add A67 (Int.toNat (i60) * 1)) = some (Value.string s69) ∧
 (((ByteArray.size s69 : Nat) : Int) > (2048) →
 Fin B h61 (Q (true))) ∧ (¬ (((ByteArray.size s69 : Nat) : Int) > (2048)) →
 ((IntKind.wrap .i64 ((i59) + ((ByteArray.size s69 : Nat))) : Int) > (2048) →
 Fin B h61 (Q (true))) ∧ (¬ ((IntKind.wrap .i64 ((i59) + ((ByteArray.size s69 : Nat))) : Int) > (2048)) →
 Fin B h61 (fun h' => ∃ m', m' < m62 ∧ J65 (IntKind.wrap .i64 ((i59) + ((ByteArray.size s69 : Nat)))) (IntKind.wrap .i64 ((i60) + (1))) m' h')))) ∧ (¬ ((i60 : Int) < ((n2 : Nat))) →
 Fin B h61 (fun h' => S_countermandlaw01_StylusTexts_J1 B a1 n2 c3 i4 k9 h' Q)))) ∧ (b7 = false →
 Fin B h6 (Q (false))))
def S_countermandlaw01_StylusReturns_J1 (B : RO) (p13 : Option Addr) (h15 : Heap) (Q : Bool → Heap → Prop) : Prop :=
 C_stylus_Reader_Over B p13 h15 (fun b17 h16 =>
 (b17 = true →
 C_stylus_Reader_Bad B p13 h16 (fun b19 h18 =>
 (b19 = true →
 Fin B h18 (Q (false))) ∧ (b19 = false →
 C_stylus_Reader_Left B p13 h18 (fun i21 h20 =>
 Fin B h20 (Q (((i21 : Int) == (0)))))))) ∧ (b17 = false →
 Fin B h16 (Q (false))))
def S_countermandlaw01_StylusReturns (B : RO) (a1 : Option Addr) (n2 : Nat) (c3 : Nat) (h : Heap) (Q : Bool → Heap → Prop) : Prop :=
 C_countermandlaw01_alive B h (fun b6 h5 =>
 (b6 = true →
 C_countermandlaw01_great B a1 n2 c3 h5 (fun b8 h7 =>
 (b8 = true →
 Fin B h7 (Q (true))) ∧ (b8 = false →
 C_countermandlaw01_put B a1 n2 c3 h7 (fun s10 s11 h9 =>
 C_stylus_Of B s10 h9 (fun p13 h12 =>
 ∃ (J27 : Int → Nat → Heap → Prop) (m25 : Nat), Fin B h12 (J27 (0) m25) ∧
 ∀ (i22 : Int) (m24 : Nat) (h23 : Heap), J27 i22 m24 h23 →
 ((i22 : Int) < ((n2 : Nat)) →
 ∃ A29 : Addr, a1 = some A29 ∧ 0 ≤ (i22 : Int) ∧ (i22 : Int) < (n2 : Nat) ∧
 ∃ i31 : Int, ∃ i32 : Int, ∃ s33 : ByteArray, CellsAt B h23 (Addr.add A29 (Int.toNat (i22) * 3)) 0 [(Value.int .i64 (i31)), (Value.int .i64 (i32)), (Value.string s33)] ∧
 ∀ k34 : Nat, h23 k34 = none → B k34 = none → ∀ h35 : Heap, h35 = Heap.set h23 k34 (.vec 50 (plains [(Value.int .i64 (0)), (Value.int .i64 (0)), (Value.string ByteArray.empty)]) 3) →
 ∃ h36 : Heap, StoresAt ⟨k34, 0, none⟩ h35 0 [(Value.int .i64 (i31)), (Value.int .i64 (i32)), (Value.string s33)] h36 ∧
 ∃ i37 : Int, cellH B h36 ⟨k34, 0, none⟩ = some (Value.int .i64 (i37)) ∧
 ((i37 : Int) = 0 →
 ∃ i40 : Int, cellH B h36 ⟨k34, 1, none⟩ = some (Value.int .i64 (i40)) ∧
 ((i40 : Int) < (0) →
 Fin B h36 (fun h' => ∃ m', m' < m24 ∧ J27 (IntKind.wrap .i64 ((i22) + (1))) m' h')) ∧ (¬ ((i40 : Int) < (0)) →
 ∃ i49 : Int, cellH B h36 ⟨k34, 1, none⟩ = some (Value.int .i64 (i49)) ∧
 ∃ i52 : Int, cellH B h36 ⟨k34, 1, none⟩ = some (Value.int .i64 (i52)) ∧
 C_stylus_Reader_Nat B p13 (i49) h36 (fun i55 h54 =>
 cellH B h54 ⟨k34, 1, none⟩ = some (Value.int .i64 (i40)) ∧ cellH B h54 ⟨k34, 1, none⟩ = some (Value.int .i64 (i49)) ∧ cellH B h54 ⟨k34, 1, none⟩ = some (Value.int .i64 (i52)) ∧
 ((i55 : Int) = i52 →
 Fin B h54 (fun h' => ∃ m', m' < m24 ∧ J27 (IntKind.wrap .i64 ((i22) + (1))) m' h')) ∧ (¬ ((i55 : Int) = i52) →
 Fin B h54 (Q (false)))))) ∧ (¬ ((i37 : Int) = 0) →
 ((i37 : Int) = 1 →
 ∃ i63 : Int, cellH B h36 ⟨k34, 1, none⟩ = some (Value.int .i64 (i63)) ∧
 C_stylus_Reader_Int B p13 h36 (fun i66 h65 =>
 cellH B h65 ⟨k34, 1, none⟩ = some (Value.int .i64 (i63)) ∧
 ((i66 : Int) = i63 →
 Fin B h65 (fun h' => ∃ m', m' < m24 ∧ J27 (IntKind.wrap .i64 ((i22) + (1))) m' h')) ∧ (¬ ((i66 : Int) = i63) →
 Fin B h65 (Q (false))))) ∧ (¬ ((i37 : Int) = 1) →
 ((i37 : Int) = 2 →
 ∃ s72 : ByteArray, cellH B h36 ⟨k34, 2, none⟩ = some (Value.string s72) ∧
 ∃ s76 : ByteArray, cellH B h36 ⟨k34, 2, none⟩ = some (Value.string s76) ∧
 C_stylus_Reader_Raw B p13 ((ByteArray.size s72 : Nat)) h36 (fun s79 h78 =>
 cellH B h78 ⟨k34, 2, none⟩ = some (Value.string s72) ∧ cellH B h78 ⟨k34, 2, none⟩ = some (Value.string s76) ∧
 (s79 = s76 →
 Fin B h78 (fun h' => ∃ m', m' < m24 ∧ J27 (IntKind.wrap .i64 ((i22) + (1))) m' h')) ∧ (¬ (s79 = s76) →
 Fin B h78 (Q (false))))) ∧ (¬ ((i37 : Int) = 2) →
 ((i37 : Int) = 3 →
 ∃ s86 : ByteArray, cellH B h36 ⟨k34, 2, none⟩ = some (Value.string s86) ∧
 ∃ s90 : ByteArray, cellH B h36 ⟨k34, 2, none⟩ = some (Value.string s90) ∧
 C_stylus_Reader_Text B p13 ((ByteArray.size s86 : Nat)) h36 (fun s93 h92 =>
 cellH B h92 ⟨k34, 2, none⟩ = some (Value.string s86) ∧ cellH B h92 ⟨k34, 2, none⟩ = some (Value.string s90) ∧
 (s93 = s90 →
 Fin B h92 (fun h' => ∃ m', m' < m24 ∧ J27 (IntKind.wrap .i64 ((i22) + (1))) m' h')) ∧ (¬ (s93 = s90) →
 Fin B h92 (Q (false))))) ∧ (¬ ((i37 : Int) = 3) →
 Fin B h36 (fun h' => ∃ m', m' < m24 ∧ J27 (IntKind.wrap .i64 ((i22) + (1))) m' h')))))) ∧ (¬ ((i22 : Int) < ((n2 : Nat))) →
 Fin B h23 (fun h' => S_countermandlaw01_StylusReturns_J1 B p13 h' Q))))))) ∧ (b6 = false →
 Fin B h5 (Q (false))))
def S_countermandlaw01_alive (B : RO) (h : Heap) (Q : Bool → Heap → Prop) : Prop :=
 ∀ k2 : Nat, h k2 = none → B k2 = none → ∀ h3 : Heap, h3 = Heap.set h k2 (.vec 40 (plains [(Value.slice none 0 0)]) 1) →
 ∀ k4 : Nat, h3 k4 = none → B k4 = none → ∀ h5 : Heap, h5 = Heap.set h3 k4 (.vec 3 (plains [(Value.int .i64 (300))]) 1) →
 C_stylus_Stylus_Nat B (some ⟨k2, 0, none⟩) (some ⟨k4, 0, none⟩) 1 1 h5 (fun h6 =>
 ∀ k7 : Nat, h6 k7 = none → B k7 = none → ∀ h8 : Heap, h8 = Heap.set h6 k7 (.vec 3 (plains [(Value.int .i64 ((-2)))]) 1) →
 C_stylus_Stylus_Int B (some ⟨k2, 0, none⟩) (some ⟨k7, 0, none⟩) 1 1 h8 (fun h9 =>
 C_stylus_Stylus_Bytes B (some ⟨k2, 0, none⟩) h9 (fun s11 h10 =>
 (s11 = (ByteArray.mk #[172, 2, 3]) →
 C_stylus_Of B (ByteArray.mk #[]) h10 (fun p14 h13 =>
 C_stylus_Reader_Over B p14 h13 (fun b16 h15 =>
 (b16 = true →
 C_stylus_Of B (ByteArray.mk #[97]) h15 (fun p18 h17 =>
 C_stylus_Reader_Over B p18 h17 (fun b20 h19 =>
 Fin B h19 (Q ((!b20)))))) ∧ (b16 = false →
 Fin B h15 (Q (false)))))) ∧ (¬ (s11 = (ByteArray.mk #[172, 2, 3])) →
 Fin B h10 (Q (false))))))
def S_stylus_Of (B : RO) (s1 : ByteArray) (h : Heap) (Q : Option Addr → Heap → Prop) : Prop :=
 ∀ k3 : Nat, h k3 = none → B k3 = none → ∀ h4 : Heap, h4 = Heap.set h k3 (.vec 137 (plains [(Value.string s1), (Value.bool false)]) 2) →
 Fin B h4 (Q (some ⟨k3, 0, none⟩))
def S_countermandref01_Taken_J2 (B : RO) (s1 : ByteArray) (i4 : Int) (i14 : Int) (h15 : Heap) (Q : Int → Int → Heap → Prop) : Prop :=
 0 ≤ (0 : Int) ∧ (0 : Int) ≤ (i4 : Int) ∧ (i4 : Int) ≤ (ByteArray.size s1 : Nat) ∧
 C_countermandref01_Wide B (i14) h15 (fun s24 h23 =>
 (s24 = (ByteArray.extract s1 (Int.toNat (0)) (Int.toNat (i4))) →
 Fin B h23 (Q (i14) (i4))) ∧ (¬ (s24 = (ByteArray.extract s1 (Int.toNat (0)) (Int.toNat (i4)))) →
 Fin B h23 (Q (0) (0))))
def S_countermandref01_Taken_J1 (B : RO) (s1 : ByteArray) (i4 : Int) (m6 : Nat) (J9 : Int → Nat → Heap → Prop) (h11 : Heap) (Q : Int → Int → Heap → Prop) : Prop :=
 0 ≤ (IntKind.wrap .i64 ((i4) - (1)) : Int) ∧ (IntKind.wrap .i64 ((i4) - (1)) : Int) < (ByteArray.size s1 : Nat) ∧
 ((byteAt s1 (Int.toNat (IntKind.wrap .i64 ((i4) - (1)))) : Int) > (127) →
 Fin B h11 (fun h' => ∃ m', m' < m6 ∧ J9 (IntKind.wrap .i64 ((i4) + (1))) m' h')) ∧ (¬ ((byteAt s1 (Int.toNat (IntKind.wrap .i64 ((i4) - (1)))) : Int) > (127)) →
 ∃ (J32 : Int → Int → Nat → Heap → Prop) (m30 : Nat), Fin B h11 (J32 (0) (IntKind.wrap .i64 ((i4) - (1))) m30) ∧
 ∀ (i26 : Int) (i27 : Int) (m29 : Nat) (h28 : Heap), J32 i26 i27 m29 h28 →
 ((i27 : Int) ≥ (0) →
 0 ≤ (i27 : Int) ∧ (i27 : Int) < (ByteArray.size s1 : Nat) ∧
 ¬ ((128 : Int) = 0) ∧
 Fin B h28 (fun h' => ∃ m', m' < m29 ∧ J32 (IntKind.wrap .u64 ((IntKind.wrap .u64 ((i26) * (128))) + (Int.tmod (IntKind.wrap .u64 (byteAt s1 (Int.toNat (i27)))) (128)))) (IntKind.wrap .i64 ((i27) - (1))) m' h')) ∧ (¬ ((i27 : Int) ≥ (0)) →
 Fin B h28 (fun h' => S_countermandref01_Taken_J2 B s1 i4 (i26) h' Q)))
def S_countermandref01_Taken (B : RO) (s1 : ByteArray) (h : Heap) (Q : Int → Int → Heap → Prop) : Prop :=
 ∃ (J9 : Int → Nat → Heap → Prop) (m7 : Nat), Fin B h (J9 (1) m7) ∧
 ∀ (i4 : Int) (m6 : Nat) (h5 : Heap), J9 i4 m6 h5 →
 ((i4 : Int) ≤ (10) →
 ((i4 : Int) ≤ ((ByteArray.size s1 : Nat)) →
 Fin B h5 (fun h' => S_countermandref01_Taken_J1 B s1 i4 m6 J9 h' Q)) ∧ (¬ ((i4 : Int) ≤ ((ByteArray.size s1 : Nat))) →
 Fin B h5 (Q (0) (0)))) ∧ (¬ ((i4 : Int) ≤ (10)) →
 Fin B h5 (Q (0) (0)))
def S_stylus_Reader_Nat (B : RO) (p1 : Option Addr) (i2 : Int) (h : Heap) (Q : Int → Heap → Prop) : Prop :=
 C_stylus_Reader_word B p1 h (fun i5 h4 =>
 ((i2 : Int) < (0) →
 C_stylus_Reader_Spoil B p1 h4 (fun h7 =>
 Fin B h7 (Q (0)))) ∧ (¬ ((i2 : Int) < (0)) →
 ((i5 : Int) > (IntKind.wrap .u64 (i2)) →
 C_stylus_Reader_Spoil B p1 h4 (fun h9 =>
 Fin B h9 (Q (0)))) ∧ (¬ ((i5 : Int) > (IntKind.wrap .u64 (i2))) →
 Fin B h4 (Q (IntKind.wrap .i64 (i5))))))
def S_stylus_Reader_Int (B : RO) (p1 : Option Addr) (h : Heap) (Q : Int → Heap → Prop) : Prop :=
 C_stylus_Reader_word B p1 h (fun i4 h3 =>
 ¬ ((1 : Int) < 0) ∧
 Fin B h3 (Q (IntKind.wrap .i64 ((BitVec.ofInt (IntKind.bits .i64) (IntKind.wrap .i64 (Int.fdiv (i4) (2 ^ (min (Int.toNat (1)) (IntKind.bits .u64))))) ^^^ BitVec.ofInt (IntKind.bits .i64) (IntKind.wrap .i64 (0 - (IntKind.wrap .i64 (IntKind.wrap .u64 ((BitVec.ofInt (IntKind.bits .u64) (i4) &&& BitVec.ofInt (IntKind.bits .u64) (1)).toNat : Int)))))).toNat : Int))))
def S_countermandref01_Signed (B : RO) (i1 : Int) (h : Heap) (Q : Int → Heap → Prop) : Prop :=
 ¬ ((2 : Int) = 0) ∧
 ((Int.tmod (i1) (2) : Int) = 1 →
 ¬ ((2 : Int) = 0) ∧
 Fin B h (Q (IntKind.wrap .i64 ((IntKind.wrap .i64 (0 - (IntKind.wrap .i64 (IntKind.wrap .u64 (Int.tdiv (i1) (2)))))) - (1))))) ∧ (¬ ((Int.tmod (i1) (2) : Int) = 1) →
 ¬ ((2 : Int) = 0) ∧
 Fin B h (Q (IntKind.wrap .i64 (IntKind.wrap .u64 (Int.tdiv (i1) (2))))))
def S_stylus_Reader_Raw_J1 (B : RO) (p1 : Option Addr) (i2 : Int) (h5 : Heap) (Q : ByteArray → Heap → Prop) : Prop :=
 ∃ A6 : Addr, p1 = some A6 ∧
 ∃ s8 : ByteArray, cellH B h5 A6 = some (Value.string s8) ∧
 0 ≤ (0 : Int) ∧ (0 : Int) ≤ (i2 : Int) ∧ (i2 : Int) ≤ (ByteArray.size s8 : Nat) ∧
 ∃ A9 : Addr, p1 = some A9 ∧
 ∃ s11 : ByteArray, cellH B h5 A9 = some (Value.string s11) ∧
 0 ≤ (i2 : Int) ∧ (i2 : Int) ≤ ((ByteArray.size s11 : Nat) : Int) ∧ ((ByteArray.size s11 : Nat) : Int) ≤ (ByteArray.size s11 : Nat) ∧
 ∃ A12 : Addr, p1 = some A12 ∧
 ∃ h14 : Heap, storeH h5 A12 (Value.string (ByteArray.extract s11 (Int.toNat (i2)) (Int.toNat ((ByteArray.size s11 : Nat))))) = some h14 ∧
 Fin B h14 (Q (ByteArray.extract s8 (Int.toNat (0)) (Int.toNat (i2))))
def S_stylus_Reader_Raw (B : RO) (p1 : Option Addr) (i2 : Int) (h : Heap) (Q : ByteArray → Heap → Prop) : Prop :=
 (p1 = none →
 C_stylus_Reader_Spoil B p1 h (fun h16 =>
 Fin B h16 (Q (ByteArray.mk #[])))) ∧ (¬ (p1 = none) →
 ∃ A17 : Addr, p1 = some A17 ∧
 ∃ b19 : Bool, cellH B h (Addr.add A17 1) = some (Value.bool b19) ∧ (b19 = true →
 C_stylus_Reader_Spoil B p1 h (fun h27 =>
 Fin B h27 (Q (ByteArray.mk #[])))) ∧ (b19 = false →
 ((i2 : Int) < (0) →
 C_stylus_Reader_Spoil B p1 h (fun h21 =>
 Fin B h21 (Q (ByteArray.mk #[])))) ∧ (¬ ((i2 : Int) < (0)) →
 ∃ A22 : Addr, p1 = some A22 ∧
 ∃ s24 : ByteArray, cellH B h A22 = some (Value.string s24) ∧
 ((i2 : Int) > ((ByteArray.size s24 : Nat)) →
 C_stylus_Reader_Spoil B p1 h (fun h26 =>
 Fin B h26 (Q (ByteArray.mk #[])))) ∧ (¬ ((i2 : Int) > ((ByteArray.size s24 : Nat))) →
 Fin B h (fun h' => S_stylus_Reader_Raw_J1 B p1 i2 h' Q)))))
def S_stylus_Reader_Text (B : RO) (p1 : Option Addr) (i2 : Int) (h : Heap) (Q : ByteArray → Heap → Prop) : Prop :=
 C_stylus_Reader_Nat B p1 (i2) h (fun i5 h4 =>
 C_stylus_Reader_Raw B p1 (i5) h4 (fun s7 h6 =>
 Fin B h6 (Q s7)))
def S_stylus_Reader_Bad (B : RO) (p1 : Option Addr) (h : Heap) (Q : Bool → Heap → Prop) : Prop :=
 (p1 = none →
 Fin B h (Q (true))) ∧ (¬ (p1 = none) →
 ∃ A4 : Addr, p1 = some A4 ∧
 ∃ b6 : Bool, cellH B h (Addr.add A4 1) = some (Value.bool b6) ∧
 Fin B h (Q (b6)))
def S_stylus_Reader_Left (B : RO) (p1 : Option Addr) (h : Heap) (Q : Int → Heap → Prop) : Prop :=
 (p1 = none →
 Fin B h (Q (0))) ∧ (¬ (p1 = none) →
 ∃ A4 : Addr, p1 = some A4 ∧
 ∃ s6 : ByteArray, cellH B h A4 = some (Value.string s6) ∧
 Fin B h (Q ((ByteArray.size s6 : Nat))))
def S_stylus_Reader_Over (B : RO) (p1 : Option Addr) (h : Heap) (Q : Bool → Heap → Prop) : Prop :=
 (p1 = none →
 Fin B h (Q (false))) ∧ (¬ (p1 = none) →
 ∃ A4 : Addr, p1 = some A4 ∧
 ∃ b6 : Bool, cellH B h (Addr.add A4 1) = some (Value.bool b6) ∧ (b6 = true →
 Fin B h (Q (false))) ∧ (b6 = false →
 ∃ A7 : Addr, p1 = some A7 ∧
 ∃ s9 : ByteArray, cellH B h A7 = some (Value.string s9) ∧
 Fin B h (Q ((decide (s9 = (ByteArray.mk #[])))))))
def S_stylus_Reader_Spoil (B : RO) (p1 : Option Addr) (h : Heap) (Q : Heap → Prop) : Prop :=
 (p1 = none →
 Fin B h (Q)) ∧ (¬ (p1 = none) →
 ∃ A3 : Addr, p1 = some A3 ∧
 ∃ h5 : Heap, storeH h A3 (Value.string (ByteArray.mk #[])) = some h5 ∧
 ∃ A6 : Addr, p1 = some A6 ∧
 ∃ h8 : Heap, storeH h5 (Addr.add A6 1) (Value.bool true) = some h8 ∧
 Fin B h8 (Q))
def S_stylus_Stylus_Text (B : RO) (p1 : Option Addr) (a2 : Option Addr) (n3 : Nat) (c4 : Nat) (h : Heap) (Q : Heap → Prop) : Prop :=
 ∃ (J10 : Int → Nat → Heap → Prop) (m8 : Nat), Fin B h (J10 (0) m8) ∧
 ∀ (i5 : Int) (m7 : Nat) (h6 : Heap), J10 i5 m7 h6 →
 ((i5 : Int) < ((n3 : Nat)) →
 ∃ A12 : Addr, a2 = some A12 ∧ 0 ≤ (i5 : Int) ∧ (i5 : Int) < (n3 : Nat) ∧
 ∃ s14 : ByteArray, cellH B h6 (Addr.add A12 (Int.toNat (i5) * 1)) = some (Value.string s14) ∧
 ∀ k15 : Nat, h6 k15 = none → B k15 = none → ∀ h16 : Heap, h16 = Heap.set h6 k15 (.vec 3 (plains [(Value.int .i64 ((ByteArray.size s14 : Nat)))]) 1) →
 C_stylus_Stylus_Nat B p1 (some ⟨k15, 0, none⟩) 1 1 h16 (fun h17 =>
 C_stylus_Stylus_Raw B p1 s14 h17 (fun h18 =>
 Fin B h18 (fun h' => ∃ m', m' < m7 ∧ J10 (IntKind.wrap .i64 ((i5) + (1))) m' h')))) ∧ (¬ ((i5 : Int) < ((n3 : Nat))) →
 Fin B h6 (Q))
def S_stylus_Stylus_Bytes (B : RO) (p1 : Option Addr) (h : Heap) (Q : ByteArray → Heap → Prop) : Prop :=
 ∃ A3 : Addr, p1 = some A3 ∧
 LdSl B h A3 fun a5 n6 c7 h8 =>
 semH PG B (convert 38 9 (Value.slice a5 n6 c7)) h8 (fun v h10 => ∃ s9 : ByteArray, v = (Value.string s9) ∧
 Fin B h10 (Q s9))
def S_countermandlaw01_great (B : RO) (a1 : Option Addr) (n2 : Nat) (c3 : Nat) (h : Heap) (Q : Bool → Heap → Prop) : Prop :=
 (((n2 : Nat) : Int) > (50) →
 Fin B h (Q (true))) ∧ (¬ (((n2 : Nat) : Int) > (50)) →
 ∃ (J12 : Int → Int → Nat → Heap → Prop) (m10 : Nat), Fin B h (J12 (0) (0) m10) ∧
 ∀ (i6 : Int) (i7 : Int) (m9 : Nat) (h8 : Heap), J12 i6 i7 m9 h8 →
 ((i7 : Int) < ((n2 : Nat)) →
 ∃ A14 : Addr, a1 = some A14 ∧ 0 ≤ (i7 : Int) ∧ (i7 : Int) < (n2 : Nat) ∧
 ∃ i16 : Int, ∃ i17 : Int, ∃ s18 : ByteArray, CellsAt B h8 (Addr.add A14 (Int.toNat (i7) * 3)) 0 [(Value.int .i64 (i16)), (Value.int .i64 (i17)), (Value.string s18)] ∧
 ∀ k19 : Nat, h8 k19 = none → B k19 = none → ∀ h20 : Heap, h20 = Heap.set h8 k19 (.vec 50 (plains [(Value.int .i64 (0)), (Value.int .i64 (0)), (Value.string ByteArray.empty)]) 3) →
 ∃ h21 : Heap, StoresAt ⟨k19, 0, none⟩ h20 0 [(Value.int .i64 (i16)), (Value.int .i64 (i17)), (Value.string s18)] h21 ∧
 ∃ s22 : ByteArray, cellH B h21 ⟨k19, 2, none⟩ = some (Value.string s22) ∧
 (((ByteArray.size s22 : Nat) : Int) > (2048) →
 Fin B h21 (Q (true))) ∧ (¬ (((ByteArray.size s22 : Nat) : Int) > (2048)) →
 ∃ s24 : ByteArray, cellH B h21 ⟨k19, 2, none⟩ = some (Value.string s24) ∧
 ((IntKind.wrap .i64 ((i6) + ((ByteArray.size s24 : Nat))) : Int) > (2048) →
 Fin B h21 (Q (true))) ∧ (¬ ((IntKind.wrap .i64 ((i6) + ((ByteArray.size s24 : Nat))) : Int) > (2048)) →
 Fin B h21 (fun h' => ∃ m', m' < m9 ∧ J12 (IntKind.wrap .i64 ((i6) + ((ByteArray.size s24 : Nat)))) (IntKind.wrap .i64 ((i7) + (1))) m' h')))) ∧ (¬ ((i7 : Int) < ((n2 : Nat))) →
 Fin B h8 (Q (false))))
def S_countermandlaw01_put (B : RO) (a1 : Option Addr) (n2 : Nat) (c3 : Nat) (h : Heap) (Q : ByteArray → ByteArray → Heap → Prop) : Prop :=
 ∀ k6 : Nat, h k6 = none → B k6 = none → ∀ h7 : Heap, h7 = Heap.set h k6 (.vec 40 (plains [(Value.slice none 0 0)]) 1) →
 ∃ (J14 : ByteArray → Int → Nat → Heap → Prop) (m12 : Nat), Fin B h7 (J14 (ByteArray.mk #[]) (0) m12) ∧
 ∀ (s8 : ByteArray) (i9 : Int) (m11 : Nat) (h10 : Heap), J14 s8 i9 m11 h10 →
 ((i9 : Int) < ((n2 : Nat)) →
 ∃ A16 : Addr, a1 = some A16 ∧ 0 ≤ (i9 : Int) ∧ (i9 : Int) < (n2 : Nat) ∧
 ∃ i18 : Int, ∃ i19 : Int, ∃ s20 : ByteArray, CellsAt B h10 (Addr.add A16 (Int.toNat (i9) * 3)) 0 [(Value.int .i64 (i18)), (Value.int .i64 (i19)), (Value.string s20)] ∧
 ∀ k21 : Nat, h10 k21 = none → B k21 = none → ∀ h22 : Heap, h22 = Heap.set h10 k21 (.vec 50 (plains [(Value.int .i64 (0)), (Value.int .i64 (0)), (Value.string ByteArray.empty)]) 3) →
 ∃ h23 : Heap, StoresAt ⟨k21, 0, none⟩ h22 0 [(Value.int .i64 (i18)), (Value.int .i64 (i19)), (Value.string s20)] h23 ∧
 ∃ i24 : Int, cellH B h23 ⟨k21, 0, none⟩ = some (Value.int .i64 (i24)) ∧
 ((i24 : Int) = 0 →
 ∃ i26 : Int, cellH B h23 ⟨k21, 1, none⟩ = some (Value.int .i64 (i26)) ∧
 ∀ k27 : Nat, h23 k27 = none → B k27 = none → ∀ h28 : Heap, h28 = Heap.set h23 k27 (.vec 3 (plains [(Value.int .i64 (i26))]) 1) →
 C_stylus_Stylus_Nat B (some ⟨k6, 0, none⟩) (some ⟨k27, 0, none⟩) 1 1 h28 (fun h29 =>
 ∃ i30 : Int, cellH B h29 ⟨k21, 1, none⟩ = some (Value.int .i64 (i30)) ∧
 C_countermandref01_Nat B (i30) h29 (fun s32 h31 =>
 ByteArray.size s8 + ByteArray.size s32 ≤ 4611686018427387904 ∧
 Fin B h31 (fun h' => ∃ m', m' < m11 ∧ J14 (s8 ++ s32) (IntKind.wrap .i64 ((i9) + (1))) m' h')))) ∧ (¬ ((i24 : Int) = 0) →
 ((i24 : Int) = 1 →
 ∃ i34 : Int, cellH B h23 ⟨k21, 1, none⟩ = some (Value.int .i64 (i34)) ∧
 ∀ k35 : Nat, h23 k35 = none → B k35 = none → ∀ h36 : Heap, h36 = Heap.set h23 k35 (.vec 3 (plains [(Value.int .i64 (i34))]) 1) →
 C_stylus_Stylus_Int B (some ⟨k6, 0, none⟩) (some ⟨k35, 0, none⟩) 1 1 h36 (fun h37 =>
 ∃ i38 : Int, cellH B h37 ⟨k21, 1, none⟩ = some (Value.int .i64 (i38)) ∧
 C_countermandref01_Int B (i38) h37 (fun s40 h39 =>
 ByteArray.size s8 + ByteArray.size s40 ≤ 4611686018427387904 ∧
 Fin B h39 (fun h' => ∃ m', m' < m11 ∧ J14 (s8 ++ s40) (IntKind.wrap .i64 ((i9) + (1))) m' h')))) ∧ (¬ ((i24 : Int) = 1) →
 ((i24 : Int) = 2 →
 ∃ s42 : ByteArray, cellH B h23 ⟨k21, 2, none⟩ = some (Value.string s42) ∧
 C_stylus_Stylus_Raw B (some ⟨k6, 0, none⟩) s42 h23 (fun h43 =>
 ∃ s44 : ByteArray, cellH B h43 ⟨k21, 2, none⟩ = some (Value.string s44) ∧
 ByteArray.size s8 + ByteArray.size s44 ≤ 4611686018427387904 ∧
 Fin B h43 (fun h' => ∃ m', m' < m11 ∧ J14 (s8 ++ s44) (IntKind.wrap .i64 ((i9) + (1))) m' h'))) ∧ (¬ ((i24 : Int) = 2) →
 ((i24 : Int) = 3 →
 ∃ s46 : ByteArray, cellH B h23 ⟨k21, 2, none⟩ = some (Value.string s46) ∧
 ∀ k47 : Nat, h23 k47 = none → B k47 = none → ∀ h48 : Heap, h48 = Heap.set h23 k47 (.vec 9 (plains [(Value.string s46)]) 1) →
 C_stylus_Stylus_Text B (some ⟨k6, 0, none⟩) (some ⟨k47, 0, none⟩) 1 1 h48 (fun h49 =>
 ∃ s50 : ByteArray, cellH B h49 ⟨k21, 2, none⟩ = some (Value.string s50) ∧
 C_countermandref01_Text B s50 h49 (fun s52 h51 =>
 ByteArray.size s8 + ByteArray.size s52 ≤ 4611686018427387904 ∧
 Fin B h51 (fun h' => ∃ m', m' < m11 ∧ J14 (s8 ++ s52) (IntKind.wrap .i64 ((i9) + (1))) m' h')))) ∧ (¬ ((i24 : Int) = 3) →
 Fin B h23 (fun h' => ∃ m', m' < m11 ∧ J14 s8 (IntKind.wrap .i64 ((i9) + (1))) m' h')))))) ∧ (¬ ((i9 : Int) < ((n2 : Nat))) →
 C_stylus_Stylus_Bytes B (some ⟨k6, 0, none⟩) h10 (fun s54 h53 =>
 Fin B h53 (Q s54 s8)))
def S_stylus_Stylus_Nat_J1 (B : RO) (p1 : Option Addr) (a2 : Option Addr) (n3 : Nat) (c4 : Nat) (i5 : Int) (m7 : Nat) (J10 : Int → Nat → Heap → Prop) (i17 : Int) (h18 : Heap) (Q : Heap → Prop) : Prop :=
 ∃ A19 : Addr, p1 = some A19 ∧
 LdSl B h18 A19 fun a21 n22 c23 h24 =>
 ∀ k25 : Nat, h24 k25 = none → B k25 = none → ∀ h26 : Heap, h26 = Heap.set h24 k25 (.vec 5 (plains [(Value.int .u8 (IntKind.wrap .u8 (i17)))]) 1) →
 semH PG B (Builtin.append_ #[38, 38] 38 #[(Value.slice a21 n22 c23), (Value.slice (some ⟨k25, 0, none⟩) 1 1)]) h26 (fun v h27 => ∃ a28 : Option Addr, ∃ n29 : Nat, ∃ c30 : Nat, v = (Value.slice a28 n29 c30) ∧
 ∃ A31 : Addr, p1 = some A31 ∧
 ∃ h33 : Heap, storeH h27 A31 (Value.slice a28 n29 c30) = some h33 ∧
 Fin B h33 (fun h' => ∃ m', m' < m7 ∧ J10 (IntKind.wrap .i64 ((i5) + (1))) m' h'))
def S_stylus_Stylus_Nat (B : RO) (p1 : Option Addr) (a2 : Option Addr) (n3 : Nat) (c4 : Nat) (h : Heap) (Q : Heap → Prop) : Prop :=
 ∃ (J10 : Int → Nat → Heap → Prop) (m8 : Nat), Fin B h (J10 (0) m8) ∧
 ∀ (i5 : Int) (m7 : Nat) (h6 : Heap), J10 i5 m7 h6 →
 ((i5 : Int) < ((n3 : Nat)) →
 ∃ A12 : Addr, a2 = some A12 ∧ 0 ≤ (i5 : Int) ∧ (i5 : Int) < (n3 : Nat) ∧
 ∃ i14 : Int, cellH B h6 (Addr.add A12 (Int.toNat (i5) * 1)) = some (Value.int .i64 (i14)) ∧
 ((i14 : Int) < (0) →
 Fin B h6 (fun h' => ∃ m', m' < m7 ∧ J10 (IntKind.wrap .i64 ((i5) + (1))) m' h')) ∧ (¬ ((i14 : Int) < (0)) →
 ∃ (J39 : Int → Nat → Heap → Prop) (m37 : Nat), Fin B h6 (J39 (i14) m37) ∧
 ∀ (i34 : Int) (m36 : Nat) (h35 : Heap), J39 i34 m36 h35 →
 ((i34 : Int) ≥ (128) →
 ∃ A41 : Addr, p1 = some A41 ∧
 LdSl B h35 A41 fun a43 n44 c45 h46 =>
 ∀ k47 : Nat, h46 k47 = none → B k47 = none → ∀ h48 : Heap, h48 = Heap.set h46 k47 (.vec 5 (plains [(Value.int .u8 (IntKind.wrap .u8 ((BitVec.ofInt (IntKind.bits .u8) (IntKind.wrap .u8 (i34)) ||| BitVec.ofInt (IntKind.bits .u8) (128)).toNat : Int)))]) 1) →
 semH PG B (Builtin.append_ #[38, 38] 38 #[(Value.slice a43 n44 c45), (Value.slice (some ⟨k47, 0, none⟩) 1 1)]) h48 (fun v h49 => ∃ a50 : Option Addr, ∃ n51 : Nat, ∃ c52 : Nat, v = (Value.slice a50 n51 c52) ∧
 ∃ A53 : Addr, p1 = some A53 ∧
 ∃ h55 : Heap, storeH h49 A53 (Value.slice a50 n51 c52) = some h55 ∧
 ¬ ((7 : Int) < 0) ∧
 Fin B h55 (fun h' => ∃ m', m' < m36 ∧ J39 (Int.fdiv (i34) (2 ^ (min (Int.toNat (7)) (IntKind.bits .i64)))) m' h'))) ∧ (¬ ((i34 : Int) ≥ (128)) →
 Fin B h35 (fun h' => S_stylus_Stylus_Nat_J1 B p1 a2 n3 c4 i5 m7 J10 (i34) h' Q)))) ∧ (¬ ((i5 : Int) < ((n3 : Nat))) →
 Fin B h6 (Q))
def S_stylus_Stylus_Int_J1 (B : RO) (p1 : Option Addr) (a2 : Option Addr) (n3 : Nat) (c4 : Nat) (i5 : Int) (m7 : Nat) (J10 : Int → Nat → Heap → Prop) (i16 : Int) (h17 : Heap) (Q : Heap → Prop) : Prop :=
 ∃ A18 : Addr, p1 = some A18 ∧
 LdSl B h17 A18 fun a20 n21 c22 h23 =>
 ∀ k24 : Nat, h23 k24 = none → B k24 = none → ∀ h25 : Heap, h25 = Heap.set h23 k24 (.vec 5 (plains [(Value.int .u8 (IntKind.wrap .u8 (i16)))]) 1) →
 semH PG B (Builtin.append_ #[38, 38] 38 #[(Value.slice a20 n21 c22), (Value.slice (some ⟨k24, 0, none⟩) 1 1)]) h25 (fun v h26 => ∃ a27 : Option Addr, ∃ n28 : Nat, ∃ c29 : Nat, v = (Value.slice a27 n28 c29) ∧
 ∃ A30 : Addr, p1 = some A30 ∧
 ∃ h32 : Heap, storeH h26 A30 (Value.slice a27 n28 c29) = some h32 ∧
 Fin B h32 (fun h' => ∃ m', m' < m7 ∧ J10 (IntKind.wrap .i64 ((i5) + (1))) m' h'))
def S_stylus_Stylus_Int (B : RO) (p1 : Option Addr) (a2 : Option Addr) (n3 : Nat) (c4 : Nat) (h : Heap) (Q : Heap → Prop) : Prop :=
 ∃ (J10 : Int → Nat → Heap → Prop) (m8 : Nat), Fin B h (J10 (0) m8) ∧
 ∀ (i5 : Int) (m7 : Nat) (h6 : Heap), J10 i5 m7 h6 →
 ((i5 : Int) < ((n3 : Nat)) →
 ∃ A12 : Addr, a2 = some A12 ∧ 0 ≤ (i5 : Int) ∧ (i5 : Int) < (n3 : Nat) ∧
 ∃ i14 : Int, cellH B h6 (Addr.add A12 (Int.toNat (i5) * 1)) = some (Value.int .i64 (i14)) ∧
 ¬ ((1 : Int) < 0) ∧
 ¬ ((63 : Int) < 0) ∧
 ∃ (J38 : Int → Nat → Heap → Prop) (m36 : Nat), Fin B h6 (J38 (IntKind.wrap .u64 ((BitVec.ofInt (IntKind.bits .u64) (IntKind.wrap .u64 ((IntKind.wrap .u64 (i14)) * 2 ^ (min (Int.toNat (1)) (IntKind.bits .u64)))) ^^^ BitVec.ofInt (IntKind.bits .u64) (IntKind.wrap .u64 (Int.fdiv (i14) (2 ^ (min (Int.toNat (63)) (IntKind.bits .i64)))))).toNat : Int)) m36) ∧
 ∀ (i33 : Int) (m35 : Nat) (h34 : Heap), J38 i33 m35 h34 →
 ((i33 : Int) ≥ (128) →
 ∃ A40 : Addr, p1 = some A40 ∧
 LdSl B h34 A40 fun a42 n43 c44 h45 =>
 ∀ k46 : Nat, h45 k46 = none → B k46 = none → ∀ h47 : Heap, h47 = Heap.set h45 k46 (.vec 5 (plains [(Value.int .u8 (IntKind.wrap .u8 ((BitVec.ofInt (IntKind.bits .u8) (IntKind.wrap .u8 (i33)) ||| BitVec.ofInt (IntKind.bits .u8) (128)).toNat : Int)))]) 1) →
 semH PG B (Builtin.append_ #[38, 38] 38 #[(Value.slice a42 n43 c44), (Value.slice (some ⟨k46, 0, none⟩) 1 1)]) h47 (fun v h48 => ∃ a49 : Option Addr, ∃ n50 : Nat, ∃ c51 : Nat, v = (Value.slice a49 n50 c51) ∧
 ∃ A52 : Addr, p1 = some A52 ∧
 ∃ h54 : Heap, storeH h48 A52 (Value.slice a49 n50 c51) = some h54 ∧
 ¬ ((7 : Int) < 0) ∧
 Fin B h54 (fun h' => ∃ m', m' < m35 ∧ J38 (Int.fdiv (i33) (2 ^ (min (Int.toNat (7)) (IntKind.bits .u64)))) m' h'))) ∧ (¬ ((i33 : Int) ≥ (128)) →
 Fin B h34 (fun h' => S_stylus_Stylus_Int_J1 B p1 a2 n3 c4 i5 m7 J10 (i33) h' Q))) ∧ (¬ ((i5 : Int) < ((n3 : Nat))) →
 Fin B h6 (Q))
def S_countermandref01_Wide_J1 (B : RO) (i4 : Int) (s5 : ByteArray) (h6 : Heap) (Q : ByteArray → Heap → Prop) : Prop :=
 ∀ k7 : Nat, h6 k7 = none → B k7 = none → ∀ h8 : Heap, h8 = Heap.set h6 k7 (.vec 5 (plains [(Value.int .u8 (IntKind.wrap .u8 (i4)))]) 1) →
 semH PG B (convert 38 9 (Value.slice (some ⟨k7, 0, none⟩) 1 1)) h8 (fun v h10 => ∃ s9 : ByteArray, v = (Value.string s9) ∧
 ByteArray.size s5 + ByteArray.size s9 ≤ 4611686018427387904 ∧
 Fin B h10 (Q (s5 ++ s9)))
def S_countermandref01_Wide (B : RO) (i1 : Int) (h : Heap) (Q : ByteArray → Heap → Prop) : Prop :=
 ∃ (J17 : Int → ByteArray → Nat → Heap → Prop) (m15 : Nat), Fin B h (J17 (i1) (ByteArray.mk #[]) m15) ∧
 ∀ (i11 : Int) (s12 : ByteArray) (m14 : Nat) (h13 : Heap), J17 i11 s12 m14 h13 →
 ((i11 : Int) > (127) →
 ¬ ((128 : Int) = 0) ∧
 ∀ k19 : Nat, h13 k19 = none → B k19 = none → ∀ h20 : Heap, h20 = Heap.set h13 k19 (.vec 5 (plains [(Value.int .u8 (IntKind.wrap .u8 (IntKind.wrap .u64 ((128) + (Int.tmod (i11) (128))))))]) 1) →
 semH PG B (convert 38 9 (Value.slice (some ⟨k19, 0, none⟩) 1 1)) h20 (fun v h22 => ∃ s21 : ByteArray, v = (Value.string s21) ∧
 ByteArray.size s12 + ByteArray.size s21 ≤ 4611686018427387904 ∧
 ¬ ((128 : Int) = 0) ∧
 Fin B h22 (fun h' => ∃ m', m' < m14 ∧ J17 (IntKind.wrap .u64 (Int.tdiv (i11) (128))) (s12 ++ s21) m' h'))) ∧ (¬ ((i11 : Int) > (127)) →
 Fin B h13 (fun h' => S_countermandref01_Wide_J1 B (i11) s12 h' Q))
def S_stylus_Reader_word_J1 (B : RO) (p1 : Option Addr) (i3 : Int) (i4 : Int) (m6 : Nat) (J9 : Int → Int → Nat → Heap → Prop) (s12 : ByteArray) (h14 : Heap) (Q : Int → Heap → Prop) : Prop :=
 0 ≤ (0 : Int) ∧ (0 : Int) < (ByteArray.size s12 : Nat) ∧
 ¬ ((i4 : Int) < 0) ∧
 0 ≤ (0 : Int) ∧ (0 : Int) < (ByteArray.size s12 : Nat) ∧
 ((byteAt s12 (Int.toNat (0)) : Int) < (128) →
 Fin B h14 (Q (IntKind.wrap .u64 ((BitVec.ofInt (IntKind.bits .u64) (i3) ||| BitVec.ofInt (IntKind.bits .u64) (IntKind.wrap .u64 ((IntKind.wrap .u64 (IntKind.wrap .u8 ((BitVec.ofInt (IntKind.bits .u8) (byteAt s12 (Int.toNat (0))) &&& BitVec.ofInt (IntKind.bits .u8) (127)).toNat : Int))) * 2 ^ (min (Int.toNat (i4)) (IntKind.bits .u64))))).toNat : Int)))) ∧ (¬ ((byteAt s12 (Int.toNat (0)) : Int) < (128)) →
 Fin B h14 (fun h' => ∃ m', m' < m6 ∧ J9 (IntKind.wrap .u64 ((BitVec.ofInt (IntKind.bits .u64) (i3) ||| BitVec.ofInt (IntKind.bits .u64) (IntKind.wrap .u64 ((IntKind.wrap .u64 (IntKind.wrap .u8 ((BitVec.ofInt (IntKind.bits .u8) (byteAt s12 (Int.toNat (0))) &&& BitVec.ofInt (IntKind.bits .u8) (127)).toNat : Int))) * 2 ^ (min (Int.toNat (i4)) (IntKind.bits .u64))))).toNat : Int)) (IntKind.wrap .i64 ((i4) + (7))) m' h'))
def S_stylus_Reader_word (B : RO) (p1 : Option Addr) (h : Heap) (Q : Int → Heap → Prop) : Prop :=
 ∃ (J9 : Int → Int → Nat → Heap → Prop) (m7 : Nat), Fin B h (J9 (0) (0) m7) ∧
 ∀ (i3 : Int) (i4 : Int) (m6 : Nat) (h5 : Heap), J9 i3 i4 m6 h5 →
 ((i4 : Int) < (64) →
 C_stylus_Reader_Raw B p1 (1) h5 (fun s12 h11 =>
 (s12 = (ByteArray.mk #[]) →
 C_stylus_Reader_Spoil B p1 h11 (fun h17 =>
 Fin B h17 (Q (0)))) ∧ (¬ (s12 = (ByteArray.mk #[])) →
 ((i4 : Int) = 63 →
 0 ≤ (0 : Int) ∧ (0 : Int) < (ByteArray.size s12 : Nat) ∧
 ((byteAt s12 (Int.toNat (0)) : Int) > (1) →
 C_stylus_Reader_Spoil B p1 h11 (fun h20 =>
 Fin B h20 (Q (0)))) ∧ (¬ ((byteAt s12 (Int.toNat (0)) : Int) > (1)) →
 ((i4 : Int) > (0) →
 0 ≤ (0 : Int) ∧ (0 : Int) < (ByteArray.size s12 : Nat) ∧
 ((byteAt s12 (Int.toNat (0)) : Int) = 0 →
 C_stylus_Reader_Spoil B p1 h11 (fun h23 =>
 Fin B h23 (Q (0)))) ∧ (¬ ((byteAt s12 (Int.toNat (0)) : Int) = 0) →
 Fin B h11 (fun h' => S_stylus_Reader_word_J1 B p1 i3 i4 m6 J9 s12 h' Q))) ∧ (¬ ((i4 : Int) > (0)) →
 Fin B h11 (fun h' => S_stylus_Reader_word_J1 B p1 i3 i4 m6 J9 s12 h' Q)))) ∧ (¬ ((i4 : Int) = 63) →
 ((i4 : Int) > (0) →
 0 ≤ (0 : Int) ∧ (0 : Int) < (ByteArray.size s12 : Nat) ∧
 ((byteAt s12 (Int.toNat (0)) : Int) = 0 →
 C_stylus_Reader_Spoil B p1 h11 (fun h26 =>
 Fin B h26 (Q (0)))) ∧ (¬ ((byteAt s12 (Int.toNat (0)) : Int) = 0) →
 Fin B h11 (fun h' => S_stylus_Reader_word_J1 B p1 i3 i4 m6 J9 s12 h' Q))) ∧ (¬ ((i4 : Int) > (0)) →
 Fin B h11 (fun h' => S_stylus_Reader_word_J1 B p1 i3 i4 m6 J9 s12 h' Q)))))) ∧ (¬ ((i4 : Int) < (64)) →
 C_stylus_Reader_Spoil B p1 h5 (fun h27 =>
 Fin B h27 (Q (0))))
def S_stylus_Stylus_Raw (B : RO) (p1 : Option Addr) (s2 : ByteArray) (h : Heap) (Q : Heap → Prop) : Prop :=
 ∃ A3 : Addr, p1 = some A3 ∧
 LdSl B h A3 fun a5 n6 c7 h8 =>
 semH PG B (Builtin.append_ #[38, 9] 38 #[(Value.slice a5 n6 c7), (Value.string s2)]) h8 (fun v h9 => ∃ a10 : Option Addr, ∃ n11 : Nat, ∃ c12 : Nat, v = (Value.slice a10 n11 c12) ∧
 ∃ A13 : Addr, p1 = some A13 ∧
 ∃ h15 : Heap, storeH h9 A13 (Value.slice a10 n11 c12) = some h15 ∧
 Fin B h15 (Q))
def S_countermandref01_Nat (B : RO) (i1 : Int) (h : Heap) (Q : ByteArray → Heap → Prop) : Prop :=
 ((i1 : Int) < (0) →
 Fin B h (Q (ByteArray.mk #[]))) ∧ (¬ ((i1 : Int) < (0)) →
 C_countermandref01_Wide B (IntKind.wrap .u64 (i1)) h (fun s5 h4 =>
 Fin B h4 (Q s5)))
def S_countermandref01_Int (B : RO) (i1 : Int) (h : Heap) (Q : ByteArray → Heap → Prop) : Prop :=
 ((i1 : Int) < (0) →
 C_countermandref01_Wide B (IntKind.wrap .u64 ((IntKind.wrap .u64 ((2) * (IntKind.wrap .u64 (IntKind.wrap .i64 (0 - (IntKind.wrap .i64 ((i1) + (1)))))))) + (1))) h (fun s5 h4 =>
 Fin B h4 (Q s5))) ∧ (¬ ((i1 : Int) < (0)) →
 C_countermandref01_Wide B (IntKind.wrap .u64 ((2) * (IntKind.wrap .u64 (i1)))) h (fun s7 h6 =>
 Fin B h6 (Q s7)))
def S_countermandref01_Text (B : RO) (s1 : ByteArray) (h : Heap) (Q : ByteArray → Heap → Prop) : Prop :=
 C_countermandref01_Nat B ((ByteArray.size s1 : Nat)) h (fun s4 h3 =>
 ByteArray.size s4 + ByteArray.size s1 ≤ 4611686018427387904 ∧
 Fin B h3 (Q (s4 ++ s1)))
end Go.Proofs.Ytoajfmmomgpjcaa.H
