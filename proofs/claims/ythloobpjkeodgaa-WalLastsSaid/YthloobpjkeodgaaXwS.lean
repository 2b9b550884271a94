/- What each function asks. No condition. -/
import Derived.Test.YthloobpjkeodgaaXwF
namespace Go.Proofs.Ythloobpjkeodgaa.H
open Go
set_option linter.unusedVariables false
set_option maxRecDepth 100000

def S_countermandlaw04_WalStops_J2 (B : RO) (k6 : Nat) (k8 : Nat) (k27 : Nat) (k30 : Nat) (h34 : Heap) (Q : Bool → Heap → Prop) : Prop :=
 ∃ i35 : Int, cellH B h34 ⟨k30, 0, none⟩ = some (Value.int .i64 (i35)) ∧
 ∃ i36 : Int, cellH B h34 ⟨k6, 0, none⟩ = some (Value.int .i64 (i36)) ∧
 ((i35 : Int) = i36 →
 ∃ h38 : Heap, storeH h34 ⟨k8, 0, none⟩ (Value.bool true) = some h38 ∧
 ∃ b39 : Bool, cellH B h38 ⟨k8, 0, none⟩ = some (Value.bool b39) ∧ Fin B h38 (Q (b39))) ∧ (¬ ((i35 : Int) = i36) →
 ∃ i40 : Int, cellH B h34 ⟨k30, 0, none⟩ = some (Value.int .i64 (i40)) ∧
 LdSl B h34 ⟨k27, 0, none⟩ fun a41 n42 c43 h44 =>
 ∃ h45 : Heap, storeH h44 ⟨k8, 0, none⟩ (Value.bool ((i40 : Int) == ((n42 : Nat)))) = some h45 ∧
 ∃ b46 : Bool, cellH B h45 ⟨k8, 0, none⟩ = some (Value.bool b46) ∧ Fin B h45 (Q (b46)))
def S_countermandlaw04_WalStops_J3 (B : RO) (k6 : Nat) (k8 : Nat) (k27 : Nat) (k30 : Nat) (q52 : Nat) (J53 : Nat → Heap → Prop) (b56 : Bool) (h57 : Heap) (Q : Bool → Heap → Prop) : Prop :=
 (b56 = true →
 ∃ h63 : Heap, storeH h57 ⟨k8, 0, none⟩ (Value.bool false) = some h63 ∧
 ∃ b64 : Bool, cellH B h63 ⟨k8, 0, none⟩ = some (Value.bool b64) ∧ Fin B h63 (Q (b64))) ∧ (b56 = false →
 ∃ i58 : Int, cellH B h57 ⟨k30, 0, none⟩ = some (Value.int .i64 (i58)) ∧
 ∃ h59 : Heap, storeH h57 ⟨k30, 0, none⟩ (Value.int .i64 (IntKind.wrap .i64 ((i58) + (1)))) = some h59 ∧
 ∃ i60 : Int, cellH B h59 ⟨k30, 0, none⟩ = some (Value.int .i64 (i60)) ∧
 ∃ i61 : Int, cellH B h59 ⟨k6, 0, none⟩ = some (Value.int .i64 (i61)) ∧
 ((i60 : Int) = i61 →
 Fin B h59 (fun h' => S_countermandlaw04_WalStops_J2 B k6 k8 k27 k30 h' Q)) ∧ (¬ ((i60 : Int) = i61) →
 Fin B h59 (J53 (q52 + 1))))
def S_countermandlaw04_WalStops_J1 (B : RO) (k6 : Nat) (k8 : Nat) (p19 : Option Addr) (h22 : Heap) (Q : Bool → Heap → Prop) : Prop :=
 C_countermandlaw04_loads B p19 h22 (fun a24 n25 c26 h23 =>
 ∀ k27 : Nat, h23 k27 = none → B k27 = none → ∀ h28 : Heap, h28 = Heap.set h23 k27 (.vec 55 (plains [(Value.slice none 0 0)]) 1) →
 ∃ h29 : Heap, storeH h28 ⟨k27, 0, none⟩ (Value.slice a24 n25 c26) = some h29 ∧
 ∀ k30 : Nat, h29 k30 = none → B k30 = none → ∀ h31 : Heap, h31 = Heap.set h29 k30 (.vec 3 (plains [(Value.int .i64 (0))]) 1) →
 ∃ h32 : Heap, storeH h31 ⟨k30, 0, none⟩ (Value.int .i64 (0)) = some h32 ∧
 C_wal_Log_All B p19 h32 (fun v48 h47 =>
 ∃ (xs54 : List (ByteArray)) (G50 : Heap → Prop) (J53 : Nat → Heap → Prop), Iter PG B v48 (xs54.map (fun x : ByteArray => [(Value.string x)])) G50 ∧ Ins G50 ∧ (∀ i h, J53 i h → G50 h) ∧ Fin B h47 (J53 0) ∧
 (∀ (q52 : Nat) (h51 : Heap) (s49 : ByteArray), xs54[q52]? = some (s49) → J53 q52 h51 →
 ∃ i65 : Int, cellH B h51 ⟨k30, 0, none⟩ = some (Value.int .i64 (i65)) ∧
 LdSl B h51 ⟨k27, 0, none⟩ fun a66 n67 c68 h69 =>
 ((i65 : Int) ≥ ((n67 : Nat)) →
 Fin B h69 (fun h' => S_countermandlaw04_WalStops_J3 B k6 k8 k27 k30 q52 J53 (true) h' Q)) ∧ (¬ ((i65 : Int) ≥ ((n67 : Nat))) →
 LdSl B h69 ⟨k27, 0, none⟩ fun a71 n72 c73 h74 =>
 ∃ i75 : Int, cellH B h74 ⟨k30, 0, none⟩ = some (Value.int .i64 (i75)) ∧
 ∃ A76 : Addr, a71 = some A76 ∧ 0 ≤ (i75 : Int) ∧ (i75 : Int) < (n72 : Nat) ∧
 ∃ s78 : ByteArray, cellH B h74 (Addr.add A76 (Int.toNat (i75) * 1)) = some (Value.string s78) ∧
 (s49 = s78 →
 Fin B h74 (fun h' => S_countermandlaw04_WalStops_J3 B k6 k8 k27 k30 q52 J53 (false) h' Q)) ∧ (¬ (s49 = s78) →
 Fin B h74 (fun h' => S_countermandlaw04_WalStops_J3 B k6 k8 k27 k30 q52 J53 (true) h' Q)))) ∧
 (∀ (h51 : Heap), J53 xs54.length h51 →
 Fin B h51 (fun h' => S_countermandlaw04_WalStops_J2 B k6 k8 k27 k30 h' Q))))
def S_countermandlaw04_WalStops (B : RO) (a1 : Option Addr) (n2 : Nat) (c3 : Nat) (i4 : Int) (h : Heap) (Q : Bool → Heap → Prop) : Prop :=
 ∀ k6 : Nat, h k6 = none → B k6 = none → ∀ h7 : Heap, h7 = Heap.set h k6 (.vec 3 [.plain (Value.int .i64 (i4))] 1) →
 ∀ k8 : Nat, h7 k8 = none → B k8 = none → ∀ h9 : Heap, h9 = Heap.set h7 k8 (.vec 4 (plains [(Value.bool false)]) 1) →
 C_countermandlaw04_alive B h9 (fun b11 h10 =>
 (b11 = true →
 C_countermandlaw04_heavy B a1 n2 c3 h10 (fun b15 h14 =>
 (b15 = true →
 ∃ h92 : Heap, storeH h14 ⟨k8, 0, none⟩ (Value.bool true) = some h92 ∧
 ∃ b93 : Bool, cellH B h92 ⟨k8, 0, none⟩ = some (Value.bool b93) ∧ Fin B h92 (Q (b93))) ∧ (b15 = false →
 C_disk_New B h14 (fun p17 h16 =>
 C_wal_Open B p17 (1) h16 (fun p19 i20 h18 =>
 ∃ (J85 : Int → Nat → Heap → Prop) (m83 : Nat), Fin B h18 (J85 (0) m83) ∧
 ∀ (i80 : Int) (m82 : Nat) (h81 : Heap), J85 i80 m82 h81 →
 ((i80 : Int) < ((n2 : Nat)) →
 ∃ A87 : Addr, a1 = some A87 ∧ 0 ≤ (i80 : Int) ∧ (i80 : Int) < (n2 : Nat) ∧
 ∃ s89 : ByteArray, cellH B h81 (Addr.add A87 (Int.toNat (i80) * 1)) = some (Value.string s89) ∧
 C_wal_Log_Append B p19 s89 h81 (fun i91 h90 =>
 Fin B h90 (fun h' => ∃ m', m' < m82 ∧ J85 (IntKind.wrap .i64 ((i80) + (1))) m' h'))) ∧ (¬ ((i80 : Int) < ((n2 : Nat))) →
 Fin B h81 (fun h' => S_countermandlaw04_WalStops_J1 B k6 k8 p19 h' Q))))))) ∧ (b11 = false →
 ∃ h12 : Heap, storeH h10 ⟨k8, 0, none⟩ (Value.bool false) = some h12 ∧
 ∃ b13 : Bool, cellH B h12 ⟨k8, 0, none⟩ = some (Value.bool b13) ∧ Fin B h12 (Q (b13))))
def S_countermandlaw04_WalOther_J2 (B : RO) (s4 : ByteArray) (p11 : Option Addr) (h19 : Heap) (Q : Bool → Heap → Prop) : Prop :=
 C_disk_Disk_Read B p11 (1) h19 (fun s21 h20 =>
 (s21 = s4 →
 C_disk_Disk_Safe B p11 (1) h20 (fun s24 h23 =>
 Fin B h23 (Q ((decide (s24 = s4)))))) ∧ (¬ (s21 = s4) →
 Fin B h20 (Q (false))))
def S_countermandlaw04_WalOther_J1 (B : RO) (a1 : Option Addr) (n2 : Nat) (c3 : Nat) (s4 : ByteArray) (h9 : Heap) (Q : Bool → Heap → Prop) : Prop :=
 C_disk_New B h9 (fun p11 h10 =>
 C_disk_Disk_Append B p11 (1) s4 h10 (fun i13 h12 =>
 C_disk_Disk_Sync B p11 h12 (fun h14 =>
 C_wal_Open B p11 (0) h14 (fun p16 i17 h15 =>
 ∃ (J31 : Option Addr → Int → Nat → Heap → Prop) (m29 : Nat), Fin B h15 (J31 p16 (0) m29) ∧
 ∀ (p25 : Option Addr) (i26 : Int) (m28 : Nat) (h27 : Heap), J31 p25 i26 m28 h27 →
 ((i26 : Int) < ((n2 : Nat)) →
 ∃ A33 : Addr, a1 = some A33 ∧ 0 ≤ (i26 : Int) ∧ (i26 : Int) < (n2 : Nat) ∧
 ∃ i35 : Int, ∃ s36 : ByteArray, ∃ i37 : Int, ∃ i38 : Int, CellsAt B h27 (Addr.add A33 (Int.toNat (i26) * 4)) 0 [(Value.int .i64 (i35)), (Value.string s36), (Value.int .i64 (i37)), (Value.int .i64 (i38))] ∧
 ∀ k39 : Nat, h27 k39 = none → B k39 = none → ∀ h40 : Heap, h40 = Heap.set h27 k39 (.vec 73 (plains [(Value.int .i64 (0)), (Value.string ByteArray.empty), (Value.int .i64 (0)), (Value.int .i64 (0))]) 4) →
 ∃ h41 : Heap, StoresAt ⟨k39, 0, none⟩ h40 0 [(Value.int .i64 (i35)), (Value.string s36), (Value.int .i64 (i37)), (Value.int .i64 (i38))] h41 ∧
 ∃ i42 : Int, cellH B h41 ⟨k39, 0, none⟩ = some (Value.int .i64 (i42)) ∧
 ((i42 : Int) = 0 →
 ∃ s44 : ByteArray, cellH B h41 ⟨k39, 1, none⟩ = some (Value.string s44) ∧
 C_wal_Log_Append B p25 s44 h41 (fun i46 h45 =>
 Fin B h45 (fun h' => ∃ m', m' < m28 ∧ J31 p25 (IntKind.wrap .i64 ((i26) + (1))) m' h'))) ∧ (¬ ((i42 : Int) = 0) →
 ((i42 : Int) = 1 →
 C_wal_Log_Force B p25 h41 (fun h48 =>
 Fin B h48 (fun h' => ∃ m', m' < m28 ∧ J31 p25 (IntKind.wrap .i64 ((i26) + (1))) m' h'))) ∧ (¬ ((i42 : Int) = 1) →
 ((i42 : Int) = 2 →
 C_wal_Log_Clear B p25 h41 (fun h50 =>
 Fin B h50 (fun h' => ∃ m', m' < m28 ∧ J31 p25 (IntKind.wrap .i64 ((i26) + (1))) m' h'))) ∧ (¬ ((i42 : Int) = 2) →
 ((i42 : Int) = 3 →
 ∃ i52 : Int, cellH B h41 ⟨k39, 2, none⟩ = some (Value.int .i64 (i52)) ∧
 ∃ i53 : Int, cellH B h41 ⟨k39, 3, none⟩ = some (Value.int .i64 (i53)) ∧
 C_disk_Disk_Crash B p11 (i52) (i53) h41 (fun h54 =>
 C_wal_Open B p11 (0) h54 (fun p56 i57 h55 =>
 Fin B h55 (fun h' => ∃ m', m' < m28 ∧ J31 p56 (IntKind.wrap .i64 ((i26) + (1))) m' h')))) ∧ (¬ ((i42 : Int) = 3) →
 Fin B h41 (fun h' => ∃ m', m' < m28 ∧ J31 p25 (IntKind.wrap .i64 ((i26) + (1))) m' h')))))) ∧ (¬ ((i26 : Int) < ((n2 : Nat))) →
 Fin B h27 (fun h' => S_countermandlaw04_WalOther_J2 B s4 p11 h' Q))))))
def S_countermandlaw04_WalOther (B : RO) (a1 : Option Addr) (n2 : Nat) (c3 : Nat) (s4 : ByteArray) (h : Heap) (Q : Bool → Heap → Prop) : Prop :=
 C_countermandlaw04_alive B h (fun b7 h6 =>
 (b7 = true →
 C_countermandlaw04_great B a1 n2 c3 h6 (fun b59 h58 =>
 (b59 = true →
 Fin B h58 (Q (true))) ∧ (b59 = false →
 (((ByteArray.size s4 : Nat) : Int) > (1024) →
 Fin B h58 (Q (true))) ∧ (¬ (((ByteArray.size s4 : Nat) : Int) > (1024)) →
 Fin B h58 (fun h' => S_countermandlaw04_WalOther_J1 B a1 n2 c3 s4 h' Q))))) ∧ (b7 = false →
 Fin B h6 (Q (false))))
def S_countermandlaw04_WalLasts_J1 (B : RO) (i5 : Int) (i6 : Int) (p13 : Option Addr) (p15 : Option Addr) (a18 : Option Addr) (n19 : Nat) (c20 : Nat) (i21 : Int) (h22 : Heap) (Q : Bool → Heap → Prop) : Prop :=
 C_wal_Log_Lasting B p15 h22 (fun i24 h23 =>
 ((i24 : Int) = i21 →
 C_disk_Disk_Crash B p13 (i5) (i6) h23 (fun h26 =>
 C_wal_Open B p13 (0) h26 (fun p28 i29 h27 =>
 C_countermandlaw04_loads B p28 h27 (fun a31 n32 c33 h30 =>
 (((n32 : Nat) : Int) ≥ (i21) →
 (((n32 : Nat) : Int) ≤ ((n19 : Nat)) →
 0 ≤ (0 : Int) ∧ (0 : Int) ≤ ((n32 : Nat) : Int) ∧ ((n32 : Nat) : Int) ≤ (c20 : Nat) ∧
 C_countermandlaw04_same B a31 n32 c33 (if c20 = Int.toNat (0) then a18 else Option.map (·.add (Int.toNat (0) * 1)) a18) (Int.toNat ((n32 : Nat)) - Int.toNat (0)) (c20 - Int.toNat (0)) h30 (fun b37 h36 =>
 Fin B h36 (Q (b37)))) ∧ (¬ (((n32 : Nat) : Int) ≤ ((n19 : Nat))) →
 Fin B h30 (Q (false)))) ∧ (¬ (((n32 : Nat) : Int) ≥ (i21)) →
 Fin B h30 (Q (false))))))) ∧ (¬ ((i24 : Int) = i21) →
 Fin B h23 (Q (false))))
def S_countermandlaw04_WalLasts_J2 (B : RO) (a1 : Option Addr) (n2 : Nat) (c3 : Nat) (i4 : Int) (i5 : Int) (i6 : Int) (p13 : Option Addr) (p15 : Option Addr) (i41 : Int) (i42 : Int) (m44 : Nat) (J47 : Option Addr → Nat → Nat → Int → Int → Nat → Heap → Prop) (a53 : Option Addr) (n54 : Nat) (c55 : Nat) (h56 : Heap) (Q : Bool → Heap → Prop) : Prop :=
 ((i42 : Int) = i4 →
 C_wal_Log_Force B p15 h56 (fun h58 =>
 Fin B h58 (fun h' => ∃ m', m' < m44 ∧ J47 a53 n54 c55 ((n54 : Nat)) (IntKind.wrap .i64 ((i42) + (1))) m' h'))) ∧ (¬ ((i42 : Int) = i4) →
 Fin B h56 (fun h' => ∃ m', m' < m44 ∧ J47 a53 n54 c55 (i41) (IntKind.wrap .i64 ((i42) + (1))) m' h'))
def S_countermandlaw04_WalLasts (B : RO) (a1 : Option Addr) (n2 : Nat) (c3 : Nat) (i4 : Int) (i5 : Int) (i6 : Int) (h : Heap) (Q : Bool → Heap → Prop) : Prop :=
 C_countermandlaw04_alive B h (fun b9 h8 =>
 (b9 = true →
 C_countermandlaw04_heavy B a1 n2 c3 h8 (fun b11 h10 =>
 (b11 = true →
 Fin B h10 (Q (true))) ∧ (b11 = false →
 C_disk_New B h10 (fun p13 h12 =>
 C_wal_Open B p13 (0) h12 (fun p15 i16 h14 =>
 ∃ (J47 : Option Addr → Nat → Nat → Int → Int → Nat → Heap → Prop) (m45 : Nat), Fin B h14 (J47 none 0 0 (0) (0) m45) ∧
 ∀ (a38 : Option Addr) (n39 : Nat) (c40 : Nat) (i41 : Int) (i42 : Int) (m44 : Nat) (h43 : Heap), J47 a38 n39 c40 i41 i42 m44 h43 →
 ((i42 : Int) < ((n2 : Nat)) →
 ∃ A49 : Addr, a1 = some A49 ∧ 0 ≤ (i42 : Int) ∧ (i42 : Int) < (n2 : Nat) ∧
 ∃ s51 : ByteArray, cellH B h43 (Addr.add A49 (Int.toNat (i42) * 1)) = some (Value.string s51) ∧
 C_wal_Log_Append B p15 s51 h43 (fun i60 h59 =>
 ((i60 : Int) = 0 →
 ∀ k62 : Nat, h59 k62 = none → B k62 = none → ∀ h63 : Heap, h63 = Heap.set h59 k62 (.vec 9 (plains [(Value.string s51)]) 1) →
 semH PG B (Builtin.append_ #[55, 55] 55 #[(Value.slice a38 n39 c40), (Value.slice (some ⟨k62, 0, none⟩) 1 1)]) h63 (fun v h64 => ∃ a65 : Option Addr, ∃ n66 : Nat, ∃ c67 : Nat, v = (Value.slice a65 n66 c67) ∧
 Fin B h64 (fun h' => S_countermandlaw04_WalLasts_J2 B a1 n2 c3 i4 i5 i6 p13 p15 i41 i42 m44 J47 a65 n66 c67 h' Q))) ∧ (¬ ((i60 : Int) = 0) →
 Fin B h59 (fun h' => S_countermandlaw04_WalLasts_J2 B a1 n2 c3 i4 i5 i6 p13 p15 i41 i42 m44 J47 a38 n39 c40 h' Q)))) ∧ (¬ ((i42 : Int) < ((n2 : Nat))) →
 Fin B h43 (fun h' => S_countermandlaw04_WalLasts_J1 B i5 i6 p13 p15 a38 n39 c40 (i41) h' Q))))))) ∧ (b9 = false →
 Fin B h8 (Q (false))))
def S_countermandlaw04_WalClears_J3 (B : RO) (s4 : ByteArray) (p11 : Option Addr) (h19 : Heap) (Q : Bool → Heap → Prop) : Prop :=
 ∃ A20 : Addr, p11 = some A20 ∧
 ∃ p22 : Option Addr, cellH B h19 (Addr.add A20 1) = some (Value.pointer p22) ∧
 C_wal_Log_Force B p22 h19 (fun h23 =>
 ∃ A24 : Addr, p11 = some A24 ∧
 ∃ p26 : Option Addr, cellH B h23 A24 = some (Value.pointer p26) ∧
 C_disk_Disk_Crash B p26 (0) (0) h23 (fun h27 =>
 ∃ A28 : Addr, p11 = some A28 ∧
 ∃ p30 : Option Addr, cellH B h27 A28 = some (Value.pointer p30) ∧
 C_wal_Open B p30 (0) h27 (fun p32 i33 h31 =>
 C_countermandlaw04_loads B p32 h31 (fun a35 n36 c37 h34 =>
 ∀ k38 : Nat, h34 k38 = none → B k38 = none → ∀ h39 : Heap, h39 = Heap.set h34 k38 (.vec 9 (plains [(Value.string s4)]) 1) →
 C_countermandlaw04_same B a35 n36 c37 (some ⟨k38, 0, none⟩) 1 1 h39 (fun b41 h40 =>
 (b41 = true →
 C_wal_Log_Lasting B p32 h40 (fun i43 h42 =>
 Fin B h42 (Q (((i43 : Int) == (1)))))) ∧ (b41 = false →
 Fin B h40 (Q (false))))))))
def S_countermandlaw04_WalClears_J2 (B : RO) (s4 : ByteArray) (p11 : Option Addr) (h13 : Heap) (Q : Bool → Heap → Prop) : Prop :=
 ∃ A14 : Addr, p11 = some A14 ∧
 ∃ p16 : Option Addr, cellH B h13 (Addr.add A14 1) = some (Value.pointer p16) ∧
 C_wal_Log_Clear B p16 h13 (fun h17 =>
 ∃ A44 : Addr, p11 = some A44 ∧
 ∃ p46 : Option Addr, cellH B h17 (Addr.add A44 1) = some (Value.pointer p46) ∧
 C_wal_Log_Size B p46 h17 (fun i48 h47 =>
 ((i48 : Int) = 0 →
 ∃ A50 : Addr, p11 = some A50 ∧
 ∃ p52 : Option Addr, cellH B h47 (Addr.add A50 1) = some (Value.pointer p52) ∧
 C_wal_Log_Torn B p52 h47 (fun b54 h53 =>
 (b54 = true →
 Fin B h53 (Q (false))) ∧ (b54 = false →
 ∃ A55 : Addr, p11 = some A55 ∧
 ∃ p57 : Option Addr, cellH B h53 (Addr.add A55 1) = some (Value.pointer p57) ∧
 C_countermandlaw04_loads B p57 h53 (fun a59 n60 c61 h58 =>
 (((n60 : Nat) : Int) = 0 →
 ∃ A63 : Addr, p11 = some A63 ∧
 ∃ p65 : Option Addr, cellH B h58 (Addr.add A63 1) = some (Value.pointer p65) ∧
 C_wal_Log_Append B p65 s4 h58 (fun i67 h66 =>
 ((i67 : Int) = 0 →
 Fin B h66 (fun h' => S_countermandlaw04_WalClears_J3 B s4 p11 h' Q)) ∧ (¬ ((i67 : Int) = 0) →
 Fin B h66 (Q (false))))) ∧ (¬ (((n60 : Nat) : Int) = 0) →
 Fin B h58 (Q (false))))))) ∧ (¬ ((i48 : Int) = 0) →
 Fin B h47 (Q (false)))))
def S_countermandlaw04_WalClears_J1 (B : RO) (a1 : Option Addr) (n2 : Nat) (c3 : Nat) (s4 : ByteArray) (h9 : Heap) (Q : Bool → Heap → Prop) : Prop :=
 C_countermandlaw04_start B (0) h9 (fun p11 h10 =>
 ∃ (J74 : Int → Nat → Heap → Prop) (m72 : Nat), Fin B h10 (J74 (0) m72) ∧
 ∀ (i69 : Int) (m71 : Nat) (h70 : Heap), J74 i69 m71 h70 →
 ((i69 : Int) < ((n2 : Nat)) →
 ∃ A76 : Addr, a1 = some A76 ∧ 0 ≤ (i69 : Int) ∧ (i69 : Int) < (n2 : Nat) ∧
 ∃ i78 : Int, ∃ s79 : ByteArray, ∃ i80 : Int, ∃ i81 : Int, CellsAt B h70 (Addr.add A76 (Int.toNat (i69) * 4)) 0 [(Value.int .i64 (i78)), (Value.string s79), (Value.int .i64 (i80)), (Value.int .i64 (i81))] ∧
 ∀ k82 : Nat, h70 k82 = none → B k82 = none → ∀ h83 : Heap, h83 = Heap.set h70 k82 (.vec 73 (plains [(Value.int .i64 (0)), (Value.string ByteArray.empty), (Value.int .i64 (0)), (Value.int .i64 (0))]) 4) →
 ∃ h84 : Heap, StoresAt ⟨k82, 0, none⟩ h83 0 [(Value.int .i64 (i78)), (Value.string s79), (Value.int .i64 (i80)), (Value.int .i64 (i81))] h84 ∧
 ∃ i85 : Int, ∃ s86 : ByteArray, ∃ i87 : Int, ∃ i88 : Int, CellsAt B h84 ⟨k82, 0, none⟩ 0 [(Value.int .i64 (i85)), (Value.string s86), (Value.int .i64 (i87)), (Value.int .i64 (i88))] ∧
 C_countermandlaw04_both_does B p11 (i85) s86 (i87) (i88) h84 (fun b90 h89 =>
 Fin B h89 (fun h' => ∃ m', m' < m71 ∧ J74 (IntKind.wrap .i64 ((i69) + (1))) m' h'))) ∧ (¬ ((i69 : Int) < ((n2 : Nat))) →
 Fin B h70 (fun h' => S_countermandlaw04_WalClears_J2 B s4 p11 h' Q)))
def S_countermandlaw04_WalClears (B : RO) (a1 : Option Addr) (n2 : Nat) (c3 : Nat) (s4 : ByteArray) (h : Heap) (Q : Bool → Heap → Prop) : Prop :=
 C_countermandlaw04_alive B h (fun b7 h6 =>
 (b7 = true →
 C_countermandlaw04_great B a1 n2 c3 h6 (fun b92 h91 =>
 (b92 = true →
 Fin B h91 (Q (true))) ∧ (b92 = false →
 (((ByteArray.size s4 : Nat) : Int) > (1024) →
 Fin B h91 (Q (true))) ∧ (¬ (((ByteArray.size s4 : Nat) : Int) > (1024)) →
 Fin B h91 (fun h' => S_countermandlaw04_WalClears_J1 B a1 n2 c3 s4 h' Q))))) ∧ (b7 = false →
 Fin B h6 (Q (false))))
def S_countermandlaw04_WalDoes_J2 (B : RO) (i1 : Int) (a2 : Option Addr) (n3 : Nat) (c4 : Nat) (p24 : Option Addr) (i25 : Int) (m27 : Nat) (J30 : Int → Nat → Heap → Prop) (b102 : Bool) (h103 : Heap) (Q : Bool → Heap → Prop) : Prop :=
 (b102 = true →
 Fin B h103 (Q (false))) ∧ (b102 = false →
 Fin B h103 (fun h' => ∃ m', m' < m27 ∧ J30 (IntKind.wrap .i64 ((i25) + (1))) m' h'))
def S_countermandlaw04_WalDoes_J4 (B : RO) (i1 : Int) (a2 : Option Addr) (n3 : Nat) (c4 : Nat) (p24 : Option Addr) (i25 : Int) (m27 : Nat) (J30 : Int → Nat → Heap → Prop) (a93 : Option Addr) (n94 : Nat) (c95 : Nat) (A105 : Addr) (p109 : Option Addr) (h129 : Heap) (Q : Bool → Heap → Prop) : Prop :=
 Fin B h129 (fun h' => S_countermandlaw04_WalDoes_J2 B i1 a2 n3 c4 p24 i25 m27 J30 (true) h' Q)
def S_countermandlaw04_WalDoes_J3 (B : RO) (i1 : Int) (a2 : Option Addr) (n3 : Nat) (c4 : Nat) (p24 : Option Addr) (i25 : Int) (m27 : Nat) (J30 : Int → Nat → Heap → Prop) (a93 : Option Addr) (n94 : Nat) (c95 : Nat) (A105 : Addr) (p109 : Option Addr) (h126 : Heap) (Q : Bool → Heap → Prop) : Prop :=
 ((S_countermandlaw04_WalDoes_J4 B i1 a2 n3 c4 p24 i25 m27 J30 a93 n94 c95 A105 p109 h126 Q) ∧
 ((S_countermandlaw04_WalDoes_J4 B i1 a2 n3 c4 p24 i25 m27 J30 a93 n94 c95 A105 p109 h126 Q) ∧
 (S_countermandlaw04_WalDoes_J4 B i1 a2 n3 c4 p24 i25 m27 J30 a93 n94 c95 A105 p109 h126 Q))) ∧
 (((S_countermandlaw04_WalDoes_J4 B i1 a2 n3 c4 p24 i25 m27 J30 a93 n94 c95 A105 p109 h126 Q) ∧
 (S_countermandlaw04_WalDoes_J4 B i1 a2 n3 c4 p24 i25 m27 J30 a93 n94 c95 A105 p109 h126 Q)) ∧
 (S_countermandlaw04_WalDoes_J4 B i1 a2 n3 c4 p24 i25 m27 J30 a93 n94 c95 A105 p109 h126 Q))
def S_countermandlaw04_WalDoes_J6 (B : RO) (i1 : Int) (a2 : Option Addr) (n3 : Nat) (c4 : Nat) (p24 : Option Addr) (i25 : Int) (m27 : Nat) (J30 : Int → Nat → Heap → Prop) (a93 : Option Addr) (n94 : Nat) (c95 : Nat) (A105 : Addr) (p109 : Option Addr) (b200 : Bool) (b201 : Bool) (h202 : Heap) (Q : Bool → Heap → Prop) : Prop :=
 (b200 = b201 →
 ∃ A205 : Addr, p24 = some A205 ∧
 ∃ p207 : Option Addr, cellH B h202 (Addr.add A205 1) = some (Value.pointer p207) ∧
 C_wal_Log_Lasting B p207 h202 (fun i209 h208 =>
 cellH B h208 (Addr.add A105 1) = some (Value.pointer p109) ∧
 ((i209 : Int) = (n94 : Nat) →
 ∃ A212 : Addr, p24 = some A212 ∧
 ∃ p214 : Option Addr, cellH B h208 (Addr.add A212 1) = some (Value.pointer p214) ∧
 C_wal_Log_Area B p214 h208 (fun i216 h215 =>
 cellH B h215 (Addr.add A105 1) = some (Value.pointer p109) ∧
 ((i216 : Int) = i1 →
 Fin B h215 (fun h' => S_countermandlaw04_WalDoes_J2 B i1 a2 n3 c4 p24 i25 m27 J30 (false) h' Q)) ∧ (¬ ((i216 : Int) = i1) →
 Fin B h215 (fun h' => S_countermandlaw04_WalDoes_J2 B i1 a2 n3 c4 p24 i25 m27 J30 (true) h' Q)))) ∧ (¬ ((i209 : Int) = (n94 : Nat)) →
 Fin B h208 (fun h' => S_countermandlaw04_WalDoes_J2 B i1 a2 n3 c4 p24 i25 m27 J30 (true) h' Q)))) ∧ (¬ (b200 = b201) →
 Fin B h202 (fun h' => S_countermandlaw04_WalDoes_J2 B i1 a2 n3 c4 p24 i25 m27 J30 (true) h' Q))
def S_countermandlaw04_WalDoes_J7 (B : RO) (i1 : Int) (a2 : Option Addr) (n3 : Nat) (c4 : Nat) (p24 : Option Addr) (i25 : Int) (m27 : Nat) (J30 : Int → Nat → Heap → Prop) (a93 : Option Addr) (n94 : Nat) (c95 : Nat) (A105 : Addr) (p109 : Option Addr) (h256 : Heap) (Q : Bool → Heap → Prop) : Prop :=
 Fin B h256 (fun h' => S_countermandlaw04_WalDoes_J2 B i1 a2 n3 c4 p24 i25 m27 J30 (true) h' Q)
def S_countermandlaw04_WalDoes_J5 (B : RO) (i1 : Int) (a2 : Option Addr) (n3 : Nat) (c4 : Nat) (p24 : Option Addr) (i25 : Int) (m27 : Nat) (J30 : Int → Nat → Heap → Prop) (a93 : Option Addr) (n94 : Nat) (c95 : Nat) (A105 : Addr) (p109 : Option Addr) (i151 : Int) (p152 : Option Addr) (h153 : Heap) (Q : Bool → Heap → Prop) : Prop :=
 C_countermandref04_Log_Whole B p152 h153 (fun i156 h155 =>
 cellH B h155 (Addr.add A105 1) = some (Value.pointer p109) ∧
 ((i151 : Int) = i156 →
 ∃ A159 : Addr, p24 = some A159 ∧
 ∃ A161 : Addr, p24 = some A161 ∧
 (∃ p219 : Option Addr, cellH B h155 (Addr.add A159 1) = some (Value.pointer p219) ∧
 (C_wal_Log_Torn B p219 h155 (fun b221 h220 =>
 cellH B h220 (Addr.add A105 1) = some (Value.pointer p109) ∧
 ∃ p223 : Option Addr, cellH B h220 (Addr.add A161 2) = some (Value.pointer p223) ∧
 ∃ A224 : Addr, p223 = some A224 ∧
 ∃ b226 : Bool, cellH B h220 (Addr.add A224 2) = some (Value.bool b226) ∧
 S_countermandlaw04_WalDoes_J6 B i1 a2 n3 c4 p24 i25 m27 J30 a93 n94 c95 A105 p109 (b221) (b226) h220 Q)) ∧
 (∃ p227 : Option Addr, cellH B h155 (Addr.add A161 2) = some (Value.pointer p227) ∧
 ∃ A228 : Addr, p227 = some A228 ∧
 (C_wal_Log_Torn B p219 h155 (fun b231 h230 =>
 cellH B h230 (Addr.add A105 1) = some (Value.pointer p109) ∧
 ∃ b233 : Bool, cellH B h230 (Addr.add A228 2) = some (Value.bool b233) ∧
 S_countermandlaw04_WalDoes_J6 B i1 a2 n3 c4 p24 i25 m27 J30 a93 n94 c95 A105 p109 (b231) (b233) h230 Q)) ∧
 (∃ b234 : Bool, cellH B h155 (Addr.add A228 2) = some (Value.bool b234) ∧
 C_wal_Log_Torn B p219 h155 (fun b236 h235 =>
 cellH B h235 (Addr.add A105 1) = some (Value.pointer p109) ∧
 S_countermandlaw04_WalDoes_J6 B i1 a2 n3 c4 p24 i25 m27 J30 a93 n94 c95 A105 p109 (b236) (b234) h235 Q)))) ∧
 (∃ p238 : Option Addr, cellH B h155 (Addr.add A161 2) = some (Value.pointer p238) ∧
 ∃ A239 : Addr, p238 = some A239 ∧
 (∃ p241 : Option Addr, cellH B h155 (Addr.add A159 1) = some (Value.pointer p241) ∧
 (C_wal_Log_Torn B p241 h155 (fun b243 h242 =>
 cellH B h242 (Addr.add A105 1) = some (Value.pointer p109) ∧
 ∃ b245 : Bool, cellH B h242 (Addr.add A239 2) = some (Value.bool b245) ∧
 S_countermandlaw04_WalDoes_J6 B i1 a2 n3 c4 p24 i25 m27 J30 a93 n94 c95 A105 p109 (b243) (b245) h242 Q)) ∧
 (∃ b246 : Bool, cellH B h155 (Addr.add A239 2) = some (Value.bool b246) ∧
 C_wal_Log_Torn B p241 h155 (fun b248 h247 =>
 cellH B h247 (Addr.add A105 1) = some (Value.pointer p109) ∧
 S_countermandlaw04_WalDoes_J6 B i1 a2 n3 c4 p24 i25 m27 J30 a93 n94 c95 A105 p109 (b248) (b246) h247 Q))) ∧
 (∃ b250 : Bool, cellH B h155 (Addr.add A239 2) = some (Value.bool b250) ∧
 ∃ p251 : Option Addr, cellH B h155 (Addr.add A159 1) = some (Value.pointer p251) ∧
 C_wal_Log_Torn B p251 h155 (fun b253 h252 =>
 cellH B h252 (Addr.add A105 1) = some (Value.pointer p109) ∧
 S_countermandlaw04_WalDoes_J6 B i1 a2 n3 c4 p24 i25 m27 J30 a93 n94 c95 A105 p109 (b253) (b250) h252 Q)))) ∧ (¬ ((i151 : Int) = i156) →
 ((S_countermandlaw04_WalDoes_J7 B i1 a2 n3 c4 p24 i25 m27 J30 a93 n94 c95 A105 p109 h155 Q) ∧
 ((S_countermandlaw04_WalDoes_J7 B i1 a2 n3 c4 p24 i25 m27 J30 a93 n94 c95 A105 p109 h155 Q) ∧
 (S_countermandlaw04_WalDoes_J7 B i1 a2 n3 c4 p24 i25 m27 J30 a93 n94 c95 A105 p109 h155 Q))) ∧
 (((S_countermandlaw04_WalDoes_J7 B i1 a2 n3 c4 p24 i25 m27 J30 a93 n94 c95 A105 p109 h155 Q) ∧
 (S_countermandlaw04_WalDoes_J7 B i1 a2 n3 c4 p24 i25 m27 J30 a93 n94 c95 A105 p109 h155 Q)) ∧
 (S_countermandlaw04_WalDoes_J7 B i1 a2 n3 c4 p24 i25 m27 J30 a93 n94 c95 A105 p109 h155 Q))))
def S_countermandlaw04_WalDoes_J1 (B : RO) (i1 : Int) (a2 : Option Addr) (n3 : Nat) (c4 : Nat) (i17 : Int) (h21 : Heap) (Q : Bool → Heap → Prop) : Prop :=
 ((i17 : Int) = 0 →
 C_countermandlaw04_start B (i1) h21 (fun p24 h23 =>
 ∃ (J30 : Int → Nat → Heap → Prop) (m28 : Nat), Fin B h23 (J30 (0) m28) ∧
 ∀ (i25 : Int) (m27 : Nat) (h26 : Heap), J30 i25 m27 h26 →
 ((i25 : Int) < ((n3 : Nat)) →
 ∃ A32 : Addr, a2 = some A32 ∧ 0 ≤ (i25 : Int) ∧ (i25 : Int) < (n3 : Nat) ∧
 ∃ i34 : Int, ∃ s35 : ByteArray, ∃ i36 : Int, ∃ i37 : Int, CellsAt B h26 (Addr.add A32 (Int.toNat (i25) * 4)) 0 [(Value.int .i64 (i34)), (Value.string s35), (Value.int .i64 (i36)), (Value.int .i64 (i37))] ∧
 ∀ k38 : Nat, h26 k38 = none → B k38 = none → ∀ h39 : Heap, h39 = Heap.set h26 k38 (.vec 73 (plains [(Value.int .i64 (0)), (Value.string ByteArray.empty), (Value.int .i64 (0)), (Value.int .i64 (0))]) 4) →
 ∃ h40 : Heap, StoresAt ⟨k38, 0, none⟩ h39 0 [(Value.int .i64 (i34)), (Value.string s35), (Value.int .i64 (i36)), (Value.int .i64 (i37))] h40 ∧
 ∃ i41 : Int, ∃ s42 : ByteArray, ∃ i43 : Int, ∃ i44 : Int, CellsAt B h40 ⟨k38, 0, none⟩ 0 [(Value.int .i64 (i41)), (Value.string s42), (Value.int .i64 (i43)), (Value.int .i64 (i44))] ∧
 C_countermandlaw04_both_does B p24 (i41) s42 (i43) (i44) h40 (fun b46 h45 =>
 (b46 = true →
 ∃ A47 : Addr, p24 = some A47 ∧
 ∃ p49 : Option Addr, cellH B h45 (Addr.add A47 2) = some (Value.pointer p49) ∧
 C_countermandref04_Log_Text B p49 h45 (fun s51 h50 =>
 ∃ A53 : Addr, p24 = some A53 ∧
 ∃ p57 : Option Addr, cellH B h50 (Addr.add A53 2) = some (Value.pointer p57) ∧
 ∃ A59 : Addr, p57 = some A59 ∧
 ∃ p63 : Option Addr, cellH B h50 A59 = some (Value.pointer p63) ∧
 ∃ A67 : Addr, p24 = some A67 ∧
 ∃ p71 : Option Addr, cellH B h50 (Addr.add A67 2) = some (Value.pointer p71) ∧
 ∃ A73 : Addr, p71 = some A73 ∧
 ∃ p77 : Option Addr, cellH B h50 A73 = some (Value.pointer p77) ∧
 ∃ A79 : Addr, p77 = some A79 ∧
 ∃ i83 : Int, cellH B h50 (Addr.add A79 1) = some (Value.int .i64 (i83)) ∧
 C_countermandref03_Disk_Text B p63 (i1) (i83) h50 (fun s86 h85 =>
 cellH B h85 (Addr.add A53 2) = some (Value.pointer p57) ∧ cellH B h85 A59 = some (Value.pointer p63) ∧ cellH B h85 (Addr.add A67 2) = some (Value.pointer p71) ∧ cellH B h85 A73 = some (Value.pointer p77) ∧ cellH B h85 (Addr.add A79 1) = some (Value.int .i64 (i83)) ∧
 C_countermandref02_All B s86 h85 (fun a93 n94 c95 h92 =>
 cellH B h92 (Addr.add A53 2) = some (Value.pointer p57) ∧ cellH B h92 A59 = some (Value.pointer p63) ∧ cellH B h92 (Addr.add A67 2) = some (Value.pointer p71) ∧ cellH B h92 A73 = some (Value.pointer p77) ∧ cellH B h92 (Addr.add A79 1) = some (Value.int .i64 (i83)) ∧
 ∃ A105 : Addr, p24 = some A105 ∧
 ∃ p109 : Option Addr, cellH B h92 (Addr.add A105 1) = some (Value.pointer p109) ∧
 C_countermandlaw04_loads B p109 h92 (fun a113 n114 c115 h112 =>
 cellH B h112 (Addr.add A105 1) = some (Value.pointer p109) ∧
 C_countermandref02_All B s51 h112 (fun a118 n119 c120 h117 =>
 cellH B h117 (Addr.add A105 1) = some (Value.pointer p109) ∧
 C_countermandlaw04_same B a113 n114 c115 a118 n119 c120 h117 (fun b123 h122 =>
 (b123 = true →
 cellH B h122 (Addr.add A105 1) = some (Value.pointer p109) ∧
 ∃ A132 : Addr, p24 = some A132 ∧
 ∃ A134 : Addr, p24 = some A134 ∧
 (∃ p258 : Option Addr, cellH B h122 (Addr.add A132 1) = some (Value.pointer p258) ∧
 (C_wal_Log_Size B p258 h122 (fun i260 h259 =>
 cellH B h259 (Addr.add A105 1) = some (Value.pointer p109) ∧
 ∃ p262 : Option Addr, cellH B h259 (Addr.add A134 2) = some (Value.pointer p262) ∧
 S_countermandlaw04_WalDoes_J5 B i1 a2 n3 c4 p24 i25 m27 J30 a93 n94 c95 A105 p109 (i260) p262 h259 Q)) ∧
 (∃ p263 : Option Addr, cellH B h122 (Addr.add A134 2) = some (Value.pointer p263) ∧
 C_wal_Log_Size B p258 h122 (fun i265 h264 =>
 cellH B h264 (Addr.add A105 1) = some (Value.pointer p109) ∧
 S_countermandlaw04_WalDoes_J5 B i1 a2 n3 c4 p24 i25 m27 J30 a93 n94 c95 A105 p109 (i265) p263 h264 Q))) ∧
 (∃ p267 : Option Addr, cellH B h122 (Addr.add A134 2) = some (Value.pointer p267) ∧
 ∃ p268 : Option Addr, cellH B h122 (Addr.add A132 1) = some (Value.pointer p268) ∧
 C_wal_Log_Size B p268 h122 (fun i270 h269 =>
 cellH B h269 (Addr.add A105 1) = some (Value.pointer p109) ∧
 S_countermandlaw04_WalDoes_J5 B i1 a2 n3 c4 p24 i25 m27 J30 a93 n94 c95 A105 p109 (i270) p267 h269 Q))) ∧ (b123 = false →
 cellH B h122 (Addr.add A105 1) = some (Value.pointer p109) ∧
 ((S_countermandlaw04_WalDoes_J3 B i1 a2 n3 c4 p24 i25 m27 J30 a93 n94 c95 A105 p109 h122 Q) ∧
 (S_countermandlaw04_WalDoes_J3 B i1 a2 n3 c4 p24 i25 m27 J30 a93 n94 c95 A105 p109 h122 Q)) ∧
 (S_countermandlaw04_WalDoes_J3 B i1 a2 n3 c4 p24 i25 m27 J30 a93 n94 c95 A105 p109 h122 Q))))))))) ∧ (b46 = false →
 Fin B h45 (Q (false))))) ∧ (¬ ((i25 : Int) < ((n3 : Nat))) →
 Fin B h26 (Q (true))))) ∧ (¬ ((i17 : Int) = 0) →
 Fin B h21 (Q (((i17 : Int) == (1)))))
def S_countermandlaw04_WalDoes (B : RO) (i1 : Int) (a2 : Option Addr) (n3 : Nat) (c4 : Nat) (h : Heap) (Q : Bool → Heap → Prop) : Prop :=
 C_countermandlaw04_alive B h (fun b7 h6 =>
 (b7 = true →
 C_countermandlaw04_great B a2 n3 c4 h6 (fun b9 h8 =>
 (b9 = true →
 Fin B h8 (Q (true))) ∧ (b9 = false →
 C_wal_Open B none (i1) h8 (fun p11 i12 h10 =>
 C_disk_New B h10 (fun p14 h13 =>
 C_wal_Open B p14 (i1) h13 (fun p16 i17 h15 =>
 C_wal_Log_Force B none h15 (fun h18 =>
 C_wal_Log_Clear B none h18 (fun h19 =>
 ((i12 : Int) = 2 →
 ((i1 : Int) = 0 →
 (((i17 : Int) == (0)) = true →
 C_wal_Log_Append B none (ByteArray.mk #[]) h19 (fun i276 h275 =>
 ((i276 : Int) = 2 →
 C_countermandlaw04_loads B none h275 (fun a279 n280 c281 h278 =>
 (((n280 : Nat) : Int) = 0 →
 C_wal_Log_Lasting B none h278 (fun i284 h283 =>
 C_wal_Log_Size B none h283 (fun i286 h285 =>
 C_wal_Log_Area B none h285 (fun i288 h287 =>
 ((IntKind.wrap .i64 ((IntKind.wrap .i64 ((i284) + (i286))) + (i288)) : Int) = 0 →
 C_wal_Log_Torn B none h287 (fun b291 h290 =>
 (b291 = true →
 Fin B h290 (Q (false))) ∧ (b291 = false →
 Fin B h290 (fun h' => S_countermandlaw04_WalDoes_J1 B i1 a2 n3 c4 i17 h' Q)))) ∧ (¬ ((IntKind.wrap .i64 ((IntKind.wrap .i64 ((i284) + (i286))) + (i288)) : Int) = 0) →
 Fin B h287 (Q (false))))))) ∧ (¬ (((n280 : Nat) : Int) = 0) →
 Fin B h278 (Q (false))))) ∧ (¬ ((i276 : Int) = 2) →
 Fin B h275 (Q (false))))) ∧ (¬ (((i17 : Int) == (0)) = true) →
 Fin B h19 (Q (false)))) ∧ (¬ ((i1 : Int) = 0) →
 (((i17 : Int) == (0)) = ((i1 : Int) == (1)) →
 C_wal_Log_Append B none (ByteArray.mk #[]) h19 (fun i294 h293 =>
 ((i294 : Int) = 2 →
 C_countermandlaw04_loads B none h293 (fun a297 n298 c299 h296 =>
 (((n298 : Nat) : Int) = 0 →
 C_wal_Log_Lasting B none h296 (fun i302 h301 =>
 C_wal_Log_Size B none h301 (fun i304 h303 =>
 C_wal_Log_Area B none h303 (fun i306 h305 =>
 ((IntKind.wrap .i64 ((IntKind.wrap .i64 ((i302) + (i304))) + (i306)) : Int) = 0 →
 C_wal_Log_Torn B none h305 (fun b309 h308 =>
 (b309 = true →
 Fin B h308 (Q (false))) ∧ (b309 = false →
 Fin B h308 (fun h' => S_countermandlaw04_WalDoes_J1 B i1 a2 n3 c4 i17 h' Q)))) ∧ (¬ ((IntKind.wrap .i64 ((IntKind.wrap .i64 ((i302) + (i304))) + (i306)) : Int) = 0) →
 Fin B h305 (Q (false))))))) ∧ (¬ (((n298 : Nat) : Int) = 0) →
 Fin B h296 (Q (false))))) ∧ (¬ ((i294 : Int) = 2) →
 Fin B h293 (Q (false))))) ∧ (¬ (((i17 : Int) == (0)) = ((i1 : Int) == (1))) →
 Fin B h19 (Q (false))))) ∧ (¬ ((i12 : Int) = 2) →
 Fin B h19 (Q (false))))))))))) ∧ (b7 = false →
 Fin B h6 (Q (false))))
def S_countermandlaw04_alive_J1 (B : RO) (p3 : Option Addr) (h8 : Heap) (Q : Bool → Heap → Prop) : Prop :=
 C_disk_Disk_Crash B p3 (1) (0) h8 (fun h9 =>
 C_wal_Open B p3 (0) h9 (fun p11 i12 h10 =>
 ((i12 : Int) = 0 →
 C_wal_Log_Size B p11 h10 (fun i15 h14 =>
 ((i15 : Int) = 7 →
 C_wal_Log_Torn B p11 h14 (fun b18 h17 =>
 Fin B h17 (Q ((!b18))))) ∧ (¬ ((i15 : Int) = 7) →
 Fin B h14 (Q (false))))) ∧ (¬ ((i12 : Int) = 0) →
 Fin B h10 (Q (false)))))
def S_countermandlaw04_alive (B : RO) (h : Heap) (Q : Bool → Heap → Prop) : Prop :=
 C_disk_New B h (fun p3 h2 =>
 C_wal_Open B p3 (0) h2 (fun p5 i6 h4 =>
 ((i6 : Int) = 0 →
 C_wal_Log_Append B p5 (ByteArray.mk #[97]) h4 (fun i21 h20 =>
 ((i21 : Int) = 0 →
 C_wal_Log_Append B p5 (ByteArray.mk #[98]) h20 (fun i24 h23 =>
 ((i24 : Int) = 0 →
 Fin B h23 (fun h' => S_countermandlaw04_alive_J1 B p3 h' Q)) ∧ (¬ ((i24 : Int) = 0) →
 Fin B h23 (Q (false))))) ∧ (¬ ((i21 : Int) = 0) →
 Fin B h20 (Q (false))))) ∧ (¬ ((i6 : Int) = 0) →
 Fin B h4 (Q (false)))))
def S_countermandlaw04_heavy (B : RO) (a1 : Option Addr) (n2 : Nat) (c3 : Nat) (h : Heap) (Q : Bool → Heap → Prop) : Prop :=
 (((n2 : Nat) : Int) > (50) →
 Fin B h (Q (true))) ∧ (¬ (((n2 : Nat) : Int) > (50)) →
 ∃ (J12 : Int → Int → Nat → Heap → Prop) (m10 : Nat), Fin B h (J12 (0) (0) m10) ∧
 ∀ (i6 : Int) (i7 : Int) (m9 : Nat) (h8 : Heap), J12 i6 i7 m9 h8 →
 ((i7 : Int) < ((n2 : Nat)) →
 ∃ A14 : Addr, a1 = some A14 ∧ 0 ≤ (i7 : Int) ∧ (i7 : Int) < (n2 : Nat) ∧
 ∃ s16 : ByteArray, cellH B h8 (Addr.add A14 (Int.toNat (i7) * 1)) = some (Value.string s16) ∧
 (((ByteArray.size s16 : Nat) : Int) > (8192) →
 Fin B h8 (Q (true))) ∧ (¬ (((ByteArray.size s16 : Nat) : Int) > (8192)) →
 ((IntKind.wrap .i64 ((i6) + ((ByteArray.size s16 : Nat))) : Int) > (8192) →
 Fin B h8 (Q (true))) ∧ (¬ ((IntKind.wrap .i64 ((i6) + ((ByteArray.size s16 : Nat))) : Int) > (8192)) →
 Fin B h8 (fun h' => ∃ m', m' < m9 ∧ J12 (IntKind.wrap .i64 ((i6) + ((ByteArray.size s16 : Nat)))) (IntKind.wrap .i64 ((i7) + (1))) m' h')))) ∧ (¬ ((i7 : Int) < ((n2 : Nat))) →
 Fin B h8 (Q (false))))
def S_wal_Open_J1 (B : RO) (p1 : Option Addr) (i2 : Int) (h6 : Heap) (Q : Option Addr → Int → Heap → Prop) : Prop :=
 C_disk_Disk_Read B p1 (i2) h6 (fun s8 h7 =>
 C_wafer_Whole B s8 h7 (fun i10 h9 =>
 ∀ k11 : Nat, h9 k11 = none → B k11 = none → ∀ h12 : Heap, h12 = Heap.set h9 k11 (.vec 171 (plains [(Value.pointer p1), (Value.int .i64 (i2)), (Value.int .i64 (i10)), (Value.bool (decide ((i10 : Int) < ((ByteArray.size s8 : Nat)))))]) 4) →
 Fin B h12 (Q (some ⟨k11, 0, none⟩) (0))))
def S_wal_Open (B : RO) (p1 : Option Addr) (i2 : Int) (h : Heap) (Q : Option Addr → Int → Heap → Prop) : Prop :=
 (p1 = none →
 Fin B h (Q none (2))) ∧ (¬ (p1 = none) →
 ((i2 : Int) = 0 →
 Fin B h (fun h' => S_wal_Open_J1 B p1 i2 h' Q)) ∧ (¬ ((i2 : Int) = 0) →
 ((i2 : Int) = 1 →
 Fin B h (fun h' => S_wal_Open_J1 B p1 i2 h' Q)) ∧ (¬ ((i2 : Int) = 1) →
 Fin B h (Q none (1)))))
def S_disk_New (B : RO) (h : Heap) (Q : Option Addr → Heap → Prop) : Prop :=
 ∀ k2 : Nat, h k2 = none → B k2 = none → ∀ h3 : Heap, h3 = Heap.set h k2 (.vec 177 (plains [(Value.string ByteArray.empty), (Value.string ByteArray.empty), (Value.string ByteArray.empty), (Value.string ByteArray.empty), (Value.slice none 0 0)]) 5) →
 Fin B h3 (Q (some ⟨k2, 0, none⟩))
def S_wal_Log_Append_J1 (B : RO) (p1 : Option Addr) (s2 : ByteArray) (h5 : Heap) (Q : Int → Heap → Prop) : Prop :=
 C_wafer_Close B s2 h5 (fun s7 h6 =>
 ∃ A9 : Addr, p1 = some A9 ∧
 ∃ p13 : Option Addr, cellH B h6 A9 = some (Value.pointer p13) ∧
 ∃ A16 : Addr, p1 = some A16 ∧
 ∃ i20 : Int, cellH B h6 (Addr.add A16 1) = some (Value.int .i64 (i20)) ∧
 C_disk_Disk_Append B p13 (i20) s7 h6 (fun i24 h23 =>
 cellH B h23 A9 = some (Value.pointer p13) ∧ cellH B h23 (Addr.add A16 1) = some (Value.int .i64 (i20)) ∧
 ((i24 : Int) = 0 →
 ∃ A28 : Addr, p1 = some A28 ∧
 ∃ i30 : Int, cellH B h23 (Addr.add A28 2) = some (Value.int .i64 (i30)) ∧
 ∃ A31 : Addr, p1 = some A31 ∧
 ∃ h33 : Heap, storeH h23 (Addr.add A31 2) (Value.int .i64 (IntKind.wrap .i64 ((i30) + ((ByteArray.size s7 : Nat))))) = some h33 ∧
 Fin B h33 (Q (0))) ∧ (¬ ((i24 : Int) = 0) →
 Fin B h23 (Q (i24)))))
def S_wal_Log_Append (B : RO) (p1 : Option Addr) (s2 : ByteArray) (h : Heap) (Q : Int → Heap → Prop) : Prop :=
 (p1 = none →
 Fin B h (Q (2))) ∧ (¬ (p1 = none) →
 (((ByteArray.size s2 : Nat) : Int) > (1024) →
 Fin B h (Q (3))) ∧ (¬ (((ByteArray.size s2 : Nat) : Int) > (1024)) →
 ∃ A36 : Addr, p1 = some A36 ∧
 ∃ b38 : Bool, cellH B h (Addr.add A36 3) = some (Value.bool b38) ∧ (b38 = true →
 Fin B h (Q (9))) ∧ (b38 = false →
 Fin B h (fun h' => S_wal_Log_Append_J1 B p1 s2 h' Q))))
def S_countermandlaw04_loads (B : RO) (p1 : Option Addr) (h : Heap) (Q : Option Addr → Nat → Nat → Heap → Prop) : Prop :=
 ∀ k5 : Nat, h k5 = none → B k5 = none → ∀ h6 : Heap, h6 = Heap.set h k5 (.vec 55 (plains [(Value.slice none 0 0)]) 1) →
 C_wal_Log_All B p1 h6 (fun v8 h7 =>
 ∃ (xs14 : List (ByteArray)) (G10 : Heap → Prop) (J13 : Nat → Heap → Prop), Iter PG B v8 (xs14.map (fun x : ByteArray => [(Value.string x)])) G10 ∧ Ins G10 ∧ (∀ i h, J13 i h → G10 h) ∧ Fin B h7 (J13 0) ∧
 (∀ (q12 : Nat) (h11 : Heap) (s9 : ByteArray), xs14[q12]? = some (s9) → J13 q12 h11 →
 LdSl B h11 ⟨k5, 0, none⟩ fun a15 n16 c17 h18 =>
 ∀ k19 : Nat, h18 k19 = none → B k19 = none → ∀ h20 : Heap, h20 = Heap.set h18 k19 (.vec 9 (plains [(Value.string s9)]) 1) →
 semH PG B (Builtin.append_ #[55, 55] 55 #[(Value.slice a15 n16 c17), (Value.slice (some ⟨k19, 0, none⟩) 1 1)]) h20 (fun v h21 => ∃ a22 : Option Addr, ∃ n23 : Nat, ∃ c24 : Nat, v = (Value.slice a22 n23 c24) ∧
 ∃ h25 : Heap, storeH h21 ⟨k5, 0, none⟩ (Value.slice a22 n23 c24) = some h25 ∧
 Fin B h25 (J13 (q12 + 1)))) ∧
 (∀ (h11 : Heap), J13 xs14.length h11 →
 LdSl B h11 ⟨k5, 0, none⟩ fun a26 n27 c28 h29 =>
 Fin B h29 (Q a26 n27 c28)))
def S_wal_Log_All (B : RO) (p1 : Option Addr) (h : Heap) (Q : Value → Heap → Prop) : Prop :=
 ∀ k3 : Nat, h k3 = none → B k3 = none → ∀ h4 : Heap, h4 = Heap.set h k3 (.vec 57 [.plain (Value.pointer p1)] 1) →
 Fin B h4 (Q (Value.func (.func 91) #[] #[(Value.pointer (some ⟨k3, 0, none⟩))]))
def S_countermandlaw04_great (B : RO) (a1 : Option Addr) (n2 : Nat) (c3 : Nat) (h : Heap) (Q : Bool → Heap → Prop) : Prop :=
 (((n2 : Nat) : Int) > (50) →
 Fin B h (Q (true))) ∧ (¬ (((n2 : Nat) : Int) > (50)) →
 ∃ (J12 : Int → Int → Nat → Heap → Prop) (m10 : Nat), Fin B h (J12 (0) (0) m10) ∧
 ∀ (i6 : Int) (i7 : Int) (m9 : Nat) (h8 : Heap), J12 i6 i7 m9 h8 →
 ((i7 : Int) < ((n2 : Nat)) →
 ∃ A14 : Addr, a1 = some A14 ∧ 0 ≤ (i7 : Int) ∧ (i7 : Int) < (n2 : Nat) ∧
 ∃ i16 : Int, ∃ s17 : ByteArray, ∃ i18 : Int, ∃ i19 : Int, CellsAt B h8 (Addr.add A14 (Int.toNat (i7) * 4)) 0 [(Value.int .i64 (i16)), (Value.string s17), (Value.int .i64 (i18)), (Value.int .i64 (i19))] ∧
 ∀ k20 : Nat, h8 k20 = none → B k20 = none → ∀ h21 : Heap, h21 = Heap.set h8 k20 (.vec 73 (plains [(Value.int .i64 (0)), (Value.string ByteArray.empty), (Value.int .i64 (0)), (Value.int .i64 (0))]) 4) →
 ∃ h22 : Heap, StoresAt ⟨k20, 0, none⟩ h21 0 [(Value.int .i64 (i16)), (Value.string s17), (Value.int .i64 (i18)), (Value.int .i64 (i19))] h22 ∧
 ∃ s23 : ByteArray, cellH B h22 ⟨k20, 1, none⟩ = some (Value.string s23) ∧
 (((ByteArray.size s23 : Nat) : Int) > (8192) →
 Fin B h22 (Q (true))) ∧ (¬ (((ByteArray.size s23 : Nat) : Int) > (8192)) →
 ∃ s25 : ByteArray, cellH B h22 ⟨k20, 1, none⟩ = some (Value.string s25) ∧
 ((IntKind.wrap .i64 ((i6) + ((ByteArray.size s25 : Nat))) : Int) > (8192) →
 Fin B h22 (Q (true))) ∧ (¬ ((IntKind.wrap .i64 ((i6) + ((ByteArray.size s25 : Nat))) : Int) > (8192)) →
 Fin B h22 (fun h' => ∃ m', m' < m9 ∧ J12 (IntKind.wrap .i64 ((i6) + ((ByteArray.size s25 : Nat)))) (IntKind.wrap .i64 ((i7) + (1))) m' h')))) ∧ (¬ ((i7 : Int) < ((n2 : Nat))) →
 Fin B h8 (Q (false))))
def S_disk_Disk_Append_J1 (B : RO) (p1 : Option Addr) (i2 : Int) (s3 : ByteArray) (h6 : Heap) (Q : Int → Heap → Prop) : Prop :=
 ∃ A7 : Addr, p1 = some A7 ∧
 0 ≤ (i2 : Int) ∧ (i2 : Int) < (2 : Nat) ∧
 ∃ s9 : ByteArray, cellH B h6 (Addr.add A7 (Int.toNat (i2) * 2)) = some (Value.string s9) ∧
 ByteArray.size s9 + ByteArray.size s3 ≤ 4611686018427387904 ∧
 ∃ A10 : Addr, p1 = some A10 ∧
 0 ≤ (i2 : Int) ∧ (i2 : Int) < (2 : Nat) ∧
 ∃ h12 : Heap, storeH h6 (Addr.add A10 (Int.toNat (i2) * 2)) (Value.string (s9 ++ s3)) = some h12 ∧
 ∃ A13 : Addr, p1 = some A13 ∧
 LdSl B h12 (Addr.add A13 4) fun a15 n16 c17 h18 =>
 ∀ k19 : Nat, h18 k19 = none → B k19 = none → ∀ h20 : Heap, h20 = Heap.set h18 k19 (.vec 181 (plains [(Value.int .i64 (i2)), (Value.bool false), (Value.string s3)]) 3) →
 semH PG B (Builtin.append_ #[175, 175] 175 #[(Value.slice a15 n16 c17), (Value.slice (some ⟨k19, 0, none⟩) 1 1)]) h20 (fun v h21 => ∃ a22 : Option Addr, ∃ n23 : Nat, ∃ c24 : Nat, v = (Value.slice a22 n23 c24) ∧
 ∃ A25 : Addr, p1 = some A25 ∧
 ∃ h27 : Heap, storeH h21 (Addr.add A25 4) (Value.slice a22 n23 c24) = some h27 ∧
 Fin B h27 (Q (0)))
def S_disk_Disk_Append (B : RO) (p1 : Option Addr) (i2 : Int) (s3 : ByteArray) (h : Heap) (Q : Int → Heap → Prop) : Prop :=
 (p1 = none →
 Fin B h (Q (2))) ∧ (¬ (p1 = none) →
 C_disk_good B (i2) h (fun b30 h29 =>
 (b30 = true →
 ∃ A31 : Addr, p1 = some A31 ∧
 0 ≤ (i2 : Int) ∧ (i2 : Int) < (2 : Nat) ∧
 ∃ s33 : ByteArray, cellH B h29 (Addr.add A31 (Int.toNat (i2) * 2)) = some (Value.string s33) ∧
 (((ByteArray.size s3 : Nat) : Int) > (IntKind.wrap .i64 ((16384) - ((ByteArray.size s33 : Nat)))) →
 Fin B h29 (Q (6))) ∧ (¬ (((ByteArray.size s3 : Nat) : Int) > (IntKind.wrap .i64 ((16384) - ((ByteArray.size s33 : Nat))))) →
 Fin B h29 (fun h' => S_disk_Disk_Append_J1 B p1 i2 s3 h' Q))) ∧ (b30 = false →
 Fin B h29 (Q (1)))))
def S_disk_Disk_Sync (B : RO) (p1 : Option Addr) (h : Heap) (Q : Heap → Prop) : Prop :=
 (p1 = none →
 Fin B h (Q)) ∧ (¬ (p1 = none) →
 ∃ A3 : Addr, p1 = some A3 ∧
 LdSl B h (Addr.add A3 4) fun a5 n6 c7 h8 =>
 ∃ (J14 : Int → Nat → Heap → Prop) (m12 : Nat), Fin B h8 (J14 (0) m12) ∧
 ∀ (i9 : Int) (m11 : Nat) (h10 : Heap), J14 i9 m11 h10 →
 ((i9 : Int) < ((n6 : Nat)) →
 ∃ A16 : Addr, a5 = some A16 ∧ 0 ≤ (i9 : Int) ∧ (i9 : Int) < (n6 : Nat) ∧
 ∃ i18 : Int, ∃ b19 : Bool, ∃ s20 : ByteArray, CellsAt B h10 (Addr.add A16 (Int.toNat (i9) * 3)) 0 [(Value.int .i64 (i18)), (Value.bool b19), (Value.string s20)] ∧
 ∀ k21 : Nat, h10 k21 = none → B k21 = none → ∀ h22 : Heap, h22 = Heap.set h10 k21 (.vec 181 (plains [(Value.int .i64 (0)), (Value.bool false), (Value.string ByteArray.empty)]) 3) →
 ∃ h23 : Heap, StoresAt ⟨k21, 0, none⟩ h22 0 [(Value.int .i64 (i18)), (Value.bool b19), (Value.string s20)] h23 ∧
 ∃ i24 : Int, ∃ b25 : Bool, ∃ s26 : ByteArray, CellsAt B h23 ⟨k21, 0, none⟩ 0 [(Value.int .i64 (i24)), (Value.bool b25), (Value.string s26)] ∧
 C_disk_Disk_land B p1 (i24) (b25) s26 h23 (fun h27 =>
 Fin B h27 (fun h' => ∃ m', m' < m11 ∧ J14 (IntKind.wrap .i64 ((i9) + (1))) m' h'))) ∧ (¬ ((i9 : Int) < ((n6 : Nat))) →
 ∃ A28 : Addr, p1 = some A28 ∧
 ∃ h30 : Heap, storeH h10 (Addr.add A28 4) (Value.slice none 0 0) = some h30 ∧
 Fin B h30 (Q)))
def S_wal_Log_Force (B : RO) (p1 : Option Addr) (h : Heap) (Q : Heap → Prop) : Prop :=
 (p1 = none →
 Fin B h (Q)) ∧ (¬ (p1 = none) →
 ∃ A3 : Addr, p1 = some A3 ∧
 ∃ p5 : Option Addr, cellH B h A3 = some (Value.pointer p5) ∧
 C_disk_Disk_Sync B p5 h (fun h6 =>
 Fin B h6 (Q)))
def S_wal_Log_Clear (B : RO) (p1 : Option Addr) (h : Heap) (Q : Heap → Prop) : Prop :=
 (p1 = none →
 Fin B h (Q)) ∧ (¬ (p1 = none) →
 ∃ A3 : Addr, p1 = some A3 ∧
 ∃ p5 : Option Addr, cellH B h A3 = some (Value.pointer p5) ∧
 ∃ A6 : Addr, p1 = some A6 ∧
 ∃ i8 : Int, cellH B h (Addr.add A6 1) = some (Value.int .i64 (i8)) ∧
 C_disk_Disk_Reset B p5 (i8) h (fun i10 h9 =>
 ∃ A11 : Addr, p1 = some A11 ∧
 ∃ h13 : Heap, storeH h9 (Addr.add A11 2) (Value.int .i64 (0)) = some h13 ∧
 ∃ A14 : Addr, p1 = some A14 ∧
 ∃ h16 : Heap, storeH h13 (Addr.add A14 3) (Value.bool false) = some h16 ∧
 Fin B h16 (Q)))
def S_disk_Disk_Crash_J1 (B : RO) (p1 : Option Addr) (h6 : Heap) (Q : Heap → Prop) : Prop :=
 ∃ A7 : Addr, p1 = some A7 ∧
 ∃ h9 : Heap, storeH h6 (Addr.add A7 4) (Value.slice none 0 0) = some h9 ∧
 ∃ (J15 : Int → Nat → Heap → Prop) (m13 : Nat), Fin B h9 (J15 (0) m13) ∧
 ∀ (i10 : Int) (m12 : Nat) (h11 : Heap), J15 i10 m12 h11 →
 ((i10 : Int) < (2) →
 ∃ A17 : Addr, p1 = some A17 ∧
 0 ≤ (i10 : Int) ∧ (i10 : Int) < (2 : Nat) ∧
 ∃ s19 : ByteArray, cellH B h11 (Addr.add (Addr.add A17 (Int.toNat (i10) * 2)) 1) = some (Value.string s19) ∧
 ∃ A20 : Addr, p1 = some A20 ∧
 0 ≤ (i10 : Int) ∧ (i10 : Int) < (2 : Nat) ∧
 ∃ h22 : Heap, storeH h11 (Addr.add A20 (Int.toNat (i10) * 2)) (Value.string s19) = some h22 ∧
 Fin B h22 (fun h' => ∃ m', m' < m12 ∧ J15 (IntKind.wrap .i64 ((i10) + (1))) m' h')) ∧ (¬ ((i10 : Int) < (2)) →
 Fin B h11 (Q))
def S_disk_Disk_Crash (B : RO) (p1 : Option Addr) (i2 : Int) (i3 : Int) (h : Heap) (Q : Heap → Prop) : Prop :=
 (p1 = none →
 Fin B h (Q)) ∧ (¬ (p1 = none) →
 ∃ A23 : Addr, p1 = some A23 ∧
 LdSl B h (Addr.add A23 4) fun a25 n26 c27 h28 =>
 ∃ (J34 : Int → Nat → Heap → Prop) (m32 : Nat), Fin B h28 (J34 (0) m32) ∧
 ∀ (i29 : Int) (m31 : Nat) (h30 : Heap), J34 i29 m31 h30 →
 ((i29 : Int) < ((n26 : Nat)) →
 ∃ A36 : Addr, a25 = some A36 ∧ 0 ≤ (i29 : Int) ∧ (i29 : Int) < (n26 : Nat) ∧
 ∃ i38 : Int, ∃ b39 : Bool, ∃ s40 : ByteArray, CellsAt B h30 (Addr.add A36 (Int.toNat (i29) * 3)) 0 [(Value.int .i64 (i38)), (Value.bool b39), (Value.string s40)] ∧
 ∀ k41 : Nat, h30 k41 = none → B k41 = none → ∀ h42 : Heap, h42 = Heap.set h30 k41 (.vec 181 (plains [(Value.int .i64 (0)), (Value.bool false), (Value.string ByteArray.empty)]) 3) →
 ∃ h43 : Heap, StoresAt ⟨k41, 0, none⟩ h42 0 [(Value.int .i64 (i38)), (Value.bool b39), (Value.string s40)] h43 ∧
 ((i29 : Int) ≥ (i2) →
 ∃ b45 : Bool, cellH B h43 ⟨k41, 1, none⟩ = some (Value.bool b45) ∧ (b45 = true →
 Fin B h43 (fun h' => S_disk_Disk_Crash_J1 B p1 h' Q)) ∧ (b45 = false →
 ∃ s46 : ByteArray, cellH B h43 ⟨k41, 2, none⟩ = some (Value.string s46) ∧
 ∃ s47 : ByteArray, cellH B h43 ⟨k41, 2, none⟩ = some (Value.string s47) ∧
 0 ≤ (0 : Int) ∧ (0 : Int) ≤ (if ((ByteArray.size s47 : Nat) : Int) < (if (0 : Int) > (i3) then (0 : Int) else (i3)) then ((ByteArray.size s47 : Nat) : Int) else (if (0 : Int) > (i3) then (0 : Int) else (i3)) : Int) ∧ (if ((ByteArray.size s47 : Nat) : Int) < (if (0 : Int) > (i3) then (0 : Int) else (i3)) then ((ByteArray.size s47 : Nat) : Int) else (if (0 : Int) > (i3) then (0 : Int) else (i3)) : Int) ≤ (ByteArray.size s46 : Nat) ∧
 ∃ h48 : Heap, storeH h43 ⟨k41, 2, none⟩ (Value.string (ByteArray.extract s46 (Int.toNat (0)) (Int.toNat (if ((ByteArray.size s47 : Nat) : Int) < (if (0 : Int) > (i3) then (0 : Int) else (i3)) then ((ByteArray.size s47 : Nat) : Int) else (if (0 : Int) > (i3) then (0 : Int) else (i3)))))) = some h48 ∧
 ∃ i49 : Int, ∃ b50 : Bool, ∃ s51 : ByteArray, CellsAt B h48 ⟨k41, 0, none⟩ 0 [(Value.int .i64 (i49)), (Value.bool b50), (Value.string s51)] ∧
 C_disk_Disk_land B p1 (i49) (b50) s51 h48 (fun h52 =>
 Fin B h52 (fun h' => S_disk_Disk_Crash_J1 B p1 h' Q)))) ∧ (¬ ((i29 : Int) ≥ (i2)) →
 ∃ i53 : Int, ∃ b54 : Bool, ∃ s55 : ByteArray, CellsAt B h43 ⟨k41, 0, none⟩ 0 [(Value.int .i64 (i53)), (Value.bool b54), (Value.string s55)] ∧
 C_disk_Disk_land B p1 (i53) (b54) s55 h43 (fun h56 =>
 Fin B h56 (fun h' => ∃ m', m' < m31 ∧ J34 (IntKind.wrap .i64 ((i29) + (1))) m' h')))) ∧ (¬ ((i29 : Int) < ((n26 : Nat))) →
 Fin B h30 (fun h' => S_disk_Disk_Crash_J1 B p1 h' Q)))
def S_disk_Disk_Read_J1 (B : RO) (p1 : Option Addr) (i2 : Int) (h5 : Heap) (Q : ByteArray → Heap → Prop) : Prop :=
 ∃ A6 : Addr, p1 = some A6 ∧
 0 ≤ (i2 : Int) ∧ (i2 : Int) < (2 : Nat) ∧
 ∃ s8 : ByteArray, cellH B h5 (Addr.add A6 (Int.toNat (i2) * 2)) = some (Value.string s8) ∧
 Fin B h5 (Q s8)
def S_disk_Disk_Read (B : RO) (p1 : Option Addr) (i2 : Int) (h : Heap) (Q : ByteArray → Heap → Prop) : Prop :=
 (p1 = none →
 Fin B h (Q (ByteArray.mk #[]))) ∧ (¬ (p1 = none) →
 C_disk_good B (i2) h (fun b11 h10 =>
 (b11 = true →
 Fin B h10 (fun h' => S_disk_Disk_Read_J1 B p1 i2 h' Q)) ∧ (b11 = false →
 Fin B h10 (Q (ByteArray.mk #[])))))
def S_disk_Disk_Safe_J1 (B : RO) (p1 : Option Addr) (i2 : Int) (h5 : Heap) (Q : ByteArray → Heap → Prop) : Prop :=
 ∃ A6 : Addr, p1 = some A6 ∧
 0 ≤ (i2 : Int) ∧ (i2 : Int) < (2 : Nat) ∧
 ∃ s8 : ByteArray, cellH B h5 (Addr.add (Addr.add A6 (Int.toNat (i2) * 2)) 1) = some (Value.string s8) ∧
 Fin B h5 (Q s8)
def S_disk_Disk_Safe (B : RO) (p1 : Option Addr) (i2 : Int) (h : Heap) (Q : ByteArray → Heap → Prop) : Prop :=
 (p1 = none →
 Fin B h (Q (ByteArray.mk #[]))) ∧ (¬ (p1 = none) →
 C_disk_good B (i2) h (fun b11 h10 =>
 (b11 = true →
 Fin B h10 (fun h' => S_disk_Disk_Safe_J1 B p1 i2 h' Q)) ∧ (b11 = false →
 Fin B h10 (Q (ByteArray.mk #[])))))
def S_wal_Log_Lasting (B : RO) (p1 : Option Addr) (h : Heap) (Q : Int → Heap → Prop) : Prop :=
 ∀ k3 : Nat, h k3 = none → B k3 = none → ∀ h4 : Heap, h4 = Heap.set h k3 (.vec 3 (plains [(Value.int .i64 (0))]) 1) →
 ∃ h5 : Heap, storeH h4 ⟨k3, 0, none⟩ (Value.int .i64 (0)) = some h5 ∧
 (p1 = none →
 ∃ i7 : Int, cellH B h5 ⟨k3, 0, none⟩ = some (Value.int .i64 (i7)) ∧
 Fin B h5 (Q (i7))) ∧ (¬ (p1 = none) →
 ∃ A8 : Addr, p1 = some A8 ∧
 ∃ p10 : Option Addr, cellH B h5 A8 = some (Value.pointer p10) ∧
 ∃ A11 : Addr, p1 = some A11 ∧
 ∃ i13 : Int, cellH B h5 (Addr.add A11 1) = some (Value.int .i64 (i13)) ∧
 C_disk_Disk_Safe B p10 (i13) h5 (fun s15 h14 =>
 C_wafer_All B s15 h14 (fun v17 h16 =>
 ∃ (xs23 : List (ByteArray)) (G19 : Heap → Prop) (J22 : Nat → Heap → Prop), Iter PG B v17 (xs23.map (fun x : ByteArray => [(Value.string x)])) G19 ∧ Ins G19 ∧ (∀ i h, J22 i h → G19 h) ∧ Fin B h16 (J22 0) ∧
 (∀ (q21 : Nat) (h20 : Heap) (s18 : ByteArray), xs23[q21]? = some (s18) → J22 q21 h20 →
 ∃ i24 : Int, cellH B h20 ⟨k3, 0, none⟩ = some (Value.int .i64 (i24)) ∧
 ∃ h25 : Heap, storeH h20 ⟨k3, 0, none⟩ (Value.int .i64 (IntKind.wrap .i64 ((i24) + (1)))) = some h25 ∧
 Fin B h25 (J22 (q21 + 1))) ∧
 (∀ (h20 : Heap), J22 xs23.length h20 →
 ∃ i26 : Int, cellH B h20 ⟨k3, 0, none⟩ = some (Value.int .i64 (i26)) ∧
 Fin B h20 (Q (i26))))))
def S_countermandlaw04_same (B : RO) (a1 : Option Addr) (n2 : Nat) (c3 : Nat) (a4 : Option Addr) (n5 : Nat) (c6 : Nat) (h : Heap) (Q : Bool → Heap → Prop) : Prop :=
 (((n2 : Nat) : Int) = (n5 : Nat) →
 ∃ (J14 : Int → Nat → Heap → Prop) (m12 : Nat), Fin B h (J14 (0) m12) ∧
 ∀ (i9 : Int) (m11 : Nat) (h10 : Heap), J14 i9 m11 h10 →
 ((i9 : Int) < ((n2 : Nat)) →
 ∃ A16 : Addr, a1 = some A16 ∧ 0 ≤ (i9 : Int) ∧ (i9 : Int) < (n2 : Nat) ∧
 ∃ s18 : ByteArray, cellH B h10 (Addr.add A16 (Int.toNat (i9) * 1)) = some (Value.string s18) ∧
 ∃ A19 : Addr, a4 = some A19 ∧ 0 ≤ (i9 : Int) ∧ (i9 : Int) < (n5 : Nat) ∧
 ∃ s21 : ByteArray, cellH B h10 (Addr.add A19 (Int.toNat (i9) * 1)) = some (Value.string s21) ∧
 (s18 = s21 →
 Fin B h10 (fun h' => ∃ m', m' < m11 ∧ J14 (IntKind.wrap .i64 ((i9) + (1))) m' h')) ∧ (¬ (s18 = s21) →
 Fin B h10 (Q (false)))) ∧ (¬ ((i9 : Int) < ((n2 : Nat))) →
 Fin B h10 (Q (true)))) ∧ (¬ (((n2 : Nat) : Int) = (n5 : Nat)) →
 Fin B h (Q (false)))
def S_countermandlaw04_start (B : RO) (i1 : Int) (h : Heap) (Q : Option Addr → Heap → Prop) : Prop :=
 C_disk_New B h (fun p4 h3 =>
 ∀ k5 : Nat, h3 k5 = none → B k5 = none → ∀ h6 : Heap, h6 = Heap.set h3 k5 (.vec 85 (plains [(Value.pointer p4), (Value.pointer none), (Value.pointer none)]) 3) →
 ∃ p7 : Option Addr, cellH B h6 ⟨k5, 0, none⟩ = some (Value.pointer p7) ∧
 C_wal_Open B p7 (i1) h6 (fun p9 i10 h8 =>
 ∃ h11 : Heap, storeH h8 ⟨k5, 1, none⟩ (Value.pointer p9) = some h11 ∧
 ∀ k12 : Nat, h11 k12 = none → B k12 = none → ∀ h13 : Heap, h13 = Heap.set h11 k12 (.vec 94 (plains [(Value.slice none 0 0), (Value.int .i64 (0))]) 2) →
 C_countermandref04_Open B (some ⟨k12, 0, none⟩) (i1) h13 (fun p15 h14 =>
 ∃ h16 : Heap, storeH h14 ⟨k5, 2, none⟩ (Value.pointer p15) = some h16 ∧
 Fin B h16 (Q (some ⟨k5, 0, none⟩)))))
def S_countermandlaw04_both_does_J1 (B : RO) (p1 : Option Addr) (k7 : Nat) (i14 : Int) (h16 : Heap) (Q : Bool → Heap → Prop) : Prop :=
 ∃ i17 : Int, cellH B h16 ⟨k7, 0, none⟩ = some (Value.int .i64 (i17)) ∧
 ((i17 : Int) > (2) →
 ∃ A19 : Addr, p1 = some A19 ∧
 ∃ p21 : Option Addr, cellH B h16 A19 = some (Value.pointer p21) ∧
 C_wal_Open B p21 (i14) h16 (fun p23 i24 h22 =>
 ∃ A25 : Addr, p1 = some A25 ∧
 ∃ h27 : Heap, storeH h22 (Addr.add A25 1) (Value.pointer p23) = some h27 ∧
 ∃ A28 : Addr, p1 = some A28 ∧
 ∃ p30 : Option Addr, cellH B h27 (Addr.add A28 2) = some (Value.pointer p30) ∧
 ∃ A31 : Addr, p30 = some A31 ∧
 ∃ p33 : Option Addr, cellH B h27 A31 = some (Value.pointer p33) ∧
 C_countermandref04_Open B p33 (i14) h27 (fun p35 h34 =>
 ∃ A36 : Addr, p1 = some A36 ∧
 ∃ h38 : Heap, storeH h34 (Addr.add A36 2) (Value.pointer p35) = some h38 ∧
 Fin B h38 (Q (true))))) ∧ (¬ ((i17 : Int) > (2)) →
 Fin B h16 (Q (true)))
def S_countermandlaw04_both_does (B : RO) (p1 : Option Addr) (i2 : Int) (s3 : ByteArray) (i4 : Int) (i5 : Int) (h : Heap) (Q : Bool → Heap → Prop) : Prop :=
 ∀ k7 : Nat, h k7 = none → B k7 = none → ∀ h8 : Heap, h8 = Heap.set h k7 (.vec 73 (plains [(Value.int .i64 (i2)), (Value.string s3), (Value.int .i64 (i4)), (Value.int .i64 (i5))]) 4) →
 ∃ A9 : Addr, p1 = some A9 ∧
 ∃ p11 : Option Addr, cellH B h8 (Addr.add A9 2) = some (Value.pointer p11) ∧
 ∃ A12 : Addr, p11 = some A12 ∧
 ∃ i14 : Int, cellH B h8 (Addr.add A12 1) = some (Value.int .i64 (i14)) ∧
 ∃ i39 : Int, cellH B h8 ⟨k7, 0, none⟩ = some (Value.int .i64 (i39)) ∧
 ((i39 : Int) = 0 →
 ∃ A42 : Addr, p1 = some A42 ∧
 ∃ p46 : Option Addr, cellH B h8 (Addr.add A42 1) = some (Value.pointer p46) ∧
 ∃ s49 : ByteArray, cellH B h8 ⟨k7, 1, none⟩ = some (Value.string s49) ∧
 ∃ A52 : Addr, p1 = some A52 ∧
 ∃ p56 : Option Addr, cellH B h8 (Addr.add A52 2) = some (Value.pointer p56) ∧
 ∃ s59 : ByteArray, cellH B h8 ⟨k7, 1, none⟩ = some (Value.string s59) ∧
 C_wal_Log_Append B p46 s49 h8 (fun i62 h61 =>
 cellH B h61 (Addr.add A42 1) = some (Value.pointer p46) ∧ cellH B h61 ⟨k7, 1, none⟩ = some (Value.string s49) ∧ cellH B h61 (Addr.add A52 2) = some (Value.pointer p56) ∧ cellH B h61 ⟨k7, 1, none⟩ = some (Value.string s59) ∧
 C_countermandref04_Log_Append B p56 s59 h61 (fun i68 h67 =>
 cellH B h67 (Addr.add A42 1) = some (Value.pointer p46) ∧ cellH B h67 ⟨k7, 1, none⟩ = some (Value.string s49) ∧ cellH B h67 (Addr.add A52 2) = some (Value.pointer p56) ∧ cellH B h67 ⟨k7, 1, none⟩ = some (Value.string s59) ∧
 Fin B h67 (Q (((i62 : Int) == (i68))))))) ∧ (¬ ((i39 : Int) = 0) →
 ((i39 : Int) = 1 →
 ∃ A74 : Addr, p1 = some A74 ∧
 ∃ p76 : Option Addr, cellH B h8 (Addr.add A74 1) = some (Value.pointer p76) ∧
 C_wal_Log_Force B p76 h8 (fun h77 =>
 ∃ A78 : Addr, p1 = some A78 ∧
 ∃ p80 : Option Addr, cellH B h77 (Addr.add A78 2) = some (Value.pointer p80) ∧
 ∃ A81 : Addr, p80 = some A81 ∧
 ∃ p83 : Option Addr, cellH B h77 A81 = some (Value.pointer p83) ∧
 ∃ A84 : Addr, p1 = some A84 ∧
 ∃ p86 : Option Addr, cellH B h77 (Addr.add A84 2) = some (Value.pointer p86) ∧
 ∃ A87 : Addr, p86 = some A87 ∧
 ∃ p89 : Option Addr, cellH B h77 A87 = some (Value.pointer p89) ∧
 ∃ A90 : Addr, p89 = some A90 ∧
 ∃ a92 : Option Addr, ∃ n93 : Nat, ∃ c94 : Nat, cellH B h77 A90 = some (Value.slice a92 n93 c94) ∧
 ∃ A95 : Addr, p83 = some A95 ∧
 ∃ h97 : Heap, storeH h77 (Addr.add A95 1) (Value.int .i64 ((n93 : Nat))) = some h97 ∧
 Fin B h97 (fun h' => S_countermandlaw04_both_does_J1 B p1 k7 i14 h' Q))) ∧ (¬ ((i39 : Int) = 1) →
 ((i39 : Int) = 2 →
 ∃ A99 : Addr, p1 = some A99 ∧
 ∃ p101 : Option Addr, cellH B h8 (Addr.add A99 1) = some (Value.pointer p101) ∧
 C_wal_Log_Clear B p101 h8 (fun h102 =>
 ∃ A103 : Addr, p1 = some A103 ∧
 ∃ p105 : Option Addr, cellH B h102 (Addr.add A103 2) = some (Value.pointer p105) ∧
 C_countermandref04_Log_Clear B p105 h102 (fun h106 =>
 Fin B h106 (fun h' => S_countermandlaw04_both_does_J1 B p1 k7 i14 h' Q)))) ∧ (¬ ((i39 : Int) = 2) →
 ((i39 : Int) = 3 →
 ∃ A108 : Addr, p1 = some A108 ∧
 ∃ p110 : Option Addr, cellH B h8 A108 = some (Value.pointer p110) ∧
 ∃ i111 : Int, cellH B h8 ⟨k7, 2, none⟩ = some (Value.int .i64 (i111)) ∧
 ∃ i112 : Int, cellH B h8 ⟨k7, 3, none⟩ = some (Value.int .i64 (i112)) ∧
 C_disk_Disk_Crash B p110 (i111) (i112) h8 (fun h113 =>
 ∃ A114 : Addr, p1 = some A114 ∧
 ∃ p116 : Option Addr, cellH B h113 (Addr.add A114 2) = some (Value.pointer p116) ∧
 ∃ A117 : Addr, p116 = some A117 ∧
 ∃ p119 : Option Addr, cellH B h113 A117 = some (Value.pointer p119) ∧
 ∃ i120 : Int, cellH B h113 ⟨k7, 2, none⟩ = some (Value.int .i64 (i120)) ∧
 ∃ i121 : Int, cellH B h113 ⟨k7, 3, none⟩ = some (Value.int .i64 (i121)) ∧
 C_countermandref03_Disk_Crash B p119 (i120) (i121) h113 (fun h122 =>
 Fin B h122 (fun h' => S_countermandlaw04_both_does_J1 B p1 k7 i14 h' Q)))) ∧ (¬ ((i39 : Int) = 3) →
 ((i39 : Int) = 4 →
 ∃ A124 : Addr, p1 = some A124 ∧
 ∃ p126 : Option Addr, cellH B h8 A124 = some (Value.pointer p126) ∧
 ∃ s127 : ByteArray, cellH B h8 ⟨k7, 1, none⟩ = some (Value.string s127) ∧
 C_disk_Disk_Append B p126 (i14) s127 h8 (fun i129 h128 =>
 ∃ A130 : Addr, p1 = some A130 ∧
 ∃ p132 : Option Addr, cellH B h128 (Addr.add A130 2) = some (Value.pointer p132) ∧
 ∃ A133 : Addr, p132 = some A133 ∧
 ∃ p135 : Option Addr, cellH B h128 A133 = some (Value.pointer p135) ∧
 ∃ s136 : ByteArray, cellH B h128 ⟨k7, 1, none⟩ = some (Value.string s136) ∧
 C_countermandref03_Disk_Append B p135 (i14) s136 h128 (fun i138 h137 =>
 Fin B h137 (fun h' => S_countermandlaw04_both_does_J1 B p1 k7 i14 h' Q)))) ∧ (¬ ((i39 : Int) = 4) →
 Fin B h8 (fun h' => S_countermandlaw04_both_does_J1 B p1 k7 i14 h' Q))))))
def S_wal_Log_Size (B : RO) (p1 : Option Addr) (h : Heap) (Q : Int → Heap → Prop) : Prop :=
 (p1 = none →
 Fin B h (Q (0))) ∧ (¬ (p1 = none) →
 ∃ A4 : Addr, p1 = some A4 ∧
 ∃ i6 : Int, cellH B h (Addr.add A4 2) = some (Value.int .i64 (i6)) ∧
 Fin B h (Q (i6)))
def S_wal_Log_Torn (B : RO) (p1 : Option Addr) (h : Heap) (Q : Bool → Heap → Prop) : Prop :=
 (p1 = none →
 Fin B h (Q (false))) ∧ (¬ (p1 = none) →
 ∃ A4 : Addr, p1 = some A4 ∧
 ∃ b6 : Bool, cellH B h (Addr.add A4 3) = some (Value.bool b6) ∧
 Fin B h (Q (b6)))
def S_wal_Log_Area (B : RO) (p1 : Option Addr) (h : Heap) (Q : Int → Heap → Prop) : Prop :=
 (p1 = none →
 Fin B h (Q (0))) ∧ (¬ (p1 = none) →
 ∃ A4 : Addr, p1 = some A4 ∧
 ∃ i6 : Int, cellH B h (Addr.add A4 1) = some (Value.int .i64 (i6)) ∧
 Fin B h (Q (i6)))
def S_countermandref04_Log_Text (B : RO) (p1 : Option Addr) (h : Heap) (Q : ByteArray → Heap → Prop) : Prop :=
 ∃ A4 : Addr, p1 = some A4 ∧
 ∃ p8 : Option Addr, cellH B h A4 = some (Value.pointer p8) ∧
 ∃ A11 : Addr, p1 = some A11 ∧
 ∃ i15 : Int, cellH B h (Addr.add A11 1) = some (Value.int .i64 (i15)) ∧
 ∃ A18 : Addr, p1 = some A18 ∧
 ∃ p22 : Option Addr, cellH B h A18 = some (Value.pointer p22) ∧
 ∃ A24 : Addr, p22 = some A24 ∧
 ∃ a28 : Option Addr, ∃ n29 : Nat, ∃ c30 : Nat, cellH B h A24 = some (Value.slice a28 n29 c30) ∧
 C_countermandref03_Disk_Text B p8 (i15) ((n29 : Nat)) h (fun s34 h33 =>
 cellH B h33 A4 = some (Value.pointer p8) ∧ cellH B h33 (Addr.add A11 1) = some (Value.int .i64 (i15)) ∧ cellH B h33 A18 = some (Value.pointer p22) ∧ cellH B h33 A24 = some (Value.slice a28 n29 c30) ∧
 Fin B h33 (Q s34))
def S_countermandref02_All (B : RO) (s1 : ByteArray) (h : Heap) (Q : Option Addr → Nat → Nat → Heap → Prop) : Prop :=
 C_countermandref02_Open B s1 h (fun s6 i7 h5 =>
 ∃ (J18 : ByteArray → Option Addr → Nat → Nat → ByteArray → Int → Nat → Heap → Prop) (m16 : Nat), Fin B h5 (J18 s1 none 0 0 s6 (i7) m16) ∧
 ∀ (s8 : ByteArray) (a9 : Option Addr) (n10 : Nat) (c11 : Nat) (s12 : ByteArray) (i13 : Int) (m15 : Nat) (h14 : Heap), J18 s8 a9 n10 c11 s12 i13 m15 h14 →
 ((i13 : Int) > (0) →
 ∀ k20 : Nat, h14 k20 = none → B k20 = none → ∀ h21 : Heap, h21 = Heap.set h14 k20 (.vec 9 (plains [(Value.string s12)]) 1) →
 semH PG B (Builtin.append_ #[55, 55] 55 #[(Value.slice a9 n10 c11), (Value.slice (some ⟨k20, 0, none⟩) 1 1)]) h21 (fun v h22 => ∃ a23 : Option Addr, ∃ n24 : Nat, ∃ c25 : Nat, v = (Value.slice a23 n24 c25) ∧
 0 ≤ (i13 : Int) ∧ (i13 : Int) ≤ ((ByteArray.size s8 : Nat) : Int) ∧ ((ByteArray.size s8 : Nat) : Int) ≤ (ByteArray.size s8 : Nat) ∧
 C_countermandref02_Open B (ByteArray.extract s8 (Int.toNat (i13)) (Int.toNat ((ByteArray.size s8 : Nat)))) h22 (fun s27 i28 h26 =>
 Fin B h26 (fun h' => ∃ m', m' < m15 ∧ J18 (ByteArray.extract s8 (Int.toNat (i13)) (Int.toNat ((ByteArray.size s8 : Nat)))) a23 n24 c25 s27 (i28) m' h')))) ∧ (¬ ((i13 : Int) > (0)) →
 Fin B h14 (Q a9 n10 c11)))
def S_countermandref03_Disk_Text (B : RO) (p1 : Option Addr) (i2 : Int) (i3 : Int) (h : Heap) (Q : ByteArray → Heap → Prop) : Prop :=
 ∃ (J11 : ByteArray → Int → Nat → Heap → Prop) (m9 : Nat), Fin B h (J11 (ByteArray.mk #[]) (0) m9) ∧
 ∀ (s5 : ByteArray) (i6 : Int) (m8 : Nat) (h7 : Heap), J11 s5 i6 m8 h7 →
 ((i6 : Int) < (i3) →
 ∃ A13 : Addr, p1 = some A13 ∧
 LdSl B h7 A13 fun a15 n16 c17 h18 =>
 ∃ A19 : Addr, a15 = some A19 ∧ 0 ≤ (i6 : Int) ∧ (i6 : Int) < (n16 : Nat) ∧
 ∃ i21 : Int, cellH B h18 (Addr.add A19 (Int.toNat (i6) * 3)) = some (Value.int .i64 (i21)) ∧
 ((i21 : Int) = i2 →
 ∃ A23 : Addr, p1 = some A23 ∧
 LdSl B h18 A23 fun a25 n26 c27 h28 =>
 ∃ A29 : Addr, a25 = some A29 ∧ 0 ≤ (i6 : Int) ∧ (i6 : Int) < (n26 : Nat) ∧
 ∃ b31 : Bool, cellH B h28 (Addr.add (Addr.add A29 (Int.toNat (i6) * 3)) 1) = some (Value.bool b31) ∧ (b31 = true →
 Fin B h28 (fun h' => ∃ m', m' < m8 ∧ J11 (ByteArray.mk #[]) (IntKind.wrap .i64 ((i6) + (1))) m' h')) ∧ (b31 = false →
 ∃ A32 : Addr, p1 = some A32 ∧
 LdSl B h28 A32 fun a34 n35 c36 h37 =>
 ∃ A38 : Addr, a34 = some A38 ∧ 0 ≤ (i6 : Int) ∧ (i6 : Int) < (n35 : Nat) ∧
 ∃ s40 : ByteArray, cellH B h37 (Addr.add (Addr.add A38 (Int.toNat (i6) * 3)) 2) = some (Value.string s40) ∧
 ByteArray.size s5 + ByteArray.size s40 ≤ 4611686018427387904 ∧
 Fin B h37 (fun h' => ∃ m', m' < m8 ∧ J11 (s5 ++ s40) (IntKind.wrap .i64 ((i6) + (1))) m' h'))) ∧ (¬ ((i21 : Int) = i2) →
 Fin B h18 (fun h' => ∃ m', m' < m8 ∧ J11 s5 (IntKind.wrap .i64 ((i6) + (1))) m' h'))) ∧ (¬ ((i6 : Int) < (i3)) →
 Fin B h7 (Q s5))
def S_countermandref04_Log_Whole (B : RO) (p1 : Option Addr) (h : Heap) (Q : Int → Heap → Prop) : Prop :=
 C_countermandref04_Log_Text B p1 h (fun s4 h3 =>
 C_countermandref02_All B s4 h3 (fun a6 n7 c8 h5 =>
 C_countermandref02_Row B a6 n7 c8 h5 (fun s10 h9 =>
 Fin B h9 (Q ((ByteArray.size s10 : Nat))))))
def S_wafer_Whole (B : RO) (s1 : ByteArray) (h : Heap) (Q : Int → Heap → Prop) : Prop :=
 ∀ k3 : Nat, h k3 = none → B k3 = none → ∀ h4 : Heap, h4 = Heap.set h k3 (.vec 3 (plains [(Value.int .i64 (0))]) 1) →
 ∃ h5 : Heap, storeH h4 ⟨k3, 0, none⟩ (Value.int .i64 (0)) = some h5 ∧
 C_wafer_All B s1 h5 (fun v7 h6 =>
 ∃ (xs13 : List (ByteArray)) (G9 : Heap → Prop) (J12 : Nat → Heap → Prop), Iter PG B v7 (xs13.map (fun x : ByteArray => [(Value.string x)])) G9 ∧ Ins G9 ∧ (∀ i h, J12 i h → G9 h) ∧ Fin B h6 (J12 0) ∧
 (∀ (q11 : Nat) (h10 : Heap) (s8 : ByteArray), xs13[q11]? = some (s8) → J12 q11 h10 →
 ∃ i14 : Int, cellH B h10 ⟨k3, 0, none⟩ = some (Value.int .i64 (i14)) ∧
 ∃ h15 : Heap, storeH h10 ⟨k3, 0, none⟩ (Value.int .i64 (IntKind.wrap .i64 ((i14) + (IntKind.wrap .i64 ((IntKind.wrap .i64 ((2) + ((ByteArray.size s8 : Nat)))) + (4)))))) = some h15 ∧
 Fin B h15 (J12 (q11 + 1))) ∧
 (∀ (h10 : Heap), J12 xs13.length h10 →
 ∃ i16 : Int, cellH B h10 ⟨k3, 0, none⟩ = some (Value.int .i64 (i16)) ∧
 Fin B h10 (Q (i16))))
def S_wafer_Close (B : RO) (s1 : ByteArray) (h : Heap) (Q : ByteArray → Heap → Prop) : Prop :=
 (((ByteArray.size s1 : Nat) : Int) > (1024) →
 Fin B h (Q (ByteArray.mk #[]))) ∧ (¬ (((ByteArray.size s1 : Nat) : Int) > (1024)) →
 ¬ ((8 : Int) < 0) ∧
 ∀ k4 : Nat, h k4 = none → B k4 = none → ∀ h5 : Heap, h5 = Heap.set h k4 (.vec 5 (plains [(Value.int .u8 (IntKind.wrap .u8 (Int.fdiv ((ByteArray.size s1 : Nat)) (2 ^ (min (Int.toNat (8)) (IntKind.bits .i64)))))), (Value.int .u8 (IntKind.wrap .u8 ((ByteArray.size s1 : Nat))))]) 2) →
 semH PG B (convert 208 9 (Value.slice (some ⟨k4, 0, none⟩) 2 2)) h5 (fun v h7 => ∃ s6 : ByteArray, v = (Value.string s6) ∧
 ByteArray.size s6 + ByteArray.size s1 ≤ 4611686018427387904 ∧
 C_wafer_Sum B (s6 ++ s1) h7 (fun i9 h8 =>
 C_wafer_foots B (i9) h8 (fun s11 h10 =>
 ByteArray.size (s6 ++ s1) + ByteArray.size s11 ≤ 4611686018427387904 ∧
 Fin B h10 (Q ((s6 ++ s1) ++ s11))))))
def S_wal_Log_All_1 (B : RO) (v1 : Value) (A2 : Addr) (h : Heap) (Q : Heap → Prop) : Prop :=
 isOne v1 = true ∧
 ∀ k3 : Nat, h k3 = none → B k3 = none → ∀ h4 : Heap, h4 = Heap.set h k3 (.vec 104 [.plain v1] 1) →
 ∃ p5 : Option Addr, cellH B h4 A2 = some (Value.pointer p5) ∧
 (p5 = none →
 Fin B h4 (Q)) ∧ (¬ (p5 = none) →
 ∃ p7 : Option Addr, cellH B h4 A2 = some (Value.pointer p7) ∧
 ∃ A8 : Addr, p7 = some A8 ∧
 ∃ p10 : Option Addr, cellH B h4 A8 = some (Value.pointer p10) ∧
 ∃ p11 : Option Addr, cellH B h4 A2 = some (Value.pointer p11) ∧
 ∃ A12 : Addr, p11 = some A12 ∧
 ∃ i14 : Int, cellH B h4 (Addr.add A12 1) = some (Value.int .i64 (i14)) ∧
 C_disk_Disk_Read B p10 (i14) h4 (fun s16 h15 =>
 C_wafer_All B s16 h15 (fun v18 h17 =>
 ∃ (xs24 : List (ByteArray)) (G20 : Heap → Prop) (J23 : Nat → Heap → Prop), Iter PG B v18 (xs24.map (fun x : ByteArray => [(Value.string x)])) G20 ∧ Ins G20 ∧ (∀ i h, J23 i h → G20 h) ∧ Fin B h17 (J23 0) ∧
 (∀ (q22 : Nat) (h21 : Heap) (s19 : ByteArray), xs24[q22]? = some (s19) → J23 q22 h21 →
 ∃ v25 : Value, cellH B h21 ⟨k3, 0, none⟩ = some v25 ∧
 CallV PG B v25 [(Value.string s19)] h21 (fun v h26 => ∃ b27 : Bool, v = (Value.bool b27) ∧
 (b27 = true →
 Fin B h26 (J23 (q22 + 1))) ∧ (b27 = false →
 Fin B h26 (Q)))) ∧
 (∀ (h21 : Heap), J23 xs24.length h21 →
 Fin B h21 (Q)))))
def S_wafer_All (B : RO) (s1 : ByteArray) (h : Heap) (Q : Value → Heap → Prop) : Prop :=
 ∀ k3 : Nat, h k3 = none → B k3 = none → ∀ h4 : Heap, h4 = Heap.set h k3 (.vec 9 [.plain (Value.string s1)] 1) →
 Fin B h4 (Q (Value.func (.func 134) #[] #[(Value.pointer (some ⟨k3, 0, none⟩))]))
def S_disk_good (B : RO) (i1 : Int) (h : Heap) (Q : Bool → Heap → Prop) : Prop :=
 ((i1 : Int) = 0 →
 Fin B h (Q (true))) ∧ (¬ ((i1 : Int) = 0) →
 Fin B h (Q (((i1 : Int) == (1)))))
def S_disk_Disk_land (B : RO) (p1 : Option Addr) (i2 : Int) (b3 : Bool) (s4 : ByteArray) (h : Heap) (Q : Heap → Prop) : Prop :=
 ∀ k5 : Nat, h k5 = none → B k5 = none → ∀ h6 : Heap, h6 = Heap.set h k5 (.vec 181 (plains [(Value.int .i64 (i2)), (Value.bool b3), (Value.string s4)]) 3) →
 ∃ b7 : Bool, cellH B h6 ⟨k5, 1, none⟩ = some (Value.bool b7) ∧ (b7 = true →
 ∃ i16 : Int, cellH B h6 ⟨k5, 0, none⟩ = some (Value.int .i64 (i16)) ∧
 ∃ A17 : Addr, p1 = some A17 ∧
 0 ≤ (i16 : Int) ∧ (i16 : Int) < (2 : Nat) ∧
 ∃ h19 : Heap, storeH h6 (Addr.add (Addr.add A17 (Int.toNat (i16) * 2)) 1) (Value.string (ByteArray.mk #[])) = some h19 ∧
 Fin B h19 (Q)) ∧ (b7 = false →
 ∃ i8 : Int, cellH B h6 ⟨k5, 0, none⟩ = some (Value.int .i64 (i8)) ∧
 ∃ A9 : Addr, p1 = some A9 ∧
 0 ≤ (i8 : Int) ∧ (i8 : Int) < (2 : Nat) ∧
 ∃ s11 : ByteArray, cellH B h6 (Addr.add (Addr.add A9 (Int.toNat (i8) * 2)) 1) = some (Value.string s11) ∧
 ∃ s12 : ByteArray, cellH B h6 ⟨k5, 2, none⟩ = some (Value.string s12) ∧
 ByteArray.size s11 + ByteArray.size s12 ≤ 4611686018427387904 ∧
 ∃ A13 : Addr, p1 = some A13 ∧
 0 ≤ (i8 : Int) ∧ (i8 : Int) < (2 : Nat) ∧
 ∃ h15 : Heap, storeH h6 (Addr.add (Addr.add A13 (Int.toNat (i8) * 2)) 1) (Value.string (s11 ++ s12)) = some h15 ∧
 Fin B h15 (Q))
def S_disk_Disk_Reset_J1 (B : RO) (p1 : Option Addr) (i2 : Int) (h5 : Heap) (Q : Int → Heap → Prop) : Prop :=
 ∃ A6 : Addr, p1 = some A6 ∧
 0 ≤ (i2 : Int) ∧ (i2 : Int) < (2 : Nat) ∧
 ∃ h8 : Heap, storeH h5 (Addr.add A6 (Int.toNat (i2) * 2)) (Value.string (ByteArray.mk #[])) = some h8 ∧
 ∃ A9 : Addr, p1 = some A9 ∧
 LdSl B h8 (Addr.add A9 4) fun a11 n12 c13 h14 =>
 ∀ k15 : Nat, h14 k15 = none → B k15 = none → ∀ h16 : Heap, h16 = Heap.set h14 k15 (.vec 181 (plains [(Value.int .i64 (i2)), (Value.bool true), (Value.string ByteArray.empty)]) 3) →
 semH PG B (Builtin.append_ #[175, 175] 175 #[(Value.slice a11 n12 c13), (Value.slice (some ⟨k15, 0, none⟩) 1 1)]) h16 (fun v h17 => ∃ a18 : Option Addr, ∃ n19 : Nat, ∃ c20 : Nat, v = (Value.slice a18 n19 c20) ∧
 ∃ A21 : Addr, p1 = some A21 ∧
 ∃ h23 : Heap, storeH h17 (Addr.add A21 4) (Value.slice a18 n19 c20) = some h23 ∧
 Fin B h23 (Q (0)))
def S_disk_Disk_Reset (B : RO) (p1 : Option Addr) (i2 : Int) (h : Heap) (Q : Int → Heap → Prop) : Prop :=
 (p1 = none →
 Fin B h (Q (2))) ∧ (¬ (p1 = none) →
 C_disk_good B (i2) h (fun b26 h25 =>
 (b26 = true →
 Fin B h25 (fun h' => S_disk_Disk_Reset_J1 B p1 i2 h' Q)) ∧ (b26 = false →
 Fin B h25 (Q (1)))))
def S_countermandref04_Open (B : RO) (p1 : Option Addr) (i2 : Int) (h : Heap) (Q : Option Addr → Heap → Prop) : Prop :=
 ∀ k4 : Nat, h k4 = none → B k4 = none → ∀ h5 : Heap, h5 = Heap.set h k4 (.vec 90 (plains [(Value.pointer p1), (Value.int .i64 (i2)), (Value.bool false)]) 3) →
 C_countermandref04_Log_Whole B (some ⟨k4, 0, none⟩) h5 (fun i7 h6 =>
 C_countermandref04_Log_Text B (some ⟨k4, 0, none⟩) h6 (fun s9 h8 =>
 ∃ h10 : Heap, storeH h8 ⟨k4, 2, none⟩ (Value.bool (decide ((i7 : Int) < ((ByteArray.size s9 : Nat))))) = some h10 ∧
 Fin B h10 (Q (some ⟨k4, 0, none⟩))))
def S_countermandref04_Log_Append (B : RO) (p1 : Option Addr) (s2 : ByteArray) (h : Heap) (Q : Int → Heap → Prop) : Prop :=
 (((ByteArray.size s2 : Nat) : Int) > (1024) →
 Fin B h (Q (3))) ∧ (¬ (((ByteArray.size s2 : Nat) : Int) > (1024)) →
 ∃ A5 : Addr, p1 = some A5 ∧
 ∃ b7 : Bool, cellH B h (Addr.add A5 2) = some (Value.bool b7) ∧ (b7 = true →
 Fin B h (Q (9))) ∧ (b7 = false →
 ∃ A9 : Addr, p1 = some A9 ∧
 ∃ p13 : Option Addr, cellH B h A9 = some (Value.pointer p13) ∧
 ∃ A16 : Addr, p1 = some A16 ∧
 ∃ i20 : Int, cellH B h (Addr.add A16 1) = some (Value.int .i64 (i20)) ∧
 C_countermandref02_Close B s2 h (fun s24 h23 =>
 cellH B h23 A9 = some (Value.pointer p13) ∧ cellH B h23 (Addr.add A16 1) = some (Value.int .i64 (i20)) ∧
 C_countermandref03_Disk_Append B p13 (i20) s24 h23 (fun i28 h27 =>
 cellH B h27 A9 = some (Value.pointer p13) ∧ cellH B h27 (Addr.add A16 1) = some (Value.int .i64 (i20)) ∧
 Fin B h27 (Q (i28))))))
def S_countermandref04_Log_Clear (B : RO) (p1 : Option Addr) (h : Heap) (Q : Heap → Prop) : Prop :=
 ∃ A2 : Addr, p1 = some A2 ∧
 ∃ p4 : Option Addr, cellH B h A2 = some (Value.pointer p4) ∧
 ∃ A5 : Addr, p1 = some A5 ∧
 ∃ i7 : Int, cellH B h (Addr.add A5 1) = some (Value.int .i64 (i7)) ∧
 C_countermandref03_Disk_Reset B p4 (i7) h (fun i9 h8 =>
 ∃ A10 : Addr, p1 = some A10 ∧
 ∃ h12 : Heap, storeH h8 (Addr.add A10 2) (Value.bool false) = some h12 ∧
 Fin B h12 (Q))
def S_countermandref03_Disk_Crash_J1 (B : RO) (p1 : Option Addr) (a45 : Option Addr) (n46 : Nat) (c47 : Nat) (h48 : Heap) (Q : Heap → Prop) : Prop :=
 ∃ A49 : Addr, p1 = some A49 ∧
 ∃ h51 : Heap, storeH h48 A49 (Value.slice a45 n46 c47) = some h51 ∧
 ∃ A52 : Addr, p1 = some A52 ∧
 ∃ h54 : Heap, storeH h51 (Addr.add A52 1) (Value.int .i64 ((n46 : Nat))) = some h54 ∧
 Fin B h54 (Q)
def S_countermandref03_Disk_Crash_J2 (B : RO) (p1 : Option Addr) (i2 : Int) (i3 : Int) (a6 : Option Addr) (n7 : Nat) (c8 : Nat) (i11 : Int) (a39 : Option Addr) (n40 : Nat) (c41 : Nat) (b56 : Bool) (h57 : Heap) (Q : Heap → Prop) : Prop :=
 (b56 = true →
 ∃ A58 : Addr, (if c8 = Int.toNat (i11) then a6 else Option.map (·.add (Int.toNat (i11) * 3)) a6) = some A58 ∧ 0 ≤ (if (((Int.toNat ((n7 : Nat)) - Int.toNat (i11)) : Nat) : Int) < (if (0 : Int) > (i2) then (0 : Int) else (i2)) then (((Int.toNat ((n7 : Nat)) - Int.toNat (i11)) : Nat) : Int) else (if (0 : Int) > (i2) then (0 : Int) else (i2)) : Int) ∧ (if (((Int.toNat ((n7 : Nat)) - Int.toNat (i11)) : Nat) : Int) < (if (0 : Int) > (i2) then (0 : Int) else (i2)) then (((Int.toNat ((n7 : Nat)) - Int.toNat (i11)) : Nat) : Int) else (if (0 : Int) > (i2) then (0 : Int) else (i2)) : Int) < ((Int.toNat ((n7 : Nat)) - Int.toNat (i11)) : Nat) ∧
 ∃ s60 : ByteArray, cellH B h57 (Addr.add (Addr.add A58 (Int.toNat (if (((Int.toNat ((n7 : Nat)) - Int.toNat (i11)) : Nat) : Int) < (if (0 : Int) > (i2) then (0 : Int) else (i2)) then (((Int.toNat ((n7 : Nat)) - Int.toNat (i11)) : Nat) : Int) else (if (0 : Int) > (i2) then (0 : Int) else (i2))) * 3)) 2) = some (Value.string s60) ∧
 ∃ A64 : Addr, (if c8 = Int.toNat (i11) then a6 else Option.map (·.add (Int.toNat (i11) * 3)) a6) = some A64 ∧ 0 ≤ (if (((Int.toNat ((n7 : Nat)) - Int.toNat (i11)) : Nat) : Int) < (if (0 : Int) > (i2) then (0 : Int) else (i2)) then (((Int.toNat ((n7 : Nat)) - Int.toNat (i11)) : Nat) : Int) else (if (0 : Int) > (i2) then (0 : Int) else (i2)) : Int) ∧ (if (((Int.toNat ((n7 : Nat)) - Int.toNat (i11)) : Nat) : Int) < (if (0 : Int) > (i2) then (0 : Int) else (i2)) then (((Int.toNat ((n7 : Nat)) - Int.toNat (i11)) : Nat) : Int) else (if (0 : Int) > (i2) then (0 : Int) else (i2)) : Int) < ((Int.toNat ((n7 : Nat)) - Int.toNat (i11)) : Nat) ∧
 ∃ i70 : Int, cellH B h57 (Addr.add A64 (Int.toNat (if (((Int.toNat ((n7 : Nat)) - Int.toNat (i11)) : Nat) : Int) < (if (0 : Int) > (i2) then (0 : Int) else (i2)) then (((Int.toNat ((n7 : Nat)) - Int.toNat (i11)) : Nat) : Int) else (if (0 : Int) > (i2) then (0 : Int) else (i2))) * 3)) = some (Value.int .i64 (i70)) ∧
 ∃ A74 : Addr, (if c8 = Int.toNat (i11) then a6 else Option.map (·.add (Int.toNat (i11) * 3)) a6) = some A74 ∧ 0 ≤ (if (((Int.toNat ((n7 : Nat)) - Int.toNat (i11)) : Nat) : Int) < (if (0 : Int) > (i2) then (0 : Int) else (i2)) then (((Int.toNat ((n7 : Nat)) - Int.toNat (i11)) : Nat) : Int) else (if (0 : Int) > (i2) then (0 : Int) else (i2)) : Int) ∧ (if (((Int.toNat ((n7 : Nat)) - Int.toNat (i11)) : Nat) : Int) < (if (0 : Int) > (i2) then (0 : Int) else (i2)) then (((Int.toNat ((n7 : Nat)) - Int.toNat (i11)) : Nat) : Int) else (if (0 : Int) > (i2) then (0 : Int) else (i2)) : Int) < ((Int.toNat ((n7 : Nat)) - Int.toNat (i11)) : Nat) ∧
 ∃ s80 : ByteArray, cellH B h57 (Addr.add (Addr.add A74 (Int.toNat (if (((Int.toNat ((n7 : Nat)) - Int.toNat (i11)) : Nat) : Int) < (if (0 : Int) > (i2) then (0 : Int) else (i2)) then (((Int.toNat ((n7 : Nat)) - Int.toNat (i11)) : Nat) : Int) else (if (0 : Int) > (i2) then (0 : Int) else (i2))) * 3)) 2) = some (Value.string s80) ∧
 0 ≤ (0 : Int) ∧ (0 : Int) ≤ (if ((ByteArray.size s60 : Nat) : Int) < (if (0 : Int) > (i3) then (0 : Int) else (i3)) then ((ByteArray.size s60 : Nat) : Int) else (if (0 : Int) > (i3) then (0 : Int) else (i3)) : Int) ∧ (if ((ByteArray.size s60 : Nat) : Int) < (if (0 : Int) > (i3) then (0 : Int) else (i3)) then ((ByteArray.size s60 : Nat) : Int) else (if (0 : Int) > (i3) then (0 : Int) else (i3)) : Int) ≤ (ByteArray.size s80 : Nat) ∧
 ∀ k88 : Nat, h57 k88 = none → B k88 = none → ∀ h89 : Heap, h89 = Heap.set h57 k88 (.vec 189 (plains [(Value.int .i64 (i70)), (Value.bool false), (Value.string (ByteArray.extract s80 (Int.toNat (0)) (Int.toNat (if ((ByteArray.size s60 : Nat) : Int) < (if (0 : Int) > (i3) then (0 : Int) else (i3)) then ((ByteArray.size s60 : Nat) : Int) else (if (0 : Int) > (i3) then (0 : Int) else (i3))))))]) 3) →
 cellH B h89 (Addr.add A64 (Int.toNat (if (((Int.toNat ((n7 : Nat)) - Int.toNat (i11)) : Nat) : Int) < (if (0 : Int) > (i2) then (0 : Int) else (i2)) then (((Int.toNat ((n7 : Nat)) - Int.toNat (i11)) : Nat) : Int) else (if (0 : Int) > (i2) then (0 : Int) else (i2))) * 3)) = some (Value.int .i64 (i70)) ∧ cellH B h89 (Addr.add (Addr.add A74 (Int.toNat (if (((Int.toNat ((n7 : Nat)) - Int.toNat (i11)) : Nat) : Int) < (if (0 : Int) > (i2) then (0 : Int) else (i2)) then (((Int.toNat ((n7 : Nat)) - Int.toNat (i11)) : Nat) : Int) else (if (0 : Int) > (i2) then (0 : Int) else (i2))) * 3)) 2) = some (Value.string s80) ∧
 semH PG B (Builtin.append_ #[92, 92] 92 #[(Value.slice a39 n40 c41), (Value.slice (some ⟨k88, 0, none⟩) 1 1)]) h89 (fun v h92 => ∃ a93 : Option Addr, ∃ n94 : Nat, ∃ c95 : Nat, v = (Value.slice a93 n94 c95) ∧
 cellH B h92 (Addr.add A64 (Int.toNat (if (((Int.toNat ((n7 : Nat)) - Int.toNat (i11)) : Nat) : Int) < (if (0 : Int) > (i2) then (0 : Int) else (i2)) then (((Int.toNat ((n7 : Nat)) - Int.toNat (i11)) : Nat) : Int) else (if (0 : Int) > (i2) then (0 : Int) else (i2))) * 3)) = some (Value.int .i64 (i70)) ∧ cellH B h92 (Addr.add (Addr.add A74 (Int.toNat (if (((Int.toNat ((n7 : Nat)) - Int.toNat (i11)) : Nat) : Int) < (if (0 : Int) > (i2) then (0 : Int) else (i2)) then (((Int.toNat ((n7 : Nat)) - Int.toNat (i11)) : Nat) : Int) else (if (0 : Int) > (i2) then (0 : Int) else (i2))) * 3)) 2) = some (Value.string s80) ∧
 Fin B h92 (fun h' => S_countermandref03_Disk_Crash_J1 B p1 a93 n94 c95 h' Q))) ∧ (b56 = false →
 Fin B h57 (fun h' => S_countermandref03_Disk_Crash_J1 B p1 a39 n40 c41 h' Q))
def S_countermandref03_Disk_Crash (B : RO) (p1 : Option Addr) (i2 : Int) (i3 : Int) (h : Heap) (Q : Heap → Prop) : Prop :=
 ∃ A4 : Addr, p1 = some A4 ∧
 ∃ a6 : Option Addr, ∃ n7 : Nat, ∃ c8 : Nat, cellH B h A4 = some (Value.slice a6 n7 c8) ∧
 ∃ A9 : Addr, p1 = some A9 ∧
 ∃ i11 : Int, cellH B h (Addr.add A9 1) = some (Value.int .i64 (i11)) ∧
 0 ≤ (i11 : Int) ∧ (i11 : Int) ≤ ((n7 : Nat) : Int) ∧ ((n7 : Nat) : Int) ≤ (c8 : Nat) ∧
 ∃ A13 : Addr, p1 = some A13 ∧
 ∃ a17 : Option Addr, ∃ n18 : Nat, ∃ c19 : Nat, cellH B h A13 = some (Value.slice a17 n18 c19) ∧
 ∃ A22 : Addr, p1 = some A22 ∧
 ∃ i26 : Int, cellH B h (Addr.add A22 1) = some (Value.int .i64 (i26)) ∧
 0 ≤ (0 : Int) ∧ (0 : Int) ≤ (IntKind.wrap .i64 ((i26) + (if (((Int.toNat ((n7 : Nat)) - Int.toNat (i11)) : Nat) : Int) < (if (0 : Int) > (i2) then (0 : Int) else (i2)) then (((Int.toNat ((n7 : Nat)) - Int.toNat (i11)) : Nat) : Int) else (if (0 : Int) > (i2) then (0 : Int) else (i2)))) : Int) ∧ (IntKind.wrap .i64 ((i26) + (if (((Int.toNat ((n7 : Nat)) - Int.toNat (i11)) : Nat) : Int) < (if (0 : Int) > (i2) then (0 : Int) else (i2)) then (((Int.toNat ((n7 : Nat)) - Int.toNat (i11)) : Nat) : Int) else (if (0 : Int) > (i2) then (0 : Int) else (i2)))) : Int) ≤ (c19 : Nat) ∧
 ∀ k34 : Nat, h k34 = none → B k34 = none → ∀ h35 : Heap, h35 = Heap.set h k34 (.vec 189 [] 0) →
 cellH B h35 A13 = some (Value.slice a17 n18 c19) ∧ cellH B h35 (Addr.add A22 1) = some (Value.int .i64 (i26)) ∧
 semH PG B (Builtin.append_ #[92, 92] 92 #[(Value.slice (some ⟨k34, 0, none⟩) 0 0), (Value.slice (if c19 = Int.toNat (0) then a17 else Option.map (·.add (Int.toNat (0) * 3)) a17) (Int.toNat (IntKind.wrap .i64 ((i26) + (if (((Int.toNat ((n7 : Nat)) - Int.toNat (i11)) : Nat) : Int) < (if (0 : Int) > (i2) then (0 : Int) else (i2)) then (((Int.toNat ((n7 : Nat)) - Int.toNat (i11)) : Nat) : Int) else (if (0 : Int) > (i2) then (0 : Int) else (i2))))) - Int.toNat (0)) (c19 - Int.toNat (0)))]) h35 (fun v h38 => ∃ a39 : Option Addr, ∃ n40 : Nat, ∃ c41 : Nat, v = (Value.slice a39 n40 c41) ∧
 cellH B h38 A13 = some (Value.slice a17 n18 c19) ∧ cellH B h38 (Addr.add A22 1) = some (Value.int .i64 (i26)) ∧
 ((if (((Int.toNat ((n7 : Nat)) - Int.toNat (i11)) : Nat) : Int) < (if (0 : Int) > (i2) then (0 : Int) else (i2)) then (((Int.toNat ((n7 : Nat)) - Int.toNat (i11)) : Nat) : Int) else (if (0 : Int) > (i2) then (0 : Int) else (i2)) : Int) < (((Int.toNat ((n7 : Nat)) - Int.toNat (i11)) : Nat)) →
 ∃ A99 : Addr, (if c8 = Int.toNat (i11) then a6 else Option.map (·.add (Int.toNat (i11) * 3)) a6) = some A99 ∧ 0 ≤ (if (((Int.toNat ((n7 : Nat)) - Int.toNat (i11)) : Nat) : Int) < (if (0 : Int) > (i2) then (0 : Int) else (i2)) then (((Int.toNat ((n7 : Nat)) - Int.toNat (i11)) : Nat) : Int) else (if (0 : Int) > (i2) then (0 : Int) else (i2)) : Int) ∧ (if (((Int.toNat ((n7 : Nat)) - Int.toNat (i11)) : Nat) : Int) < (if (0 : Int) > (i2) then (0 : Int) else (i2)) then (((Int.toNat ((n7 : Nat)) - Int.toNat (i11)) : Nat) : Int) else (if (0 : Int) > (i2) then (0 : Int) else (i2)) : Int) < ((Int.toNat ((n7 : Nat)) - Int.toNat (i11)) : Nat) ∧
 ∃ b101 : Bool, cellH B h38 (Addr.add (Addr.add A99 (Int.toNat (if (((Int.toNat ((n7 : Nat)) - Int.toNat (i11)) : Nat) : Int) < (if (0 : Int) > (i2) then (0 : Int) else (i2)) then (((Int.toNat ((n7 : Nat)) - Int.toNat (i11)) : Nat) : Int) else (if (0 : Int) > (i2) then (0 : Int) else (i2))) * 3)) 1) = some (Value.bool b101) ∧ (b101 = true →
 Fin B h38 (fun h' => S_countermandref03_Disk_Crash_J2 B p1 i2 i3 a6 n7 c8 i11 a39 n40 c41 (false) h' Q)) ∧ (b101 = false →
 Fin B h38 (fun h' => S_countermandref03_Disk_Crash_J2 B p1 i2 i3 a6 n7 c8 i11 a39 n40 c41 (true) h' Q))) ∧ (¬ ((if (((Int.toNat ((n7 : Nat)) - Int.toNat (i11)) : Nat) : Int) < (if (0 : Int) > (i2) then (0 : Int) else (i2)) then (((Int.toNat ((n7 : Nat)) - Int.toNat (i11)) : Nat) : Int) else (if (0 : Int) > (i2) then (0 : Int) else (i2)) : Int) < (((Int.toNat ((n7 : Nat)) - Int.toNat (i11)) : Nat))) →
 Fin B h38 (fun h' => S_countermandref03_Disk_Crash_J2 B p1 i2 i3 a6 n7 c8 i11 a39 n40 c41 (false) h' Q)))
def S_countermandref03_Disk_Append_J1 (B : RO) (p1 : Option Addr) (i2 : Int) (s3 : ByteArray) (h6 : Heap) (Q : Int → Heap → Prop) : Prop :=
 ∃ A7 : Addr, p1 = some A7 ∧
 LdSl B h6 A7 fun a9 n10 c11 h12 =>
 C_countermandref03_Disk_Text B p1 (i2) ((n10 : Nat)) h12 (fun s14 h13 =>
 ((IntKind.wrap .i64 (((ByteArray.size s14 : Nat)) + ((ByteArray.size s3 : Nat))) : Int) > (16384) →
 Fin B h13 (Q (6))) ∧ (¬ ((IntKind.wrap .i64 (((ByteArray.size s14 : Nat)) + ((ByteArray.size s3 : Nat))) : Int) > (16384)) →
 ∀ k16 : Nat, h13 k16 = none → B k16 = none → ∀ h17 : Heap, h17 = Heap.set h13 k16 (.vec 189 [] 0) →
 ∃ A18 : Addr, p1 = some A18 ∧
 LdSl B h17 A18 fun a20 n21 c22 h23 =>
 semH PG B (Builtin.append_ #[92, 92] 92 #[(Value.slice (some ⟨k16, 0, none⟩) 0 0), (Value.slice a20 n21 c22)]) h23 (fun v h24 => ∃ a25 : Option Addr, ∃ n26 : Nat, ∃ c27 : Nat, v = (Value.slice a25 n26 c27) ∧
 ∀ k28 : Nat, h24 k28 = none → B k28 = none → ∀ h29 : Heap, h29 = Heap.set h24 k28 (.vec 189 (plains [(Value.int .i64 (i2)), (Value.bool false), (Value.string s3)]) 3) →
 semH PG B (Builtin.append_ #[92, 92] 92 #[(Value.slice a25 n26 c27), (Value.slice (some ⟨k28, 0, none⟩) 1 1)]) h29 (fun v h30 => ∃ a31 : Option Addr, ∃ n32 : Nat, ∃ c33 : Nat, v = (Value.slice a31 n32 c33) ∧
 ∃ A34 : Addr, p1 = some A34 ∧
 ∃ h36 : Heap, storeH h30 A34 (Value.slice a31 n32 c33) = some h36 ∧
 Fin B h36 (Q (0))))))
def S_countermandref03_Disk_Append (B : RO) (p1 : Option Addr) (i2 : Int) (s3 : ByteArray) (h : Heap) (Q : Int → Heap → Prop) : Prop :=
 ((i2 : Int) = 0 →
 Fin B h (fun h' => S_countermandref03_Disk_Append_J1 B p1 i2 s3 h' Q)) ∧ (¬ ((i2 : Int) = 0) →
 ((i2 : Int) = 1 →
 Fin B h (fun h' => S_countermandref03_Disk_Append_J1 B p1 i2 s3 h' Q)) ∧ (¬ ((i2 : Int) = 1) →
 Fin B h (Q (1))))
def S_countermandref02_Open_J1 (B : RO) (s1 : ByteArray) (h6 : Heap) (Q : ByteArray → Int → Heap → Prop) : Prop :=
 0 ≤ (2 : Int) ∧ (2 : Int) ≤ (IntKind.wrap .i64 ((2) + (IntKind.wrap .i64 ((IntKind.wrap .i64 ((256) * (IntKind.wrap .i64 (byteAt s1 (Int.toNat (0)))))) + (IntKind.wrap .i64 (byteAt s1 (Int.toNat (1))))))) : Int) ∧ (IntKind.wrap .i64 ((2) + (IntKind.wrap .i64 ((IntKind.wrap .i64 ((256) * (IntKind.wrap .i64 (byteAt s1 (Int.toNat (0)))))) + (IntKind.wrap .i64 (byteAt s1 (Int.toNat (1))))))) : Int) ≤ (ByteArray.size s1 : Nat) ∧
 0 ≤ (0 : Int) ∧ (0 : Int) ≤ (IntKind.wrap .i64 ((6) + (IntKind.wrap .i64 ((IntKind.wrap .i64 ((256) * (IntKind.wrap .i64 (byteAt s1 (Int.toNat (0)))))) + (IntKind.wrap .i64 (byteAt s1 (Int.toNat (1))))))) : Int) ∧ (IntKind.wrap .i64 ((6) + (IntKind.wrap .i64 ((IntKind.wrap .i64 ((256) * (IntKind.wrap .i64 (byteAt s1 (Int.toNat (0)))))) + (IntKind.wrap .i64 (byteAt s1 (Int.toNat (1))))))) : Int) ≤ (ByteArray.size s1 : Nat) ∧
 C_countermandref02_Close B (ByteArray.extract s1 (Int.toNat (2)) (Int.toNat (IntKind.wrap .i64 ((2) + (IntKind.wrap .i64 ((IntKind.wrap .i64 ((256) * (IntKind.wrap .i64 (byteAt s1 (Int.toNat (0)))))) + (IntKind.wrap .i64 (byteAt s1 (Int.toNat (1)))))))))) h6 (fun s16 h15 =>
 (s16 = (ByteArray.extract s1 (Int.toNat (0)) (Int.toNat (IntKind.wrap .i64 ((6) + (IntKind.wrap .i64 ((IntKind.wrap .i64 ((256) * (IntKind.wrap .i64 (byteAt s1 (Int.toNat (0)))))) + (IntKind.wrap .i64 (byteAt s1 (Int.toNat (1)))))))))) →
 Fin B h15 (Q (ByteArray.extract s1 (Int.toNat (2)) (Int.toNat (IntKind.wrap .i64 ((2) + (IntKind.wrap .i64 ((IntKind.wrap .i64 ((256) * (IntKind.wrap .i64 (byteAt s1 (Int.toNat (0)))))) + (IntKind.wrap .i64 (byteAt s1 (Int.toNat (1)))))))))) (IntKind.wrap .i64 ((6) + (IntKind.wrap .i64 ((IntKind.wrap .i64 ((256) * (IntKind.wrap .i64 (byteAt s1 (Int.toNat (0)))))) + (IntKind.wrap .i64 (byteAt s1 (Int.toNat (1)))))))))) ∧ (¬ (s16 = (ByteArray.extract s1 (Int.toNat (0)) (Int.toNat (IntKind.wrap .i64 ((6) + (IntKind.wrap .i64 ((IntKind.wrap .i64 ((256) * (IntKind.wrap .i64 (byteAt s1 (Int.toNat (0)))))) + (IntKind.wrap .i64 (byteAt s1 (Int.toNat (1))))))))))) →
 Fin B h15 (Q (ByteArray.mk #[]) (0))))
def S_countermandref02_Open (B : RO) (s1 : ByteArray) (h : Heap) (Q : ByteArray → Int → Heap → Prop) : Prop :=
 (((ByteArray.size s1 : Nat) : Int) < (6) →
 Fin B h (Q (ByteArray.mk #[]) (0))) ∧ (¬ (((ByteArray.size s1 : Nat) : Int) < (6)) →
 0 ≤ (0 : Int) ∧ (0 : Int) < (ByteArray.size s1 : Nat) ∧
 0 ≤ (1 : Int) ∧ (1 : Int) < (ByteArray.size s1 : Nat) ∧
 ((IntKind.wrap .i64 ((IntKind.wrap .i64 ((256) * (IntKind.wrap .i64 (byteAt s1 (Int.toNat (0)))))) + (IntKind.wrap .i64 (byteAt s1 (Int.toNat (1))))) : Int) > (1024) →
 Fin B h (Q (ByteArray.mk #[]) (0))) ∧ (¬ ((IntKind.wrap .i64 ((IntKind.wrap .i64 ((256) * (IntKind.wrap .i64 (byteAt s1 (Int.toNat (0)))))) + (IntKind.wrap .i64 (byteAt s1 (Int.toNat (1))))) : Int) > (1024)) →
 (((ByteArray.size s1 : Nat) : Int) < (IntKind.wrap .i64 ((6) + (IntKind.wrap .i64 ((IntKind.wrap .i64 ((256) * (IntKind.wrap .i64 (byteAt s1 (Int.toNat (0)))))) + (IntKind.wrap .i64 (byteAt s1 (Int.toNat (1)))))))) →
 Fin B h (Q (ByteArray.mk #[]) (0))) ∧ (¬ (((ByteArray.size s1 : Nat) : Int) < (IntKind.wrap .i64 ((6) + (IntKind.wrap .i64 ((IntKind.wrap .i64 ((256) * (IntKind.wrap .i64 (byteAt s1 (Int.toNat (0)))))) + (IntKind.wrap .i64 (byteAt s1 (Int.toNat (1))))))))) →
 Fin B h (fun h' => S_countermandref02_Open_J1 B s1 h' Q))))
def S_countermandref02_Row (B : RO) (a1 : Option Addr) (n2 : Nat) (c3 : Nat) (h : Heap) (Q : ByteArray → Heap → Prop) : Prop :=
 ∃ (J11 : ByteArray → Int → Nat → Heap → Prop) (m9 : Nat), Fin B h (J11 (ByteArray.mk #[]) (0) m9) ∧
 ∀ (s5 : ByteArray) (i6 : Int) (m8 : Nat) (h7 : Heap), J11 s5 i6 m8 h7 →
 ((i6 : Int) < ((n2 : Nat)) →
 ∃ A13 : Addr, a1 = some A13 ∧ 0 ≤ (i6 : Int) ∧ (i6 : Int) < (n2 : Nat) ∧
 ∃ s15 : ByteArray, cellH B h7 (Addr.add A13 (Int.toNat (i6) * 1)) = some (Value.string s15) ∧
 C_countermandref02_Close B s15 h7 (fun s17 h16 =>
 ByteArray.size s5 + ByteArray.size s17 ≤ 4611686018427387904 ∧
 Fin B h16 (fun h' => ∃ m', m' < m8 ∧ J11 (s5 ++ s17) (IntKind.wrap .i64 ((i6) + (1))) m' h'))) ∧ (¬ ((i6 : Int) < ((n2 : Nat))) →
 Fin B h7 (Q s5))
def S_wafer_foots (B : RO) (i1 : Int) (h : Heap) (Q : ByteArray → Heap → Prop) : Prop :=
 ¬ ((8 : Int) < 0) ∧
 ¬ ((16 : Int) < 0) ∧
 ¬ ((24 : Int) < 0) ∧
 ∀ k3 : Nat, h k3 = none → B k3 = none → ∀ h4 : Heap, h4 = Heap.set h k3 (.vec 5 (plains [(Value.int .u8 (IntKind.wrap .u8 (i1))), (Value.int .u8 (IntKind.wrap .u8 (Int.fdiv (i1) (2 ^ (min (Int.toNat (8)) (IntKind.bits .u32)))))), (Value.int .u8 (IntKind.wrap .u8 (Int.fdiv (i1) (2 ^ (min (Int.toNat (16)) (IntKind.bits .u32)))))), (Value.int .u8 (IntKind.wrap .u8 (Int.fdiv (i1) (2 ^ (min (Int.toNat (24)) (IntKind.bits .u32))))))]) 4) →
 semH PG B (convert 208 9 (Value.slice (some ⟨k3, 0, none⟩) 4 4)) h4 (fun v h6 => ∃ s5 : ByteArray, v = (Value.string s5) ∧
 Fin B h6 (Q s5))
def S_wafer_Sum (B : RO) (s1 : ByteArray) (h : Heap) (Q : Int → Heap → Prop) : Prop :=
 ∃ (J9 : Int → Int → Nat → Heap → Prop) (m7 : Nat), Fin B h (J9 (4294967295) (0) m7) ∧
 ∀ (i3 : Int) (i4 : Int) (m6 : Nat) (h5 : Heap), J9 i3 i4 m6 h5 →
 ((i4 : Int) < ((ByteArray.size s1 : Nat)) →
 0 ≤ (i4 : Int) ∧ (i4 : Int) < (ByteArray.size s1 : Nat) ∧
 ∃ (J17 : Int → Int → Nat → Heap → Prop) (m15 : Nat), Fin B h5 (J17 (IntKind.wrap .u32 ((BitVec.ofInt (IntKind.bits .u32) (i3) ^^^ BitVec.ofInt (IntKind.bits .u32) (IntKind.wrap .u32 (byteAt s1 (Int.toNat (i4))))).toNat : Int)) (0) m15) ∧
 ∀ (i11 : Int) (i12 : Int) (m14 : Nat) (h13 : Heap), J17 i11 i12 m14 h13 →
 ((i12 : Int) < (8) →
 ¬ ((1 : Int) < 0) ∧
 Fin B h13 (fun h' => ∃ m', m' < m14 ∧ J17 (IntKind.wrap .u32 ((BitVec.ofInt (IntKind.bits .u32) (Int.fdiv (i11) (2 ^ (min (Int.toNat (1)) (IntKind.bits .u32)))) ^^^ BitVec.ofInt (IntKind.bits .u32) (IntKind.wrap .u32 ((BitVec.ofInt (IntKind.bits .u32) (2197175160) &&& BitVec.ofInt (IntKind.bits .u32) (IntKind.wrap .u32 (0 - (IntKind.wrap .u32 ((BitVec.ofInt (IntKind.bits .u32) (i11) &&& BitVec.ofInt (IntKind.bits .u32) (1)).toNat : Int))))).toNat : Int))).toNat : Int)) (IntKind.wrap .i64 ((i12) + (1))) m' h')) ∧ (¬ ((i12 : Int) < (8)) →
 Fin B h13 (fun h' => ∃ m', m' < m6 ∧ J9 (i11) (IntKind.wrap .i64 ((i4) + (1))) m' h'))) ∧ (¬ ((i4 : Int) < ((ByteArray.size s1 : Nat))) →
 Fin B h5 (Q (IntKind.wrap .u32 (((BitVec.ofInt (IntKind.bits .u32) (if IntKind.signed .u32 then (-1 : Int) else IntKind.max .u32) ^^^ BitVec.ofInt (IntKind.bits .u32) (i3)).toNat : Int)))))
def S_wafer_All_1 (B : RO) (v1 : Value) (A2 : Addr) (h : Heap) (Q : Heap → Prop) : Prop :=
 ∃ s3 : ByteArray, cellH B h A2 = some (Value.string s3) ∧
 ∃ (J9 : ByteArray → Nat → Heap → Prop) (m7 : Nat), Fin B h (J9 s3 m7) ∧
 ∀ (s4 : ByteArray) (m6 : Nat) (h5 : Heap), J9 s4 m6 h5 →
 C_wafer_Open B s4 h5 (fun s11 i12 h10 =>
 ((i12 : Int) = 0 →
 Fin B h10 (Q)) ∧ (¬ ((i12 : Int) = 0) →
 CallV PG B v1 [(Value.string s11)] h10 (fun v h14 => ∃ b15 : Bool, v = (Value.bool b15) ∧
 (b15 = true →
 0 ≤ (i12 : Int) ∧ (i12 : Int) ≤ ((ByteArray.size s4 : Nat) : Int) ∧ ((ByteArray.size s4 : Nat) : Int) ≤ (ByteArray.size s4 : Nat) ∧
 Fin B h14 (fun h' => ∃ m', m' < m6 ∧ J9 (ByteArray.extract s4 (Int.toNat (i12)) (Int.toNat ((ByteArray.size s4 : Nat)))) m' h')) ∧ (b15 = false →
 Fin B h14 (Q)))))
def S_wafer_Open_J1 (B : RO) (s1 : ByteArray) (h6 : Heap) (Q : ByteArray → Int → Heap → Prop) : Prop :=
 0 ≤ (0 : Int) ∧ (0 : Int) ≤ (IntKind.wrap .i64 ((2) + (IntKind.wrap .i64 ((BitVec.ofInt (IntKind.bits .i64) (IntKind.wrap .i64 ((IntKind.wrap .i64 (byteAt s1 (Int.toNat (0)))) * 2 ^ (min (Int.toNat (8)) (IntKind.bits .i64)))) ||| BitVec.ofInt (IntKind.bits .i64) (IntKind.wrap .i64 (byteAt s1 (Int.toNat (1))))).toNat : Int))) : Int) ∧ (IntKind.wrap .i64 ((2) + (IntKind.wrap .i64 ((BitVec.ofInt (IntKind.bits .i64) (IntKind.wrap .i64 ((IntKind.wrap .i64 (byteAt s1 (Int.toNat (0)))) * 2 ^ (min (Int.toNat (8)) (IntKind.bits .i64)))) ||| BitVec.ofInt (IntKind.bits .i64) (IntKind.wrap .i64 (byteAt s1 (Int.toNat (1))))).toNat : Int))) : Int) ≤ (ByteArray.size s1 : Nat) ∧
 0 ≤ (IntKind.wrap .i64 ((2) + (IntKind.wrap .i64 ((BitVec.ofInt (IntKind.bits .i64) (IntKind.wrap .i64 ((IntKind.wrap .i64 (byteAt s1 (Int.toNat (0)))) * 2 ^ (min (Int.toNat (8)) (IntKind.bits .i64)))) ||| BitVec.ofInt (IntKind.bits .i64) (IntKind.wrap .i64 (byteAt s1 (Int.toNat (1))))).toNat : Int))) : Int) ∧ (IntKind.wrap .i64 ((2) + (IntKind.wrap .i64 ((BitVec.ofInt (IntKind.bits .i64) (IntKind.wrap .i64 ((IntKind.wrap .i64 (byteAt s1 (Int.toNat (0)))) * 2 ^ (min (Int.toNat (8)) (IntKind.bits .i64)))) ||| BitVec.ofInt (IntKind.bits .i64) (IntKind.wrap .i64 (byteAt s1 (Int.toNat (1))))).toNat : Int))) : Int) ≤ (IntKind.wrap .i64 ((IntKind.wrap .i64 ((2) + (IntKind.wrap .i64 ((BitVec.ofInt (IntKind.bits .i64) (IntKind.wrap .i64 ((IntKind.wrap .i64 (byteAt s1 (Int.toNat (0)))) * 2 ^ (min (Int.toNat (8)) (IntKind.bits .i64)))) ||| BitVec.ofInt (IntKind.bits .i64) (IntKind.wrap .i64 (byteAt s1 (Int.toNat (1))))).toNat : Int)))) + (4)) : Int) ∧ (IntKind.wrap .i64 ((IntKind.wrap .i64 ((2) + (IntKind.wrap .i64 ((BitVec.ofInt (IntKind.bits .i64) (IntKind.wrap .i64 ((IntKind.wrap .i64 (byteAt s1 (Int.toNat (0)))) * 2 ^ (min (Int.toNat (8)) (IntKind.bits .i64)))) ||| BitVec.ofInt (IntKind.bits .i64) (IntKind.wrap .i64 (byteAt s1 (Int.toNat (1))))).toNat : Int)))) + (4)) : Int) ≤ (ByteArray.size s1 : Nat) ∧
 C_wafer_Sum B (ByteArray.extract s1 (Int.toNat (0)) (Int.toNat (IntKind.wrap .i64 ((2) + (IntKind.wrap .i64 ((BitVec.ofInt (IntKind.bits .i64) (IntKind.wrap .i64 ((IntKind.wrap .i64 (byteAt s1 (Int.toNat (0)))) * 2 ^ (min (Int.toNat (8)) (IntKind.bits .i64)))) ||| BitVec.ofInt (IntKind.bits .i64) (IntKind.wrap .i64 (byteAt s1 (Int.toNat (1))))).toNat : Int)))))) h6 (fun i23 h22 =>
 C_wafer_foots B (i23) h22 (fun s25 h24 =>
 (s25 = (ByteArray.extract s1 (Int.toNat (IntKind.wrap .i64 ((2) + (IntKind.wrap .i64 ((BitVec.ofInt (IntKind.bits .i64) (IntKind.wrap .i64 ((IntKind.wrap .i64 (byteAt s1 (Int.toNat (0)))) * 2 ^ (min (Int.toNat (8)) (IntKind.bits .i64)))) ||| BitVec.ofInt (IntKind.bits .i64) (IntKind.wrap .i64 (byteAt s1 (Int.toNat (1))))).toNat : Int))))) (Int.toNat (IntKind.wrap .i64 ((IntKind.wrap .i64 ((2) + (IntKind.wrap .i64 ((BitVec.ofInt (IntKind.bits .i64) (IntKind.wrap .i64 ((IntKind.wrap .i64 (byteAt s1 (Int.toNat (0)))) * 2 ^ (min (Int.toNat (8)) (IntKind.bits .i64)))) ||| BitVec.ofInt (IntKind.bits .i64) (IntKind.wrap .i64 (byteAt s1 (Int.toNat (1))))).toNat : Int)))) + (4))))) →
 0 ≤ (2 : Int) ∧ (2 : Int) ≤ (IntKind.wrap .i64 ((2) + (IntKind.wrap .i64 ((BitVec.ofInt (IntKind.bits .i64) (IntKind.wrap .i64 ((IntKind.wrap .i64 (byteAt s1 (Int.toNat (0)))) * 2 ^ (min (Int.toNat (8)) (IntKind.bits .i64)))) ||| BitVec.ofInt (IntKind.bits .i64) (IntKind.wrap .i64 (byteAt s1 (Int.toNat (1))))).toNat : Int))) : Int) ∧ (IntKind.wrap .i64 ((2) + (IntKind.wrap .i64 ((BitVec.ofInt (IntKind.bits .i64) (IntKind.wrap .i64 ((IntKind.wrap .i64 (byteAt s1 (Int.toNat (0)))) * 2 ^ (min (Int.toNat (8)) (IntKind.bits .i64)))) ||| BitVec.ofInt (IntKind.bits .i64) (IntKind.wrap .i64 (byteAt s1 (Int.toNat (1))))).toNat : Int))) : Int) ≤ (ByteArray.size s1 : Nat) ∧
 Fin B h24 (Q (ByteArray.extract s1 (Int.toNat (2)) (Int.toNat (IntKind.wrap .i64 ((2) + (IntKind.wrap .i64 ((BitVec.ofInt (IntKind.bits .i64) (IntKind.wrap .i64 ((IntKind.wrap .i64 (byteAt s1 (Int.toNat (0)))) * 2 ^ (min (Int.toNat (8)) (IntKind.bits .i64)))) ||| BitVec.ofInt (IntKind.bits .i64) (IntKind.wrap .i64 (byteAt s1 (Int.toNat (1))))).toNat : Int)))))) (IntKind.wrap .i64 ((IntKind.wrap .i64 ((2) + (IntKind.wrap .i64 ((BitVec.ofInt (IntKind.bits .i64) (IntKind.wrap .i64 ((IntKind.wrap .i64 (byteAt s1 (Int.toNat (0)))) * 2 ^ (min (Int.toNat (8)) (IntKind.bits .i64)))) ||| BitVec.ofInt (IntKind.bits .i64) (IntKind.wrap .i64 (byteAt s1 (Int.toNat (1))))).toNat : Int)))) + (4))))) ∧ (¬ (s25 = (ByteArray.extract s1 (Int.toNat (IntKind.wrap .i64 ((2) + (IntKind.wrap .i64 ((BitVec.ofInt (IntKind.bits .i64) (IntKind.wrap .i64 ((IntKind.wrap .i64 (byteAt s1 (Int.toNat (0)))) * 2 ^ (min (Int.toNat (8)) (IntKind.bits .i64)))) ||| BitVec.ofInt (IntKind.bits .i64) (IntKind.wrap .i64 (byteAt s1 (Int.toNat (1))))).toNat : Int))))) (Int.toNat (IntKind.wrap .i64 ((IntKind.wrap .i64 ((2) + (IntKind.wrap .i64 ((BitVec.ofInt (IntKind.bits .i64) (IntKind.wrap .i64 ((IntKind.wrap .i64 (byteAt s1 (Int.toNat (0)))) * 2 ^ (min (Int.toNat (8)) (IntKind.bits .i64)))) ||| BitVec.ofInt (IntKind.bits .i64) (IntKind.wrap .i64 (byteAt s1 (Int.toNat (1))))).toNat : Int)))) + (4)))))) →
 Fin B h24 (Q (ByteArray.mk #[]) (0)))))
def S_wafer_Open (B : RO) (s1 : ByteArray) (h : Heap) (Q : ByteArray → Int → Heap → Prop) : Prop :=
 (((ByteArray.size s1 : Nat) : Int) < (2) →
 Fin B h (Q (ByteArray.mk #[]) (0))) ∧ (¬ (((ByteArray.size s1 : Nat) : Int) < (2)) →
 0 ≤ (0 : Int) ∧ (0 : Int) < (ByteArray.size s1 : Nat) ∧
 ¬ ((8 : Int) < 0) ∧
 0 ≤ (1 : Int) ∧ (1 : Int) < (ByteArray.size s1 : Nat) ∧
 ((IntKind.wrap .i64 ((BitVec.ofInt (IntKind.bits .i64) (IntKind.wrap .i64 ((IntKind.wrap .i64 (byteAt s1 (Int.toNat (0)))) * 2 ^ (min (Int.toNat (8)) (IntKind.bits .i64)))) ||| BitVec.ofInt (IntKind.bits .i64) (IntKind.wrap .i64 (byteAt s1 (Int.toNat (1))))).toNat : Int) : Int) > (1024) →
 Fin B h (Q (ByteArray.mk #[]) (0))) ∧ (¬ ((IntKind.wrap .i64 ((BitVec.ofInt (IntKind.bits .i64) (IntKind.wrap .i64 ((IntKind.wrap .i64 (byteAt s1 (Int.toNat (0)))) * 2 ^ (min (Int.toNat (8)) (IntKind.bits .i64)))) ||| BitVec.ofInt (IntKind.bits .i64) (IntKind.wrap .i64 (byteAt s1 (Int.toNat (1))))).toNat : Int) : Int) > (1024)) →
 (((ByteArray.size s1 : Nat) : Int) < (IntKind.wrap .i64 ((IntKind.wrap .i64 ((2) + (IntKind.wrap .i64 ((BitVec.ofInt (IntKind.bits .i64) (IntKind.wrap .i64 ((IntKind.wrap .i64 (byteAt s1 (Int.toNat (0)))) * 2 ^ (min (Int.toNat (8)) (IntKind.bits .i64)))) ||| BitVec.ofInt (IntKind.bits .i64) (IntKind.wrap .i64 (byteAt s1 (Int.toNat (1))))).toNat : Int)))) + (4))) →
 Fin B h (Q (ByteArray.mk #[]) (0))) ∧ (¬ (((ByteArray.size s1 : Nat) : Int) < (IntKind.wrap .i64 ((IntKind.wrap .i64 ((2) + (IntKind.wrap .i64 ((BitVec.ofInt (IntKind.bits .i64) (IntKind.wrap .i64 ((IntKind.wrap .i64 (byteAt s1 (Int.toNat (0)))) * 2 ^ (min (Int.toNat (8)) (IntKind.bits .i64)))) ||| BitVec.ofInt (IntKind.bits .i64) (IntKind.wrap .i64 (byteAt s1 (Int.toNat (1))))).toNat : Int)))) + (4)))) →
 Fin B h (fun h' => S_wafer_Open_J1 B s1 h' Q))))
def S_countermandref02_Close (B : RO) (s1 : ByteArray) (h : Heap) (Q : ByteArray → Heap → Prop) : Prop :=
 (((ByteArray.size s1 : Nat) : Int) > (1024) →
 Fin B h (Q (ByteArray.mk #[]))) ∧ (¬ (((ByteArray.size s1 : Nat) : Int) > (1024)) →
 ¬ ((256 : Int) = 0) ∧
 ¬ ((256 : Int) = 0) ∧
 ∀ k4 : Nat, h k4 = none → B k4 = none → ∀ h5 : Heap, h5 = Heap.set h k4 (.vec 5 (plains [(Value.int .u8 (IntKind.wrap .u8 (IntKind.wrap .i64 (Int.tdiv ((ByteArray.size s1 : Nat)) (256))))), (Value.int .u8 (IntKind.wrap .u8 (Int.tmod ((ByteArray.size s1 : Nat)) (256))))]) 2) →
 semH PG B (convert 208 9 (Value.slice (some ⟨k4, 0, none⟩) 2 2)) h5 (fun v h7 => ∃ s6 : ByteArray, v = (Value.string s6) ∧
 ByteArray.size s6 + ByteArray.size s1 ≤ 4611686018427387904 ∧
 C_countermandref02_Sum B (s6 ++ s1) h7 (fun i9 h8 =>
 ¬ ((256 : Int) = 0) ∧
 ¬ ((256 : Int) = 0) ∧
 ¬ ((256 : Int) = 0) ∧
 ¬ ((65536 : Int) = 0) ∧
 ¬ ((256 : Int) = 0) ∧
 ¬ ((16777216 : Int) = 0) ∧
 ∀ k10 : Nat, h8 k10 = none → B k10 = none → ∀ h11 : Heap, h11 = Heap.set h8 k10 (.vec 5 (plains [(Value.int .u8 (IntKind.wrap .u8 (Int.tmod (i9) (256)))), (Value.int .u8 (IntKind.wrap .u8 (Int.tmod (IntKind.wrap .u32 (Int.tdiv (i9) (256))) (256)))), (Value.int .u8 (IntKind.wrap .u8 (Int.tmod (IntKind.wrap .u32 (Int.tdiv (i9) (65536))) (256)))), (Value.int .u8 (IntKind.wrap .u8 (IntKind.wrap .u32 (Int.tdiv (i9) (16777216)))))]) 4) →
 semH PG B (convert 208 9 (Value.slice (some ⟨k10, 0, none⟩) 4 4)) h11 (fun v h13 => ∃ s12 : ByteArray, v = (Value.string s12) ∧
 ByteArray.size (s6 ++ s1) + ByteArray.size s12 ≤ 4611686018427387904 ∧
 Fin B h13 (Q ((s6 ++ s1) ++ s12))))))
def S_countermandref03_Disk_Reset_J1 (B : RO) (p1 : Option Addr) (i2 : Int) (h5 : Heap) (Q : Int → Heap → Prop) : Prop :=
 ∀ k6 : Nat, h5 k6 = none → B k6 = none → ∀ h7 : Heap, h7 = Heap.set h5 k6 (.vec 189 [] 0) →
 ∃ A8 : Addr, p1 = some A8 ∧
 LdSl B h7 A8 fun a10 n11 c12 h13 =>
 semH PG B (Builtin.append_ #[92, 92] 92 #[(Value.slice (some ⟨k6, 0, none⟩) 0 0), (Value.slice a10 n11 c12)]) h13 (fun v h14 => ∃ a15 : Option Addr, ∃ n16 : Nat, ∃ c17 : Nat, v = (Value.slice a15 n16 c17) ∧
 ∀ k18 : Nat, h14 k18 = none → B k18 = none → ∀ h19 : Heap, h19 = Heap.set h14 k18 (.vec 189 (plains [(Value.int .i64 (i2)), (Value.bool true), (Value.string ByteArray.empty)]) 3) →
 semH PG B (Builtin.append_ #[92, 92] 92 #[(Value.slice a15 n16 c17), (Value.slice (some ⟨k18, 0, none⟩) 1 1)]) h19 (fun v h20 => ∃ a21 : Option Addr, ∃ n22 : Nat, ∃ c23 : Nat, v = (Value.slice a21 n22 c23) ∧
 ∃ A24 : Addr, p1 = some A24 ∧
 ∃ h26 : Heap, storeH h20 A24 (Value.slice a21 n22 c23) = some h26 ∧
 Fin B h26 (Q (0))))
def S_countermandref03_Disk_Reset (B : RO) (p1 : Option Addr) (i2 : Int) (h : Heap) (Q : Int → Heap → Prop) : Prop :=
 ((i2 : Int) = 0 →
 Fin B h (fun h' => S_countermandref03_Disk_Reset_J1 B p1 i2 h' Q)) ∧ (¬ ((i2 : Int) = 0) →
 ((i2 : Int) = 1 →
 Fin B h (fun h' => S_countermandref03_Disk_Reset_J1 B p1 i2 h' Q)) ∧ (¬ ((i2 : Int) = 1) →
 Fin B h (Q (1))))
def S_countermandref02_Sum (B : RO) (s1 : ByteArray) (h : Heap) (Q : Int → Heap → Prop) : Prop :=
 ∃ (J9 : Int → Int → Nat → Heap → Prop) (m7 : Nat), Fin B h (J9 (4294967295) (0) m7) ∧
 ∀ (i3 : Int) (i4 : Int) (m6 : Nat) (h5 : Heap), J9 i3 i4 m6 h5 →
 ((i4 : Int) < ((ByteArray.size s1 : Nat)) →
 0 ≤ (i4 : Int) ∧ (i4 : Int) < (ByteArray.size s1 : Nat) ∧
 ∃ (J18 : Int → Int → Int → Nat → Heap → Prop) (m16 : Nat), Fin B h5 (J18 (i3) (byteAt s1 (Int.toNat (i4))) (0) m16) ∧
 ∀ (i11 : Int) (i12 : Int) (i13 : Int) (m15 : Nat) (h14 : Heap), J18 i11 i12 i13 m15 h14 →
 ((i13 : Int) < (8) →
 ¬ ((2 : Int) = 0) ∧
 ¬ ((2 : Int) = 0) ∧
 (((Int.tmod (i11) (2) : Int) == (1)) = ((Int.tmod (i12) (2) : Int) == (1)) →
 ¬ ((2 : Int) = 0) ∧
 ¬ ((2 : Int) = 0) ∧
 Fin B h14 (fun h' => ∃ m', m' < m15 ∧ J18 (IntKind.wrap .u32 (Int.tdiv (i11) (2))) (IntKind.wrap .u8 (Int.tdiv (i12) (2))) (IntKind.wrap .i64 ((i13) + (1))) m' h')) ∧ (¬ (((Int.tmod (i11) (2) : Int) == (1)) = ((Int.tmod (i12) (2) : Int) == (1))) →
 ¬ ((2 : Int) = 0) ∧
 ¬ ((2 : Int) = 0) ∧
 Fin B h14 (fun h' => ∃ m', m' < m15 ∧ J18 (IntKind.wrap .u32 ((BitVec.ofInt (IntKind.bits .u32) (IntKind.wrap .u32 (Int.tdiv (i11) (2))) ^^^ BitVec.ofInt (IntKind.bits .u32) (2197175160)).toNat : Int)) (IntKind.wrap .u8 (Int.tdiv (i12) (2))) (IntKind.wrap .i64 ((i13) + (1))) m' h'))) ∧ (¬ ((i13 : Int) < (8)) →
 Fin B h14 (fun h' => ∃ m', m' < m6 ∧ J9 (i11) (IntKind.wrap .i64 ((i4) + (1))) m' h'))) ∧ (¬ ((i4 : Int) < ((ByteArray.size s1 : Nat))) →
 Fin B h5 (Q (IntKind.wrap .u32 ((4294967295) - (i3)))))
end Go.Proofs.Ythloobpjkeodgaa.H
