/- What each function asks. No condition. -/
import Derived.Test.YtcncdfmnpmmikaaXvF
namespace Go.Proofs.Ytcncdfmnpmmikaa.H
open Go
set_option linter.unusedVariables false
set_option maxRecDepth 100000

def S_countermandlaw05_VaultSettles_J6 (B : RO) (s1 : ByteArray) (i6 : Int) (a28 : Option Addr) (n29 : Nat) (c30 : Nat) (k48 : Nat) (h53 : Heap) (Q : Bool → Heap → Prop) : Prop :=
 ((IntKind.wrap .i64 (Int.tmod (IntKind.wrap .u64 (i6)) (4)) : Int) < (3) →
 ∃ s55 : ByteArray, cellH B h53 ⟨k48, 0, none⟩ = some (Value.string s55) ∧
 (s55 = s1 →
 LdSl B h53 ⟨k48, 1, none⟩ fun a57 n58 c59 h60 =>
 C_countermandref05_Same B a57 n58 c59 a28 n29 c30 h60 (fun b62 h61 =>
 Fin B h61 (Q (b62)))) ∧ (¬ (s55 = s1) →
 Fin B h53 (Q (false)))) ∧ (¬ ((IntKind.wrap .i64 (Int.tmod (IntKind.wrap .u64 (i6)) (4)) : Int) < (3)) →
 Fin B h53 (Q (false)))
def S_countermandlaw05_VaultSettles_J5 (B : RO) (s1 : ByteArray) (s5 : ByteArray) (i6 : Int) (p14 : Option Addr) (a28 : Option Addr) (n29 : Nat) (c30 : Nat) (h40 : Heap) (Q : Bool → Heap → Prop) : Prop :=
 C_vault_Open B p14 h40 (fun p42 s43 a44 n45 c46 i47 h41 =>
 ∀ k48 : Nat, h41 k48 = none → B k48 = none → ∀ h49 : Heap, h49 = Heap.set h41 k48 (.vec 51 (plains [(Value.string ByteArray.empty), (Value.slice none 0 0)]) 2) →
 ∃ h50 : Heap, StoresAt ⟨k48, 0, none⟩ h49 0 [(Value.string s43), (Value.slice a44 n45 c46)] h50 ∧
 ((i47 : Int) = 0 →
 ∃ s63 : ByteArray, cellH B h50 ⟨k48, 0, none⟩ = some (Value.string s63) ∧
 (s63 = s5 →
 LdSl B h50 ⟨k48, 1, none⟩ fun a65 n66 c67 h68 =>
 (((n66 : Nat) : Int) = 0 →
 ((IntKind.wrap .i64 (Int.tmod (IntKind.wrap .u64 (i6)) (4)) : Int) > (1) →
 Fin B h68 (Q (true))) ∧ (¬ ((IntKind.wrap .i64 (Int.tmod (IntKind.wrap .u64 (i6)) (4)) : Int) > (1)) →
 Fin B h68 (fun h' => S_countermandlaw05_VaultSettles_J6 B s1 i6 a28 n29 c30 k48 h' Q))) ∧ (¬ (((n66 : Nat) : Int) = 0) →
 Fin B h68 (fun h' => S_countermandlaw05_VaultSettles_J6 B s1 i6 a28 n29 c30 k48 h' Q))) ∧ (¬ (s63 = s5) →
 Fin B h50 (fun h' => S_countermandlaw05_VaultSettles_J6 B s1 i6 a28 n29 c30 k48 h' Q))) ∧ (¬ ((i47 : Int) = 0) →
 Fin B h50 (Q (false))))
def S_countermandlaw05_VaultSettles_J4 (B : RO) (s1 : ByteArray) (s5 : ByteArray) (i6 : Int) (i7 : Int) (p14 : Option Addr) (a28 : Option Addr) (n29 : Nat) (c30 : Nat) (h38 : Heap) (Q : Bool → Heap → Prop) : Prop :=
 ((IntKind.wrap .i64 (Int.tmod (IntKind.wrap .u64 (i6)) (4)) : Int) > (2) →
 C_disk_Disk_Reset B p14 (1) h38 (fun i73 h72 =>
 C_disk_Disk_Crash B p14 (i7) (0) h72 (fun h74 =>
 Fin B h74 (fun h' => S_countermandlaw05_VaultSettles_J5 B s1 s5 i6 p14 a28 n29 c30 h' Q)))) ∧ (¬ ((IntKind.wrap .i64 (Int.tmod (IntKind.wrap .u64 (i6)) (4)) : Int) > (2)) →
 Fin B h38 (fun h' => S_countermandlaw05_VaultSettles_J5 B s1 s5 i6 p14 a28 n29 c30 h' Q))
def S_countermandlaw05_VaultSettles_J3 (B : RO) (s1 : ByteArray) (s5 : ByteArray) (i6 : Int) (i7 : Int) (p14 : Option Addr) (a28 : Option Addr) (n29 : Nat) (c30 : Nat) (s34 : ByteArray) (h36 : Heap) (Q : Bool → Heap → Prop) : Prop :=
 ((IntKind.wrap .i64 (Int.tmod (IntKind.wrap .u64 (i6)) (4)) : Int) > (1) →
 C_disk_Disk_Append B p14 (0) s34 h36 (fun i77 h76 =>
 ((IntKind.wrap .i64 (Int.tmod (IntKind.wrap .u64 (i6)) (4)) : Int) = 2 →
 C_disk_Disk_Crash B p14 (0) (i7) h76 (fun h79 =>
 C_disk_Disk_Sync B p14 h79 (fun h80 =>
 Fin B h80 (fun h' => S_countermandlaw05_VaultSettles_J4 B s1 s5 i6 i7 p14 a28 n29 c30 h' Q)))) ∧ (¬ ((IntKind.wrap .i64 (Int.tmod (IntKind.wrap .u64 (i6)) (4)) : Int) = 2) →
 C_disk_Disk_Sync B p14 h76 (fun h81 =>
 Fin B h81 (fun h' => S_countermandlaw05_VaultSettles_J4 B s1 s5 i6 i7 p14 a28 n29 c30 h' Q))))) ∧ (¬ ((IntKind.wrap .i64 (Int.tmod (IntKind.wrap .u64 (i6)) (4)) : Int) > (1)) →
 Fin B h36 (fun h' => S_countermandlaw05_VaultSettles_J4 B s1 s5 i6 i7 p14 a28 n29 c30 h' Q))
def S_countermandlaw05_VaultSettles_J2 (B : RO) (s1 : ByteArray) (s5 : ByteArray) (i6 : Int) (i7 : Int) (p14 : Option Addr) (p16 : Option Addr) (a28 : Option Addr) (n29 : Nat) (c30 : Nat) (h31 : Heap) (Q : Bool → Heap → Prop) : Prop :=
 C_vault_Vault_Force B p16 h31 (fun h32 =>
 C_countermandref05_Image B (2) s5 h32 (fun s34 h33 =>
 ¬ ((4 : Int) = 0) ∧
 ((IntKind.wrap .i64 (Int.tmod (IntKind.wrap .u64 (i6)) (4)) : Int) > (0) →
 C_disk_Disk_Reset B p14 (0) h33 (fun i84 h83 =>
 C_disk_Disk_Sync B p14 h83 (fun h85 =>
 Fin B h85 (fun h' => S_countermandlaw05_VaultSettles_J3 B s1 s5 i6 i7 p14 a28 n29 c30 s34 h' Q)))) ∧ (¬ ((IntKind.wrap .i64 (Int.tmod (IntKind.wrap .u64 (i6)) (4)) : Int) > (0)) →
 Fin B h33 (fun h' => S_countermandlaw05_VaultSettles_J3 B s1 s5 i6 i7 p14 a28 n29 c30 s34 h' Q))))
def S_countermandlaw05_VaultSettles_J1 (B : RO) (s1 : ByteArray) (a2 : Option Addr) (n3 : Nat) (c4 : Nat) (s5 : ByteArray) (i6 : Int) (i7 : Int) (h12 : Heap) (Q : Bool → Heap → Prop) : Prop :=
 C_disk_New B h12 (fun p14 h13 =>
 C_vault_Open B p14 h13 (fun p16 s17 a18 n19 c20 i21 h15 =>
 ∀ k22 : Nat, h15 k22 = none → B k22 = none → ∀ h23 : Heap, h23 = Heap.set h15 k22 (.vec 51 (plains [(Value.string ByteArray.empty), (Value.slice none 0 0)]) 2) →
 ∃ h24 : Heap, StoresAt ⟨k22, 0, none⟩ h23 0 [(Value.string s17), (Value.slice a18 n19 c20)] h24 ∧
 C_vault_Vault_Settle B p16 s1 h24 (fun i26 h25 =>
 ∃ (J94 : Option Addr → Nat → Nat → Int → Nat → Heap → Prop) (m92 : Nat), Fin B h25 (J94 none 0 0 (0) m92) ∧
 ∀ (a86 : Option Addr) (n87 : Nat) (c88 : Nat) (i89 : Int) (m91 : Nat) (h90 : Heap), J94 a86 n87 c88 i89 m91 h90 →
 ((i89 : Int) < ((n3 : Nat)) →
 ∃ A96 : Addr, a2 = some A96 ∧ 0 ≤ (i89 : Int) ∧ (i89 : Int) < (n3 : Nat) ∧
 ∃ s98 : ByteArray, cellH B h90 (Addr.add A96 (Int.toNat (i89) * 1)) = some (Value.string s98) ∧
 C_vault_Vault_Append B p16 s98 h90 (fun i100 h99 =>
 ((i100 : Int) = 0 →
 ∀ k102 : Nat, h99 k102 = none → B k102 = none → ∀ h103 : Heap, h103 = Heap.set h99 k102 (.vec 9 (plains [(Value.string s98)]) 1) →
 semH PG B (Builtin.append_ #[45, 45] 45 #[(Value.slice a86 n87 c88), (Value.slice (some ⟨k102, 0, none⟩) 1 1)]) h103 (fun v h104 => ∃ a105 : Option Addr, ∃ n106 : Nat, ∃ c107 : Nat, v = (Value.slice a105 n106 c107) ∧
 Fin B h104 (fun h' => ∃ m', m' < m91 ∧ J94 a105 n106 c107 (IntKind.wrap .i64 ((i89) + (1))) m' h'))) ∧ (¬ ((i100 : Int) = 0) →
 Fin B h99 (fun h' => ∃ m', m' < m91 ∧ J94 a86 n87 c88 (IntKind.wrap .i64 ((i89) + (1))) m' h')))) ∧ (¬ ((i89 : Int) < ((n3 : Nat))) →
 Fin B h90 (fun h' => S_countermandlaw05_VaultSettles_J2 B s1 s5 i6 i7 p14 p16 a86 n87 c88 h' Q)))))
def S_countermandlaw05_VaultSettles (B : RO) (s1 : ByteArray) (a2 : Option Addr) (n3 : Nat) (c4 : Nat) (s5 : ByteArray) (i6 : Int) (i7 : Int) (h : Heap) (Q : Bool → Heap → Prop) : Prop :=
 C_countermandlaw05_alive B h (fun b10 h9 =>
 (b10 = true →
 C_countermandlaw05_great B a2 n3 c4 h9 (fun b109 h108 =>
 (b109 = true →
 Fin B h108 (Q (true))) ∧ (b109 = false →
 (((ByteArray.size s1 : Nat) : Int) > (900) →
 Fin B h108 (Q (true))) ∧ (¬ (((ByteArray.size s1 : Nat) : Int) > (900)) →
 (((ByteArray.size s5 : Nat) : Int) > (900) →
 Fin B h108 (Q (true))) ∧ (¬ (((ByteArray.size s5 : Nat) : Int) > (900)) →
 Fin B h108 (fun h' => S_countermandlaw05_VaultSettles_J1 B s1 a2 n3 c4 s5 i6 i7 h' Q)))))) ∧ (b10 = false →
 Fin B h9 (Q (false))))
def S_countermandlaw05_VaultOpens (B : RO) (s1 : ByteArray) (s2 : ByteArray) (h : Heap) (Q : Bool → Heap → Prop) : Prop :=
 C_countermandlaw05_alive B h (fun b5 h4 =>
 (b5 = true →
 ∀ k6 : Nat, h4 k6 = none → B k6 = none → ∀ h7 : Heap, h7 = Heap.set h4 k6 (.vec 9 (plains [(Value.string s1), (Value.string s2)]) 2) →
 C_countermandlaw05_great B (some ⟨k6, 0, none⟩) 2 2 h7 (fun b9 h8 =>
 (b9 = true →
 Fin B h8 (Q (true))) ∧ (b9 = false →
 C_disk_New B h8 (fun p11 h10 =>
 C_disk_Disk_Append B p11 (0) s1 h10 (fun i13 h12 =>
 C_disk_Disk_Append B p11 (1) s2 h12 (fun i15 h14 =>
 C_vault_Open B p11 h14 (fun p17 s18 a19 n20 c21 i22 h16 =>
 ∀ k23 : Nat, h16 k23 = none → B k23 = none → ∀ h24 : Heap, h24 = Heap.set h16 k23 (.vec 51 (plains [(Value.string ByteArray.empty), (Value.slice none 0 0)]) 2) →
 ∃ h25 : Heap, StoresAt ⟨k23, 0, none⟩ h24 0 [(Value.string s18), (Value.slice a19 n20 c21)] h25 ∧
 C_countermandref05_Found B s1 s2 h25 (fun i27 s28 a29 n30 c31 h26 =>
 ((i22 : Int) = 0 →
 C_vault_Vault_Epoch B p17 h26 (fun i34 h33 =>
 ((i34 : Int) = i27 →
 ∃ s36 : ByteArray, cellH B h33 ⟨k23, 0, none⟩ = some (Value.string s36) ∧
 (s36 = s28 →
 LdSl B h33 ⟨k23, 1, none⟩ fun a38 n39 c40 h41 =>
 C_countermandref05_Same B a38 n39 c40 a29 n30 c31 h41 (fun b43 h42 =>
 (b43 = true →
 C_vault_Vault_Append B p17 (ByteArray.mk #[120]) h42 (fun i45 h44 =>
 Fin B h44 (Q (((i45 : Int) == (9)))))) ∧ (b43 = false →
 Fin B h42 (Q (false))))) ∧ (¬ (s36 = s28) →
 Fin B h33 (Q (false)))) ∧ (¬ ((i34 : Int) = i27) →
 Fin B h33 (Q (false))))) ∧ (¬ ((i22 : Int) = 0) →
 Fin B h26 (Q (false))))))))))) ∧ (b5 = false →
 Fin B h4 (Q (false))))
def S_countermandlaw05_VaultEpochs_J2 (B : RO) (a1 : Option Addr) (n2 : Nat) (c3 : Nat) (s4 : ByteArray) (p11 : Option Addr) (p13 : Option Addr) (i22 : Int) (m24 : Nat) (J27 : Int → Nat → Heap → Prop) (s31 : ByteArray) (h34 : Heap) (Q : Bool → Heap → Prop) : Prop :=
 C_vault_Open B p11 h34 (fun p36 s37 a38 n39 c40 i41 h35 =>
 ∀ k42 : Nat, h35 k42 = none → B k42 = none → ∀ h43 : Heap, h43 = Heap.set h35 k42 (.vec 51 (plains [(Value.string ByteArray.empty), (Value.slice none 0 0)]) 2) →
 ∃ h44 : Heap, StoresAt ⟨k42, 0, none⟩ h43 0 [(Value.string s37), (Value.slice a38 n39 c40)] h44 ∧
 ∃ s45 : ByteArray, cellH B h44 ⟨k42, 0, none⟩ = some (Value.string s45) ∧
 (s45 = s31 →
 LdSl B h44 ⟨k42, 1, none⟩ fun a47 n48 c49 h50 =>
 (((n48 : Nat) : Int) = 1 →
 LdSl B h50 ⟨k42, 1, none⟩ fun a52 n53 c54 h55 =>
 ∃ A56 : Addr, a52 = some A56 ∧ 0 ≤ (0 : Int) ∧ (0 : Int) < (n53 : Nat) ∧
 ∃ s58 : ByteArray, cellH B h55 (Addr.add A56 (Int.toNat (0) * 1)) = some (Value.string s58) ∧
 (s58 = s4 →
 ¬ ((2 : Int) = 0) ∧
 C_disk_Disk_Read B p11 (Int.tmod (i22) (2)) h55 (fun s61 h60 =>
 (s61 = (ByteArray.mk #[]) →
 Fin B h60 (fun h' => ∃ m', m' < m24 ∧ J27 (IntKind.wrap .i64 ((i22) + (1))) m' h')) ∧ (¬ (s61 = (ByteArray.mk #[])) →
 Fin B h60 (Q (false))))) ∧ (¬ (s58 = s4) →
 Fin B h55 (Q (false)))) ∧ (¬ (((n48 : Nat) : Int) = 1) →
 Fin B h50 (Q (false)))) ∧ (¬ (s45 = s31) →
 Fin B h44 (Q (false))))
def S_countermandlaw05_VaultEpochs_J1 (B : RO) (a1 : Option Addr) (n2 : Nat) (c3 : Nat) (s4 : ByteArray) (h9 : Heap) (Q : Bool → Heap → Prop) : Prop :=
 C_disk_New B h9 (fun p11 h10 =>
 C_vault_Open B p11 h10 (fun p13 s14 a15 n16 c17 i18 h12 =>
 ∀ k19 : Nat, h12 k19 = none → B k19 = none → ∀ h20 : Heap, h20 = Heap.set h12 k19 (.vec 51 (plains [(Value.string ByteArray.empty), (Value.slice none 0 0)]) 2) →
 ∃ h21 : Heap, StoresAt ⟨k19, 0, none⟩ h20 0 [(Value.string s14), (Value.slice a15 n16 c17)] h21 ∧
 ∃ (J27 : Int → Nat → Heap → Prop) (m25 : Nat), Fin B h21 (J27 (0) m25) ∧
 ∀ (i22 : Int) (m24 : Nat) (h23 : Heap), J27 i22 m24 h23 →
 ((i22 : Int) < ((n2 : Nat)) →
 ∃ A29 : Addr, a1 = some A29 ∧ 0 ≤ (i22 : Int) ∧ (i22 : Int) < (n2 : Nat) ∧
 ∃ s31 : ByteArray, cellH B h23 (Addr.add A29 (Int.toNat (i22) * 1)) = some (Value.string s31) ∧
 (((ByteArray.size s31 : Nat) : Int) > (900) →
 Fin B h23 (Q (true))) ∧ (¬ (((ByteArray.size s31 : Nat) : Int) > (900)) →
 C_vault_Vault_Settle B p13 s31 h23 (fun i64 h63 =>
 ((i64 : Int) = 0 →
 C_vault_Vault_Epoch B p13 h63 (fun i67 h66 =>
 ((i67 : Int) = IntKind.wrap .i64 ((i22) + (1)) →
 C_vault_Vault_Append B p13 s4 h66 (fun i70 h69 =>
 ((i70 : Int) = 0 →
 Fin B h69 (fun h' => S_countermandlaw05_VaultEpochs_J2 B a1 n2 c3 s4 p11 p13 i22 m24 J27 s31 h' Q)) ∧ (¬ ((i70 : Int) = 0) →
 Fin B h69 (Q (false))))) ∧ (¬ ((i67 : Int) = IntKind.wrap .i64 ((i22) + (1))) →
 Fin B h66 (Q (false))))) ∧ (¬ ((i64 : Int) = 0) →
 Fin B h63 (Q (false)))))) ∧ (¬ ((i22 : Int) < ((n2 : Nat))) →
 Fin B h23 (Q (true)))))
def S_countermandlaw05_VaultEpochs (B : RO) (a1 : Option Addr) (n2 : Nat) (c3 : Nat) (s4 : ByteArray) (h : Heap) (Q : Bool → Heap → Prop) : Prop :=
 C_countermandlaw05_alive B h (fun b7 h6 =>
 (b7 = true →
 (((n2 : Nat) : Int) > (40) →
 Fin B h6 (Q (true))) ∧ (¬ (((n2 : Nat) : Int) > (40)) →
 (((ByteArray.size s4 : Nat) : Int) > (900) →
 Fin B h6 (Q (true))) ∧ (¬ (((ByteArray.size s4 : Nat) : Int) > (900)) →
 Fin B h6 (fun h' => S_countermandlaw05_VaultEpochs_J1 B a1 n2 c3 s4 h' Q)))) ∧ (b7 = false →
 Fin B h6 (Q (false))))
def S_countermandlaw05_VaultFull_J2 (B : RO) (s2 : ByteArray) (i3 : Int) (p10 : Option Addr) (s12 : ByteArray) (p17 : Option Addr) (h27 : Heap) (Q : Bool → Heap → Prop) : Prop :=
 C_vault_Vault_Settle B p17 s2 h27 (fun i29 h28 =>
 ((i3 : Int) = 0 →
 ((i29 : Int) = 6 →
 C_disk_Disk_Read B p10 (0) h28 (fun s33 h32 =>
 (s33 = s12 →
 C_disk_Disk_Read B p10 (1) h32 (fun s36 h35 =>
 (s36 = (ByteArray.mk #[]) →
 C_disk_Disk_Waits B p10 h35 (fun i39 h38 =>
 ((i39 : Int) = 0 →
 C_vault_Vault_Append B p17 s2 h38 (fun i42 h41 =>
 Fin B h41 (Q (((i42 : Int) == (9)))))) ∧ (¬ ((i39 : Int) = 0) →
 Fin B h38 (Q (false))))) ∧ (¬ (s36 = (ByteArray.mk #[])) →
 Fin B h35 (Q (false))))) ∧ (¬ (s33 = s12) →
 Fin B h32 (Q (false))))) ∧ (¬ ((i29 : Int) = 6) →
 Fin B h28 (Q (false)))) ∧ (¬ ((i3 : Int) = 0) →
 C_vault_Open B p10 h28 (fun p44 s45 a46 n47 c48 i49 h43 =>
 ∀ k50 : Nat, h43 k50 = none → B k50 = none → ∀ h51 : Heap, h51 = Heap.set h43 k50 (.vec 51 (plains [(Value.string ByteArray.empty), (Value.slice none 0 0)]) 2) →
 ∃ h52 : Heap, StoresAt ⟨k50, 0, none⟩ h51 0 [(Value.string s45), (Value.slice a46 n47 c48)] h52 ∧
 ((i29 : Int) = 0 →
 C_vault_Vault_Epoch B p17 h52 (fun i55 h54 =>
 ((i55 : Int) = IntKind.wrap .i64 ((IntKind.wrap .i64 ((1099511627776) - (i3))) + (1)) →
 ∃ s57 : ByteArray, cellH B h54 ⟨k50, 0, none⟩ = some (Value.string s57) ∧
 (s57 = s2 →
 C_disk_Disk_Read B p10 (0) h54 (fun s60 h59 =>
 Fin B h59 (Q ((decide (s60 = (ByteArray.mk #[]))))))) ∧ (¬ (s57 = s2) →
 Fin B h54 (Q (false)))) ∧ (¬ ((i55 : Int) = IntKind.wrap .i64 ((IntKind.wrap .i64 ((1099511627776) - (i3))) + (1))) →
 Fin B h54 (Q (false))))) ∧ (¬ ((i29 : Int) = 0) →
 Fin B h52 (Q (false))))))
def S_countermandlaw05_VaultFull_J1 (B : RO) (s1 : ByteArray) (s2 : ByteArray) (i3 : Int) (h8 : Heap) (Q : Bool → Heap → Prop) : Prop :=
 C_disk_New B h8 (fun p10 h9 =>
 C_countermandref05_Image B (IntKind.wrap .i64 ((1099511627776) - (i3))) s1 h9 (fun s12 h11 =>
 C_disk_Disk_Append B p10 (0) s12 h11 (fun i14 h13 =>
 C_disk_Disk_Sync B p10 h13 (fun h15 =>
 C_vault_Open B p10 h15 (fun p17 s18 a19 n20 c21 i22 h16 =>
 ∀ k23 : Nat, h16 k23 = none → B k23 = none → ∀ h24 : Heap, h24 = Heap.set h16 k23 (.vec 51 (plains [(Value.string ByteArray.empty), (Value.slice none 0 0)]) 2) →
 ∃ h25 : Heap, StoresAt ⟨k23, 0, none⟩ h24 0 [(Value.string s18), (Value.slice a19 n20 c21)] h25 ∧
 ((i22 : Int) = 0 →
 ∃ s62 : ByteArray, cellH B h25 ⟨k23, 0, none⟩ = some (Value.string s62) ∧
 (s62 = s1 →
 C_vault_Vault_Epoch B p17 h25 (fun i65 h64 =>
 ((i65 : Int) = IntKind.wrap .i64 ((1099511627776) - (i3)) →
 Fin B h64 (fun h' => S_countermandlaw05_VaultFull_J2 B s2 i3 p10 s12 p17 h' Q)) ∧ (¬ ((i65 : Int) = IntKind.wrap .i64 ((1099511627776) - (i3))) →
 Fin B h64 (Q (false))))) ∧ (¬ (s62 = s1) →
 Fin B h25 (Q (false)))) ∧ (¬ ((i22 : Int) = 0) →
 Fin B h25 (Q (false))))))))
def S_countermandlaw05_VaultFull (B : RO) (s1 : ByteArray) (s2 : ByteArray) (i3 : Int) (h : Heap) (Q : Bool → Heap → Prop) : Prop :=
 C_countermandlaw05_alive B h (fun b6 h5 =>
 (b6 = true →
 (((ByteArray.size s1 : Nat) : Int) > (900) →
 Fin B h5 (Q (true))) ∧ (¬ (((ByteArray.size s1 : Nat) : Int) > (900)) →
 (((ByteArray.size s2 : Nat) : Int) > (900) →
 Fin B h5 (Q (true))) ∧ (¬ (((ByteArray.size s2 : Nat) : Int) > (900)) →
 ((i3 : Int) < (0) →
 Fin B h5 (Q (true))) ∧ (¬ ((i3 : Int) < (0)) →
 ((i3 : Int) > (3) →
 Fin B h5 (Q (true))) ∧ (¬ ((i3 : Int) > (3)) →
 Fin B h5 (fun h' => S_countermandlaw05_VaultFull_J1 B s1 s2 i3 h' Q)))))) ∧ (b6 = false →
 Fin B h5 (Q (false))))
def S_countermandlaw05_VaultNil (B : RO) (s1 : ByteArray) (h : Heap) (Q : Bool → Heap → Prop) : Prop :=
 C_countermandlaw05_alive B h (fun b4 h3 =>
 (b4 = true →
 C_vault_Open B none h3 (fun p6 s7 a8 n9 c10 i11 h5 =>
 ∀ k12 : Nat, h5 k12 = none → B k12 = none → ∀ h13 : Heap, h13 = Heap.set h5 k12 (.vec 51 (plains [(Value.string ByteArray.empty), (Value.slice none 0 0)]) 2) →
 ∃ h14 : Heap, StoresAt ⟨k12, 0, none⟩ h13 0 [(Value.string s7), (Value.slice a8 n9 c10)] h14 ∧
 C_vault_Vault_Force B p6 h14 (fun h15 =>
 (p6 = none →
 ∃ s17 : ByteArray, cellH B h15 ⟨k12, 0, none⟩ = some (Value.string s17) ∧
 (s17 = (ByteArray.mk #[]) →
 LdSl B h15 ⟨k12, 1, none⟩ fun a19 n20 c21 h22 =>
 (((n20 : Nat) : Int) = 0 →
 ((i11 : Int) = 2 →
 C_vault_Vault_Settle B p6 s1 h22 (fun i26 h25 =>
 ((i26 : Int) = 2 →
 C_vault_Vault_Append B p6 s1 h25 (fun i29 h28 =>
 ((i29 : Int) = 2 →
 C_vault_Vault_Size B p6 h28 (fun i32 h31 =>
 C_vault_Vault_Epoch B p6 h31 (fun i34 h33 =>
 Fin B h33 (Q (((IntKind.wrap .i64 ((i32) + (i34)) : Int) == (0))))))) ∧ (¬ ((i29 : Int) = 2) →
 Fin B h28 (Q (false))))) ∧ (¬ ((i26 : Int) = 2) →
 Fin B h25 (Q (false))))) ∧ (¬ ((i11 : Int) = 2) →
 Fin B h22 (Q (false)))) ∧ (¬ (((n20 : Nat) : Int) = 0) →
 Fin B h22 (Q (false)))) ∧ (¬ (s17 = (ByteArray.mk #[])) →
 Fin B h15 (Q (false)))) ∧ (¬ (p6 = none) →
 Fin B h15 (Q (false)))))) ∧ (b4 = false →
 Fin B h3 (Q (false))))
def S_countermandlaw05_VaultTwice (B : RO) (s1 : ByteArray) (s2 : ByteArray) (h : Heap) (Q : Bool → Heap → Prop) : Prop :=
 C_countermandlaw05_alive B h (fun b5 h4 =>
 (b5 = true →
 ∀ k6 : Nat, h4 k6 = none → B k6 = none → ∀ h7 : Heap, h7 = Heap.set h4 k6 (.vec 9 (plains [(Value.string s1), (Value.string s2)]) 2) →
 C_countermandlaw05_great B (some ⟨k6, 0, none⟩) 2 2 h7 (fun b9 h8 =>
 (b9 = true →
 Fin B h8 (Q (true))) ∧ (b9 = false →
 C_disk_New B h8 (fun p11 h10 =>
 C_disk_Disk_Append B p11 (0) s1 h10 (fun i13 h12 =>
 C_disk_Disk_Append B p11 (1) s2 h12 (fun i15 h14 =>
 C_vault_Open B p11 h14 (fun p17 s18 a19 n20 c21 i22 h16 =>
 ∀ k23 : Nat, h16 k23 = none → B k23 = none → ∀ h24 : Heap, h24 = Heap.set h16 k23 (.vec 51 (plains [(Value.string ByteArray.empty), (Value.slice none 0 0)]) 2) →
 ∃ h25 : Heap, StoresAt ⟨k23, 0, none⟩ h24 0 [(Value.string s18), (Value.slice a19 n20 c21)] h25 ∧
 C_vault_Open B p11 h25 (fun p27 s28 a29 n30 c31 i32 h26 =>
 ∀ k33 : Nat, h26 k33 = none → B k33 = none → ∀ h34 : Heap, h34 = Heap.set h26 k33 (.vec 51 (plains [(Value.string ByteArray.empty), (Value.slice none 0 0)]) 2) →
 ∃ h35 : Heap, StoresAt ⟨k33, 0, none⟩ h34 0 [(Value.string s28), (Value.slice a29 n30 c31)] h35 ∧
 ((i32 : Int) = 0 →
 C_vault_Vault_Epoch B p17 h35 (fun i38 h37 =>
 C_vault_Vault_Epoch B p27 h37 (fun i40 h39 =>
 ((i38 : Int) = i40 →
 C_vault_Vault_Size B p17 h39 (fun i43 h42 =>
 C_vault_Vault_Size B p27 h42 (fun i45 h44 =>
 ((i43 : Int) = i45 →
 ∃ s47 : ByteArray, cellH B h44 ⟨k23, 0, none⟩ = some (Value.string s47) ∧
 ∃ s48 : ByteArray, cellH B h44 ⟨k33, 0, none⟩ = some (Value.string s48) ∧
 (s47 = s48 →
 LdSl B h44 ⟨k23, 1, none⟩ fun a50 n51 c52 h53 =>
 LdSl B h53 ⟨k33, 1, none⟩ fun a54 n55 c56 h57 =>
 C_countermandref05_Same B a50 n51 c52 a54 n55 c56 h57 (fun b59 h58 =>
 (b59 = true →
 C_disk_Disk_Read B p11 (0) h58 (fun s61 h60 =>
 (s61 = s1 →
 C_disk_Disk_Read B p11 (1) h60 (fun s64 h63 =>
 Fin B h63 (Q ((decide (s64 = s2)))))) ∧ (¬ (s61 = s1) →
 Fin B h60 (Q (false))))) ∧ (b59 = false →
 Fin B h58 (Q (false))))) ∧ (¬ (s47 = s48) →
 Fin B h44 (Q (false)))) ∧ (¬ ((i43 : Int) = i45) →
 Fin B h44 (Q (false)))))) ∧ (¬ ((i38 : Int) = i40) →
 Fin B h39 (Q (false)))))) ∧ (¬ ((i32 : Int) = 0) →
 Fin B h35 (Q (false))))))))))) ∧ (b5 = false →
 Fin B h4 (Q (false))))
def S_countermandlaw05_alive_J1 (B : RO) (p3 : Option Addr) (p5 : Option Addr) (h15 : Heap) (Q : Bool → Heap → Prop) : Prop :=
 C_vault_Vault_Force B p5 h15 (fun h16 =>
 C_disk_Disk_Crash B p3 (0) (0) h16 (fun h17 =>
 C_vault_Open B p3 h17 (fun p19 s20 a21 n22 c23 i24 h18 =>
 ∀ k25 : Nat, h18 k25 = none → B k25 = none → ∀ h26 : Heap, h26 = Heap.set h18 k25 (.vec 51 (plains [(Value.string ByteArray.empty), (Value.slice none 0 0)]) 2) →
 ∃ h27 : Heap, StoresAt ⟨k25, 0, none⟩ h26 0 [(Value.string s20), (Value.slice a21 n22 c23)] h27 ∧
 ((i24 : Int) = 0 →
 ∃ s29 : ByteArray, cellH B h27 ⟨k25, 0, none⟩ = some (Value.string s29) ∧
 (s29 = (ByteArray.mk #[105]) →
 LdSl B h27 ⟨k25, 1, none⟩ fun a31 n32 c33 h34 =>
 (((n32 : Nat) : Int) = 1 →
 LdSl B h34 ⟨k25, 1, none⟩ fun a36 n37 c38 h39 =>
 ∃ A40 : Addr, a36 = some A40 ∧ 0 ≤ (0 : Int) ∧ (0 : Int) < (n37 : Nat) ∧
 ∃ s42 : ByteArray, cellH B h39 (Addr.add A40 (Int.toNat (0) * 1)) = some (Value.string s42) ∧
 Fin B h39 (Q ((decide (s42 = (ByteArray.mk #[97])))))) ∧ (¬ (((n32 : Nat) : Int) = 1) →
 Fin B h34 (Q (false)))) ∧ (¬ (s29 = (ByteArray.mk #[105])) →
 Fin B h27 (Q (false)))) ∧ (¬ ((i24 : Int) = 0) →
 Fin B h27 (Q (false))))))
def S_countermandlaw05_alive (B : RO) (h : Heap) (Q : Bool → Heap → Prop) : Prop :=
 C_disk_New B h (fun p3 h2 =>
 C_vault_Open B p3 h2 (fun p5 s6 a7 n8 c9 i10 h4 =>
 ∀ k11 : Nat, h4 k11 = none → B k11 = none → ∀ h12 : Heap, h12 = Heap.set h4 k11 (.vec 51 (plains [(Value.string ByteArray.empty), (Value.slice none 0 0)]) 2) →
 ∃ h13 : Heap, StoresAt ⟨k11, 0, none⟩ h12 0 [(Value.string s6), (Value.slice a7 n8 c9)] h13 ∧
 ((i10 : Int) = 0 →
 C_vault_Vault_Settle B p5 (ByteArray.mk #[105]) h13 (fun i45 h44 =>
 ((i45 : Int) = 0 →
 C_vault_Vault_Append B p5 (ByteArray.mk #[97]) h44 (fun i48 h47 =>
 ((i48 : Int) = 0 →
 Fin B h47 (fun h' => S_countermandlaw05_alive_J1 B p3 p5 h' Q)) ∧ (¬ ((i48 : Int) = 0) →
 Fin B h47 (Q (false))))) ∧ (¬ ((i45 : Int) = 0) →
 Fin B h44 (Q (false))))) ∧ (¬ ((i10 : Int) = 0) →
 Fin B h13 (Q (false)))))
def S_countermandlaw05_great (B : RO) (a1 : Option Addr) (n2 : Nat) (c3 : Nat) (h : Heap) (Q : Bool → Heap → Prop) : Prop :=
 (((n2 : Nat) : Int) > (40) →
 Fin B h (Q (true))) ∧ (¬ (((n2 : Nat) : Int) > (40)) →
 ∃ (J12 : Int → Int → Nat → Heap → Prop) (m10 : Nat), Fin B h (J12 (0) (0) m10) ∧
 ∀ (i6 : Int) (i7 : Int) (m9 : Nat) (h8 : Heap), J12 i6 i7 m9 h8 →
 ((i7 : Int) < ((n2 : Nat)) →
 ∃ A14 : Addr, a1 = some A14 ∧ 0 ≤ (i7 : Int) ∧ (i7 : Int) < (n2 : Nat) ∧
 ∃ s16 : ByteArray, cellH B h8 (Addr.add A14 (Int.toNat (i7) * 1)) = some (Value.string s16) ∧
 (((ByteArray.size s16 : Nat) : Int) > (4096) →
 Fin B h8 (Q (true))) ∧ (¬ (((ByteArray.size s16 : Nat) : Int) > (4096)) →
 ((IntKind.wrap .i64 ((i6) + ((ByteArray.size s16 : Nat))) : Int) > (4096) →
 Fin B h8 (Q (true))) ∧ (¬ ((IntKind.wrap .i64 ((i6) + ((ByteArray.size s16 : Nat))) : Int) > (4096)) →
 Fin B h8 (fun h' => ∃ m', m' < m9 ∧ J12 (IntKind.wrap .i64 ((i6) + ((ByteArray.size s16 : Nat)))) (IntKind.wrap .i64 ((i7) + (1))) m' h')))) ∧ (¬ ((i7 : Int) < ((n2 : Nat))) →
 Fin B h8 (Q (false))))
def S_disk_New (B : RO) (h : Heap) (Q : Option Addr → Heap → Prop) : Prop :=
 ∀ k2 : Nat, h k2 = none → B k2 = none → ∀ h3 : Heap, h3 = Heap.set h k2 (.vec 135 (plains [(Value.string ByteArray.empty), (Value.string ByteArray.empty), (Value.string ByteArray.empty), (Value.string ByteArray.empty), (Value.slice none 0 0)]) 5) →
 Fin B h3 (Q (some ⟨k2, 0, none⟩))
def S_vault_Open_J1 (B : RO) (p1 : Option Addr) (k8 : Nat) (k16 : Nat) (k18 : Nat) (i20 : Int) (m22 : Nat) (J25 : Int → Nat → Heap → Prop) (p28 : Option Addr) (i31 : Int) (k36 : Nat) (b40 : Bool) (h41 : Heap) (Q : Option Addr → ByteArray → Option Addr → Nat → Nat → Int → Heap → Prop) : Prop :=
 (b40 = true →
 ∃ s46 : ByteArray, ∃ a47 : Option Addr, ∃ n48 : Nat, ∃ c49 : Nat, CellsAt B h41 ⟨k36, 0, none⟩ 0 [(Value.string s46), (Value.slice a47 n48 c49)] ∧
 ∃ h53 : Heap, storeH h41 ⟨k16, 1, none⟩ (Value.pointer p28) = some h53 ∧
 CellsAt B h53 ⟨k36, 0, none⟩ 0 [(Value.string s46), (Value.slice a47 n48 c49)] ∧
 ∃ h55 : Heap, storeH h53 ⟨k16, 2, none⟩ (Value.int .i64 (i31)) = some h55 ∧
 CellsAt B h55 ⟨k36, 0, none⟩ 0 [(Value.string s46), (Value.slice a47 n48 c49)] ∧
 ∃ h57 : Heap, StoresAt ⟨k18, 0, none⟩ h55 0 [(Value.string s46), (Value.slice a47 n48 c49)] h57 ∧
 Fin B h57 (fun h' => ∃ m', m' < m22 ∧ J25 (IntKind.wrap .i64 ((i20) + (1))) m' h')) ∧ (b40 = false →
 Fin B h41 (fun h' => ∃ m', m' < m22 ∧ J25 (IntKind.wrap .i64 ((i20) + (1))) m' h'))
def S_vault_Open (B : RO) (p1 : Option Addr) (h : Heap) (Q : Option Addr → ByteArray → Option Addr → Nat → Nat → Int → Heap → Prop) : Prop :=
 ∀ k8 : Nat, h k8 = none → B k8 = none → ∀ h9 : Heap, h9 = Heap.set h k8 (.vec 51 (plains [(Value.string ByteArray.empty), (Value.slice none 0 0)]) 2) →
 (p1 = none →
 ∃ h11 : Heap, StoresAt ⟨k8, 0, none⟩ h9 0 [(Value.string ByteArray.empty), (Value.slice none 0 0)] h11 ∧
 ∃ s12 : ByteArray, ∃ a13 : Option Addr, ∃ n14 : Nat, ∃ c15 : Nat, CellsAt B h11 ⟨k8, 0, none⟩ 0 [(Value.string s12), (Value.slice a13 n14 c15)] ∧ Fin B h11 (Q none s12 a13 n14 c15 (2))) ∧ (¬ (p1 = none) →
 ∀ k16 : Nat, h9 k16 = none → B k16 = none → ∀ h17 : Heap, h17 = Heap.set h9 k16 (.vec 138 (plains [(Value.pointer p1), (Value.pointer none), (Value.int .i64 (0)), (Value.bool false)]) 4) →
 ∀ k18 : Nat, h17 k18 = none → B k18 = none → ∀ h19 : Heap, h19 = Heap.set h17 k18 (.vec 51 (plains [(Value.string ByteArray.empty), (Value.slice none 0 0)]) 2) →
 ∃ (J25 : Int → Nat → Heap → Prop) (m23 : Nat), Fin B h19 (J25 (0) m23) ∧
 ∀ (i20 : Int) (m22 : Nat) (h21 : Heap), J25 i20 m22 h21 →
 ((i20 : Int) < (2) →
 C_wal_Open B p1 (i20) h21 (fun p28 i29 h27 =>
 C_vault_look B p28 h27 (fun i31 s32 a33 n34 c35 h30 =>
 ∀ k36 : Nat, h30 k36 = none → B k36 = none → ∀ h37 : Heap, h37 = Heap.set h30 k36 (.vec 51 (plains [(Value.string ByteArray.empty), (Value.slice none 0 0)]) 2) →
 ∃ h38 : Heap, StoresAt ⟨k36, 0, none⟩ h37 0 [(Value.string s32), (Value.slice a33 n34 c35)] h38 ∧
 ∃ p58 : Option Addr, cellH B h38 ⟨k16, 1, none⟩ = some (Value.pointer p58) ∧
 (p58 = none →
 Fin B h38 (fun h' => S_vault_Open_J1 B p1 k8 k16 k18 i20 m22 J25 p28 i31 k36 (true) h' Q)) ∧ (¬ (p58 = none) →
 ∃ i60 : Int, cellH B h38 ⟨k16, 2, none⟩ = some (Value.int .i64 (i60)) ∧
 ((i31 : Int) > (i60) →
 Fin B h38 (fun h' => S_vault_Open_J1 B p1 k8 k16 k18 i20 m22 J25 p28 i31 k36 (true) h' Q)) ∧ (¬ ((i31 : Int) > (i60)) →
 Fin B h38 (fun h' => S_vault_Open_J1 B p1 k8 k16 k18 i20 m22 J25 p28 i31 k36 (false) h' Q)))))) ∧ (¬ ((i20 : Int) < (2)) →
 ∃ s63 : ByteArray, ∃ a64 : Option Addr, ∃ n65 : Nat, ∃ c66 : Nat, CellsAt B h21 ⟨k18, 0, none⟩ 0 [(Value.string s63), (Value.slice a64 n65 c66)] ∧
 ∃ h69 : Heap, StoresAt ⟨k8, 0, none⟩ h21 0 [(Value.string s63), (Value.slice a64 n65 c66)] h69 ∧
 CellsAt B h69 ⟨k18, 0, none⟩ 0 [(Value.string s63), (Value.slice a64 n65 c66)] ∧
 ∃ s71 : ByteArray, ∃ a72 : Option Addr, ∃ n73 : Nat, ∃ c74 : Nat, CellsAt B h69 ⟨k8, 0, none⟩ 0 [(Value.string s71), (Value.slice a72 n73 c74)] ∧ Fin B h69 (Q (some ⟨k16, 0, none⟩) s71 a72 n73 c74 (0))))
def S_vault_Vault_Settle_J1 (B : RO) (p1 : Option Addr) (s2 : ByteArray) (h5 : Heap) (Q : Int → Heap → Prop) : Prop :=
 ∀ k6 : Nat, h5 k6 = none → B k6 = none → ∀ h7 : Heap, h7 = Heap.set h5 k6 (.vec 146 (plains [(Value.slice none 0 0)]) 1) →
 ∃ A8 : Addr, p1 = some A8 ∧
 ∃ i10 : Int, cellH B h7 (Addr.add A8 2) = some (Value.int .i64 (i10)) ∧
 ∀ k11 : Nat, h7 k11 = none → B k11 = none → ∀ h12 : Heap, h12 = Heap.set h7 k11 (.vec 3 (plains [(Value.int .i64 (0)), (Value.int .i64 (IntKind.wrap .i64 ((i10) + (1))))]) 2) →
 C_stylus_Stylus_Nat B (some ⟨k6, 0, none⟩) (some ⟨k11, 0, none⟩) 2 2 h12 (fun h13 =>
 C_stylus_Stylus_Raw B (some ⟨k6, 0, none⟩) s2 h13 (fun h14 =>
 C_stylus_Stylus_Bytes B (some ⟨k6, 0, none⟩) h14 (fun s16 h15 =>
 (((ByteArray.size s16 : Nat) : Int) > (1024) →
 Fin B h15 (Q (3))) ∧ (¬ (((ByteArray.size s16 : Nat) : Int) > (1024)) →
 ∃ A18 : Addr, p1 = some A18 ∧
 ∃ p20 : Option Addr, cellH B h15 (Addr.add A18 1) = some (Value.pointer p20) ∧
 ∃ A22 : Addr, p1 = some A22 ∧
 ∃ p26 : Option Addr, cellH B h15 A22 = some (Value.pointer p26) ∧
 C_wal_Log_Area B p20 h15 (fun i30 h29 =>
 cellH B h29 A22 = some (Value.pointer p26) ∧
 C_wal_Open B p26 (IntKind.wrap .i64 ((1) - (i30))) h29 (fun p33 i34 h32 =>
 cellH B h32 A22 = some (Value.pointer p26) ∧
 C_wal_Log_Clear B p33 h32 (fun h36 =>
 C_wal_Log_Force B p33 h36 (fun h37 =>
 C_stylus_Stylus_Bytes B (some ⟨k6, 0, none⟩) h37 (fun s39 h38 =>
 C_wal_Log_Append B p33 s39 h38 (fun i41 h40 =>
 C_wal_Log_Force B p33 h40 (fun h42 =>
 C_wal_Log_Clear B p20 h42 (fun h43 =>
 C_wal_Log_Force B p20 h43 (fun h44 =>
 ∃ A45 : Addr, p1 = some A45 ∧
 ∃ i47 : Int, cellH B h44 (Addr.add A45 2) = some (Value.int .i64 (i47)) ∧
 ∃ A48 : Addr, p1 = some A48 ∧
 ∃ h50 : Heap, storeH h44 (Addr.add A48 1) (Value.pointer p33) = some h50 ∧
 ∃ A51 : Addr, p1 = some A51 ∧
 ∃ h53 : Heap, storeH h50 (Addr.add A51 2) (Value.int .i64 (IntKind.wrap .i64 ((i47) + (1)))) = some h53 ∧
 ∃ A54 : Addr, p1 = some A54 ∧
 ∃ h56 : Heap, storeH h53 (Addr.add A54 3) (Value.bool true) = some h56 ∧
 Fin B h56 (Q (0)))))))))))))))
def S_vault_Vault_Settle (B : RO) (p1 : Option Addr) (s2 : ByteArray) (h : Heap) (Q : Int → Heap → Prop) : Prop :=
 (p1 = none →
 Fin B h (Q (2))) ∧ (¬ (p1 = none) →
 ∃ A58 : Addr, p1 = some A58 ∧
 ∃ i60 : Int, cellH B h (Addr.add A58 2) = some (Value.int .i64 (i60)) ∧
 ((i60 : Int) ≥ (1099511627776) →
 Fin B h (Q (6))) ∧ (¬ ((i60 : Int) ≥ (1099511627776)) →
 Fin B h (fun h' => S_vault_Vault_Settle_J1 B p1 s2 h' Q)))
def S_vault_Vault_Append_J1 (B : RO) (p1 : Option Addr) (s2 : ByteArray) (h5 : Heap) (Q : Int → Heap → Prop) : Prop :=
 ∃ A7 : Addr, p1 = some A7 ∧
 ∃ p11 : Option Addr, cellH B h5 (Addr.add A7 1) = some (Value.pointer p11) ∧
 ∀ k14 : Nat, h5 k14 = none → B k14 = none → ∀ h15 : Heap, h15 = Heap.set h5 k14 (.vec 5 (plains [(Value.int .u8 (1))]) 1) →
 cellH B h15 (Addr.add A7 1) = some (Value.pointer p11) ∧
 semH PG B (convert 144 9 (Value.slice (some ⟨k14, 0, none⟩) 1 1)) h15 (fun v h18 => ∃ s17 : ByteArray, v = (Value.string s17) ∧
 cellH B h18 (Addr.add A7 1) = some (Value.pointer p11) ∧
 ByteArray.size s17 + ByteArray.size s2 ≤ 4611686018427387904 ∧
 C_wal_Log_Append B p11 (s17 ++ s2) h18 (fun i21 h20 =>
 cellH B h20 (Addr.add A7 1) = some (Value.pointer p11) ∧
 Fin B h20 (Q (i21))))
def S_vault_Vault_Append (B : RO) (p1 : Option Addr) (s2 : ByteArray) (h : Heap) (Q : Int → Heap → Prop) : Prop :=
 (p1 = none →
 Fin B h (Q (2))) ∧ (¬ (p1 = none) →
 ∃ A24 : Addr, p1 = some A24 ∧
 ∃ b26 : Bool, cellH B h (Addr.add A24 3) = some (Value.bool b26) ∧ (b26 = true →
 Fin B h (fun h' => S_vault_Vault_Append_J1 B p1 s2 h' Q)) ∧ (b26 = false →
 Fin B h (Q (9))))
def S_vault_Vault_Force (B : RO) (p1 : Option Addr) (h : Heap) (Q : Heap → Prop) : Prop :=
 (p1 = none →
 Fin B h (Q)) ∧ (¬ (p1 = none) →
 ∃ A3 : Addr, p1 = some A3 ∧
 ∃ p5 : Option Addr, cellH B h (Addr.add A3 1) = some (Value.pointer p5) ∧
 C_wal_Log_Force B p5 h (fun h6 =>
 Fin B h6 (Q)))
def S_countermandref05_Image (B : RO) (i1 : Int) (s2 : ByteArray) (h : Heap) (Q : ByteArray → Heap → Prop) : Prop :=
 C_countermandref01_Nat B (i1) h (fun s5 h4 =>
 ByteArray.size (ByteArray.mk #[0]) + ByteArray.size s5 ≤ 4611686018427387904 ∧
 ByteArray.size ((ByteArray.mk #[0]) ++ s5) + ByteArray.size s2 ≤ 4611686018427387904 ∧
 C_countermandref02_Close B (((ByteArray.mk #[0]) ++ s5) ++ s2) h4 (fun s7 h6 =>
 Fin B h6 (Q s7)))
def S_disk_Disk_Reset_J1 (B : RO) (p1 : Option Addr) (i2 : Int) (h5 : Heap) (Q : Int → Heap → Prop) : Prop :=
 ∃ A6 : Addr, p1 = some A6 ∧
 0 ≤ (i2 : Int) ∧ (i2 : Int) < (2 : Nat) ∧
 ∃ h8 : Heap, storeH h5 (Addr.add A6 (Int.toNat (i2) * 2)) (Value.string (ByteArray.mk #[])) = some h8 ∧
 ∃ A9 : Addr, p1 = some A9 ∧
 LdSl B h8 (Addr.add A9 4) fun a11 n12 c13 h14 =>
 ∀ k15 : Nat, h14 k15 = none → B k15 = none → ∀ h16 : Heap, h16 = Heap.set h14 k15 (.vec 151 (plains [(Value.int .i64 (i2)), (Value.bool true), (Value.string ByteArray.empty)]) 3) →
 semH PG B (Builtin.append_ #[133, 133] 133 #[(Value.slice a11 n12 c13), (Value.slice (some ⟨k15, 0, none⟩) 1 1)]) h16 (fun v h17 => ∃ a18 : Option Addr, ∃ n19 : Nat, ∃ c20 : Nat, v = (Value.slice a18 n19 c20) ∧
 ∃ A21 : Addr, p1 = some A21 ∧
 ∃ h23 : Heap, storeH h17 (Addr.add A21 4) (Value.slice a18 n19 c20) = some h23 ∧
 Fin B h23 (Q (0)))
def S_disk_Disk_Reset (B : RO) (p1 : Option Addr) (i2 : Int) (h : Heap) (Q : Int → Heap → Prop) : Prop :=
 (p1 = none →
 Fin B h (Q (2))) ∧ (¬ (p1 = none) →
 C_disk_good B (i2) h (fun b26 h25 =>
 (b26 = true →
 Fin B h25 (fun h' => S_disk_Disk_Reset_J1 B p1 i2 h' Q)) ∧ (b26 = false →
 Fin B h25 (Q (1)))))
def S_disk_Disk_Sync (B : RO) (p1 : Option Addr) (h : Heap) (Q : Heap → Prop) : Prop :=
 (p1 = none →
 Fin B h (Q)) ∧ (¬ (p1 = none) →
 ∃ A3 : Addr, p1 = some A3 ∧
 LdSl B h (Addr.add A3 4) fun a5 n6 c7 h8 =>
 ∃ (J14 : Int → Nat → Heap → Prop) (m12 : Nat), Fin B h8 (J14 (0) m12) ∧
 ∀ (i9 : Int) (m11 : Nat) (h10 : Heap), J14 i9 m11 h10 →
 ((i9 : Int) < ((n6 : Nat)) →
 ∃ A16 : Addr, a5 = some A16 ∧ 0 ≤ (i9 : Int) ∧ (i9 : Int) < (n6 : Nat) ∧
 ∃ i18 : Int, ∃ b19 : Bool, ∃ s20 : ByteArray, CellsAt B h10 (Addr.add A16 (Int.toNat (i9) * 3)) 0 [(Value.int .i64 (i18)), (Value.bool b19), (Value.string s20)] ∧
 ∀ k21 : Nat, h10 k21 = none → B k21 = none → ∀ h22 : Heap, h22 = Heap.set h10 k21 (.vec 151 (plains [(Value.int .i64 (0)), (Value.bool false), (Value.string ByteArray.empty)]) 3) →
 ∃ h23 : Heap, StoresAt ⟨k21, 0, none⟩ h22 0 [(Value.int .i64 (i18)), (Value.bool b19), (Value.string s20)] h23 ∧
 ∃ i24 : Int, ∃ b25 : Bool, ∃ s26 : ByteArray, CellsAt B h23 ⟨k21, 0, none⟩ 0 [(Value.int .i64 (i24)), (Value.bool b25), (Value.string s26)] ∧
 C_disk_Disk_land B p1 (i24) (b25) s26 h23 (fun h27 =>
 Fin B h27 (fun h' => ∃ m', m' < m11 ∧ J14 (IntKind.wrap .i64 ((i9) + (1))) m' h'))) ∧ (¬ ((i9 : Int) < ((n6 : Nat))) →
 ∃ A28 : Addr, p1 = some A28 ∧
 ∃ h30 : Heap, storeH h10 (Addr.add A28 4) (Value.slice none 0 0) = some h30 ∧
 Fin B h30 (Q)))
def S_disk_Disk_Append_J1 (B : RO) (p1 : Option Addr) (i2 : Int) (s3 : ByteArray) (h6 : Heap) (Q : Int → Heap → Prop) : Prop :=
 ∃ A7 : Addr, p1 = some A7 ∧
 0 ≤ (i2 : Int) ∧ (i2 : Int) < (2 : Nat) ∧
 ∃ s9 : ByteArray, cellH B h6 (Addr.add A7 (Int.toNat (i2) * 2)) = some (Value.string s9) ∧
 ByteArray.size s9 + ByteArray.size s3 ≤ 4611686018427387904 ∧
 ∃ A10 : Addr, p1 = some A10 ∧
 0 ≤ (i2 : Int) ∧ (i2 : Int) < (2 : Nat) ∧
 ∃ h12 : Heap, storeH h6 (Addr.add A10 (Int.toNat (i2) * 2)) (Value.string (s9 ++ s3)) = some h12 ∧
 ∃ A13 : Addr, p1 = some A13 ∧
 LdSl B h12 (Addr.add A13 4) fun a15 n16 c17 h18 =>
 ∀ k19 : Nat, h18 k19 = none → B k19 = none → ∀ h20 : Heap, h20 = Heap.set h18 k19 (.vec 151 (plains [(Value.int .i64 (i2)), (Value.bool false), (Value.string s3)]) 3) →
 semH PG B (Builtin.append_ #[133, 133] 133 #[(Value.slice a15 n16 c17), (Value.slice (some ⟨k19, 0, none⟩) 1 1)]) h20 (fun v h21 => ∃ a22 : Option Addr, ∃ n23 : Nat, ∃ c24 : Nat, v = (Value.slice a22 n23 c24) ∧
 ∃ A25 : Addr, p1 = some A25 ∧
 ∃ h27 : Heap, storeH h21 (Addr.add A25 4) (Value.slice a22 n23 c24) = some h27 ∧
 Fin B h27 (Q (0)))
def S_disk_Disk_Append (B : RO) (p1 : Option Addr) (i2 : Int) (s3 : ByteArray) (h : Heap) (Q : Int → Heap → Prop) : Prop :=
 (p1 = none →
 Fin B h (Q (2))) ∧ (¬ (p1 = none) →
 C_disk_good B (i2) h (fun b30 h29 =>
 (b30 = true →
 ∃ A31 : Addr, p1 = some A31 ∧
 0 ≤ (i2 : Int) ∧ (i2 : Int) < (2 : Nat) ∧
 ∃ s33 : ByteArray, cellH B h29 (Addr.add A31 (Int.toNat (i2) * 2)) = some (Value.string s33) ∧
 (((ByteArray.size s3 : Nat) : Int) > (IntKind.wrap .i64 ((16384) - ((ByteArray.size s33 : Nat)))) →
 Fin B h29 (Q (6))) ∧ (¬ (((ByteArray.size s3 : Nat) : Int) > (IntKind.wrap .i64 ((16384) - ((ByteArray.size s33 : Nat))))) →
 Fin B h29 (fun h' => S_disk_Disk_Append_J1 B p1 i2 s3 h' Q))) ∧ (b30 = false →
 Fin B h29 (Q (1)))))
def S_disk_Disk_Crash_J1 (B : RO) (p1 : Option Addr) (h6 : Heap) (Q : Heap → Prop) : Prop :=
 ∃ A7 : Addr, p1 = some A7 ∧
 ∃ h9 : Heap, storeH h6 (Addr.add A7 4) (Value.slice none 0 0) = some h9 ∧
 ∃ (J15 : Int → Nat → Heap → Prop) (m13 : Nat), Fin B h9 (J15 (0) m13) ∧
 ∀ (i10 : Int) (m12 : Nat) (h11 : Heap), J15 i10 m12 h11 →
 ((i10 : Int) < (2) →
 ∃ A17 : Addr, p1 = some A17 ∧
 0 ≤ (i10 : Int) ∧ (i10 : Int) < (2 : Nat) ∧
 ∃ s19 : ByteArray, cellH B h11 (Addr.add (Addr.add A17 (Int.toNat (i10) * 2)) 1) = some (Value.string s19) ∧
 ∃ A20 : Addr, p1 = some A20 ∧
 0 ≤ (i10 : Int) ∧ (i10 : Int) < (2 : Nat) ∧
 ∃ h22 : Heap, storeH h11 (Addr.add A20 (Int.toNat (i10) * 2)) (Value.string s19) = some h22 ∧
 Fin B h22 (fun h' => ∃ m', m' < m12 ∧ J15 (IntKind.wrap .i64 ((i10) + (1))) m' h')) ∧ (¬ ((i10 : Int) < (2)) →
 Fin B h11 (Q))
def S_disk_Disk_Crash (B : RO) (p1 : Option Addr) (i2 : Int) (i3 : Int) (h : Heap) (Q : Heap → Prop) : Prop :=
 (p1 = none →
 Fin B h (Q)) ∧ (¬ (p1 = none) →
 ∃ A23 : Addr, p1 = some A23 ∧
 LdSl B h (Addr.add A23 4) fun a25 n26 c27 h28 =>
 ∃ (J34 : Int → Nat → Heap → Prop) (m32 : Nat), Fin B h28 (J34 (0) m32) ∧
 ∀ (i29 : Int) (m31 : Nat) (h30 : Heap), J34 i29 m31 h30 →
 ((i29 : Int) < ((n26 : Nat)) →
 ∃ A36 : Addr, a25 = some A36 ∧ 0 ≤ (i29 : Int) ∧ (i29 : Int) < (n26 : Nat) ∧
 ∃ i38 : Int, ∃ b39 : Bool, ∃ s40 : ByteArray, CellsAt B h30 (Addr.add A36 (Int.toNat (i29) * 3)) 0 [(Value.int .i64 (i38)), (Value.bool b39), (Value.string s40)] ∧
 ∀ k41 : Nat, h30 k41 = none → B k41 = none → ∀ h42 : Heap, h42 = Heap.set h30 k41 (.vec 151 (plains [(Value.int .i64 (0)), (Value.bool false), (Value.string ByteArray.empty)]) 3) →
 ∃ h43 : Heap, StoresAt ⟨k41, 0, none⟩ h42 0 [(Value.int .i64 (i38)), (Value.bool b39), (Value.string s40)] h43 ∧
 ((i29 : Int) ≥ (i2) →
 ∃ b45 : Bool, cellH B h43 ⟨k41, 1, none⟩ = some (Value.bool b45) ∧ (b45 = true →
 Fin B h43 (fun h' => S_disk_Disk_Crash_J1 B p1 h' Q)) ∧ (b45 = false →
 ∃ s46 : ByteArray, cellH B h43 ⟨k41, 2, none⟩ = some (Value.string s46) ∧
 ∃ s47 : ByteArray, cellH B h43 ⟨k41, 2, none⟩ = some (Value.string s47) ∧
 0 ≤ (0 : Int) ∧ (0 : Int) ≤ (if ((ByteArray.size s47 : Nat) : Int) < (if (0 : Int) > (i3) then (0 : Int) else (i3)) then ((ByteArray.size s47 : Nat) : Int) else (if (0 : Int) > (i3) then (0 : Int) else (i3)) : Int) ∧ (if ((ByteArray.size s47 : Nat) : Int) < (if (0 : Int) > (i3) then (0 : Int) else (i3)) then ((ByteArray.size s47 : Nat) : Int) else (if (0 : Int) > (i3) then (0 : Int) else (i3)) : Int) ≤ (ByteArray.size s46 : Nat) ∧
 ∃ h48 : Heap, storeH h43 ⟨k41, 2, none⟩ (Value.string (ByteArray.extract s46 (Int.toNat (0)) (Int.toNat (if ((ByteArray.size s47 : Nat) : Int) < (if (0 : Int) > (i3) then (0 : Int) else (i3)) then ((ByteArray.size s47 : Nat) : Int) else (if (0 : Int) > (i3) then (0 : Int) else (i3)))))) = some h48 ∧
 ∃ i49 : Int, ∃ b50 : Bool, ∃ s51 : ByteArray, CellsAt B h48 ⟨k41, 0, none⟩ 0 [(Value.int .i64 (i49)), (Value.bool b50), (Value.string s51)] ∧
 C_disk_Disk_land B p1 (i49) (b50) s51 h48 (fun h52 =>
 Fin B h52 (fun h' => S_disk_Disk_Crash_J1 B p1 h' Q)))) ∧ (¬ ((i29 : Int) ≥ (i2)) →
 ∃ i53 : Int, ∃ b54 : Bool, ∃ s55 : ByteArray, CellsAt B h43 ⟨k41, 0, none⟩ 0 [(Value.int .i64 (i53)), (Value.bool b54), (Value.string s55)] ∧
 C_disk_Disk_land B p1 (i53) (b54) s55 h43 (fun h56 =>
 Fin B h56 (fun h' => ∃ m', m' < m31 ∧ J34 (IntKind.wrap .i64 ((i29) + (1))) m' h')))) ∧ (¬ ((i29 : Int) < ((n26 : Nat))) →
 Fin B h30 (fun h' => S_disk_Disk_Crash_J1 B p1 h' Q)))
def S_countermandref05_Same (B : RO) (a1 : Option Addr) (n2 : Nat) (c3 : Nat) (a4 : Option Addr) (n5 : Nat) (c6 : Nat) (h : Heap) (Q : Bool → Heap → Prop) : Prop :=
 (((n2 : Nat) : Int) = (n5 : Nat) →
 ∃ (J14 : Int → Nat → Heap → Prop) (m12 : Nat), Fin B h (J14 (0) m12) ∧
 ∀ (i9 : Int) (m11 : Nat) (h10 : Heap), J14 i9 m11 h10 →
 ((i9 : Int) < ((n2 : Nat)) →
 ∃ A16 : Addr, a1 = some A16 ∧ 0 ≤ (i9 : Int) ∧ (i9 : Int) < (n2 : Nat) ∧
 ∃ s18 : ByteArray, cellH B h10 (Addr.add A16 (Int.toNat (i9) * 1)) = some (Value.string s18) ∧
 ∃ A19 : Addr, a4 = some A19 ∧ 0 ≤ (i9 : Int) ∧ (i9 : Int) < (n5 : Nat) ∧
 ∃ s21 : ByteArray, cellH B h10 (Addr.add A19 (Int.toNat (i9) * 1)) = some (Value.string s21) ∧
 (s18 = s21 →
 Fin B h10 (fun h' => ∃ m', m' < m11 ∧ J14 (IntKind.wrap .i64 ((i9) + (1))) m' h')) ∧ (¬ (s18 = s21) →
 Fin B h10 (Q (false)))) ∧ (¬ ((i9 : Int) < ((n2 : Nat))) →
 Fin B h10 (Q (true)))) ∧ (¬ (((n2 : Nat) : Int) = (n5 : Nat)) →
 Fin B h (Q (false)))
def S_countermandref05_Found (B : RO) (s1 : ByteArray) (s2 : ByteArray) (h : Heap) (Q : Int → ByteArray → Option Addr → Nat → Nat → Heap → Prop) : Prop :=
 C_countermandref05_Told B s1 h (fun i9 s10 a11 n12 c13 h8 =>
 C_countermandref05_Told B s2 h8 (fun i15 s16 a17 n18 c19 h14 =>
 ((i15 : Int) > (i9) →
 Fin B h14 (Q (i15) s16 a17 n18 c19)) ∧ (¬ ((i15 : Int) > (i9)) →
 Fin B h14 (Q (i9) s10 a11 n12 c13))))
def S_vault_Vault_Epoch (B : RO) (p1 : Option Addr) (h : Heap) (Q : Int → Heap → Prop) : Prop :=
 (p1 = none →
 Fin B h (Q (0))) ∧ (¬ (p1 = none) →
 ∃ A4 : Addr, p1 = some A4 ∧
 ∃ i6 : Int, cellH B h (Addr.add A4 2) = some (Value.int .i64 (i6)) ∧
 Fin B h (Q (i6)))
def S_disk_Disk_Read_J1 (B : RO) (p1 : Option Addr) (i2 : Int) (h5 : Heap) (Q : ByteArray → Heap → Prop) : Prop :=
 ∃ A6 : Addr, p1 = some A6 ∧
 0 ≤ (i2 : Int) ∧ (i2 : Int) < (2 : Nat) ∧
 ∃ s8 : ByteArray, cellH B h5 (Addr.add A6 (Int.toNat (i2) * 2)) = some (Value.string s8) ∧
 Fin B h5 (Q s8)
def S_disk_Disk_Read (B : RO) (p1 : Option Addr) (i2 : Int) (h : Heap) (Q : ByteArray → Heap → Prop) : Prop :=
 (p1 = none →
 Fin B h (Q (ByteArray.mk #[]))) ∧ (¬ (p1 = none) →
 C_disk_good B (i2) h (fun b11 h10 =>
 (b11 = true →
 Fin B h10 (fun h' => S_disk_Disk_Read_J1 B p1 i2 h' Q)) ∧ (b11 = false →
 Fin B h10 (Q (ByteArray.mk #[])))))
def S_disk_Disk_Waits (B : RO) (p1 : Option Addr) (h : Heap) (Q : Int → Heap → Prop) : Prop :=
 (p1 = none →
 Fin B h (Q (0))) ∧ (¬ (p1 = none) →
 ∃ A4 : Addr, p1 = some A4 ∧
 LdSl B h (Addr.add A4 4) fun a6 n7 c8 h9 =>
 Fin B h9 (Q ((n7 : Nat))))
def S_vault_Vault_Size (B : RO) (p1 : Option Addr) (h : Heap) (Q : Int → Heap → Prop) : Prop :=
 (p1 = none →
 Fin B h (Q (0))) ∧ (¬ (p1 = none) →
 ∃ A4 : Addr, p1 = some A4 ∧
 ∃ p6 : Option Addr, cellH B h (Addr.add A4 1) = some (Value.pointer p6) ∧
 C_wal_Log_Size B p6 h (fun i8 h7 =>
 Fin B h7 (Q (i8))))
def S_wal_Open_J1 (B : RO) (p1 : Option Addr) (i2 : Int) (h6 : Heap) (Q : Option Addr → Int → Heap → Prop) : Prop :=
 C_disk_Disk_Read B p1 (i2) h6 (fun s8 h7 =>
 C_wafer_Whole B s8 h7 (fun i10 h9 =>
 ∀ k11 : Nat, h9 k11 = none → B k11 = none → ∀ h12 : Heap, h12 = Heap.set h9 k11 (.vec 178 (plains [(Value.pointer p1), (Value.int .i64 (i2)), (Value.int .i64 (i10)), (Value.bool (decide ((i10 : Int) < ((ByteArray.size s8 : Nat)))))]) 4) →
 Fin B h12 (Q (some ⟨k11, 0, none⟩) (0))))
def S_wal_Open (B : RO) (p1 : Option Addr) (i2 : Int) (h : Heap) (Q : Option Addr → Int → Heap → Prop) : Prop :=
 (p1 = none →
 Fin B h (Q none (2))) ∧ (¬ (p1 = none) →
 ((i2 : Int) = 0 →
 Fin B h (fun h' => S_wal_Open_J1 B p1 i2 h' Q)) ∧ (¬ ((i2 : Int) = 0) →
 ((i2 : Int) = 1 →
 Fin B h (fun h' => S_wal_Open_J1 B p1 i2 h' Q)) ∧ (¬ ((i2 : Int) = 1) →
 Fin B h (Q none (1)))))
def S_vault_look_J1 (B : RO) (k11 : Nat) (s21 : ByteArray) (q24 : Nat) (J25 : Nat → Heap → Prop) (h45 : Heap) (Q : Int → ByteArray → Option Addr → Nat → Nat → Heap → Prop) : Prop :=
 ∃ a47 : Option Addr, ∃ n48 : Nat, ∃ c49 : Nat, cellH B h45 ⟨k11, 1, none⟩ = some (Value.slice a47 n48 c49) ∧
 0 ≤ (1 : Int) ∧ (1 : Int) ≤ ((ByteArray.size s21 : Nat) : Int) ∧ ((ByteArray.size s21 : Nat) : Int) ≤ (ByteArray.size s21 : Nat) ∧
 ∀ k56 : Nat, h45 k56 = none → B k56 = none → ∀ h57 : Heap, h57 = Heap.set h45 k56 (.vec 9 (plains [(Value.string (ByteArray.extract s21 (Int.toNat (1)) (Int.toNat ((ByteArray.size s21 : Nat)))))]) 1) →
 cellH B h57 ⟨k11, 1, none⟩ = some (Value.slice a47 n48 c49) ∧
 semH PG B (Builtin.append_ #[45, 45] 45 #[(Value.slice a47 n48 c49), (Value.slice (some ⟨k56, 0, none⟩) 1 1)]) h57 (fun v h59 => ∃ a60 : Option Addr, ∃ n61 : Nat, ∃ c62 : Nat, v = (Value.slice a60 n61 c62) ∧
 cellH B h59 ⟨k11, 1, none⟩ = some (Value.slice a47 n48 c49) ∧
 ∃ h64 : Heap, storeH h59 ⟨k11, 1, none⟩ (Value.slice a60 n61 c62) = some h64 ∧
 Fin B h64 (J25 (q24 + 1)))
def S_vault_look (B : RO) (p1 : Option Addr) (h : Heap) (Q : Int → ByteArray → Option Addr → Nat → Nat → Heap → Prop) : Prop :=
 ∀ k7 : Nat, h k7 = none → B k7 = none → ∀ h8 : Heap, h8 = Heap.set h k7 (.vec 3 (plains [(Value.int .i64 (0))]) 1) →
 ∀ k9 : Nat, h8 k9 = none → B k9 = none → ∀ h10 : Heap, h10 = Heap.set h8 k9 (.vec 51 (plains [(Value.string ByteArray.empty), (Value.slice none 0 0)]) 2) →
 ∀ k11 : Nat, h10 k11 = none → B k11 = none → ∀ h12 : Heap, h12 = Heap.set h10 k11 (.vec 51 (plains [(Value.string ByteArray.empty), (Value.slice none 0 0)]) 2) →
 ∀ k13 : Nat, h12 k13 = none → B k13 = none → ∀ h14 : Heap, h14 = Heap.set h12 k13 (.vec 3 (plains [(Value.int .i64 (0))]) 1) →
 ∀ k15 : Nat, h14 k15 = none → B k15 = none → ∀ h16 : Heap, h16 = Heap.set h14 k15 (.vec 3 (plains [(Value.int .i64 (0))]) 1) →
 ∃ h17 : Heap, storeH h16 ⟨k13, 0, none⟩ (Value.int .i64 (0)) = some h17 ∧
 ∃ h18 : Heap, storeH h17 ⟨k15, 0, none⟩ (Value.int .i64 (0)) = some h18 ∧
 C_wal_Log_All B p1 h18 (fun v20 h19 =>
 ∃ (xs26 : List (ByteArray)) (G22 : Heap → Prop) (J25 : Nat → Heap → Prop), Iter PG B v20 (xs26.map (fun x : ByteArray => [(Value.string x)])) G22 ∧ Ins G22 ∧ (∀ i h, J25 i h → G22 h) ∧ Fin B h19 (J25 0) ∧
 (∀ (q24 : Nat) (h23 : Heap) (s21 : ByteArray), xs26[q24]? = some (s21) → J25 q24 h23 →
 ∃ i27 : Int, cellH B h23 ⟨k15, 0, none⟩ = some (Value.int .i64 (i27)) ∧
 ∃ h28 : Heap, storeH h23 ⟨k15, 0, none⟩ (Value.int .i64 (IntKind.wrap .i64 ((i27) + (1)))) = some h28 ∧
 ∃ i29 : Int, cellH B h28 ⟨k15, 0, none⟩ = some (Value.int .i64 (i29)) ∧
 ((i29 : Int) = 1 →
 C_vault_first B s21 h28 (fun i32 s33 b34 h31 =>
 (b34 = true →
 ∃ h42 : Heap, storeH h31 ⟨k13, 0, none⟩ (Value.int .i64 (i32)) = some h42 ∧
 ∃ h43 : Heap, storeH h42 ⟨k11, 0, none⟩ (Value.string s33) = some h43 ∧
 Fin B h43 (J25 (q24 + 1))) ∧ (b34 = false →
 ∃ h35 : Heap, storeH h31 ⟨k7, 0, none⟩ (Value.int .i64 (0)) = some h35 ∧
 ∃ h36 : Heap, StoresAt ⟨k9, 0, none⟩ h35 0 [(Value.string ByteArray.empty), (Value.slice none 0 0)] h36 ∧
 ∃ i37 : Int, cellH B h36 ⟨k7, 0, none⟩ = some (Value.int .i64 (i37)) ∧ ∃ s38 : ByteArray, ∃ a39 : Option Addr, ∃ n40 : Nat, ∃ c41 : Nat, CellsAt B h36 ⟨k9, 0, none⟩ 0 [(Value.string s38), (Value.slice a39 n40 c41)] ∧ Fin B h36 (Q (i37) s38 a39 n40 c41)))) ∧ (¬ ((i29 : Int) = 1) →
 (s21 = (ByteArray.mk #[]) →
 ∃ i66 : Int, cellH B h28 ⟨k13, 0, none⟩ = some (Value.int .i64 (i66)) ∧
 ∃ s68 : ByteArray, ∃ a69 : Option Addr, ∃ n70 : Nat, ∃ c71 : Nat, CellsAt B h28 ⟨k11, 0, none⟩ 0 [(Value.string s68), (Value.slice a69 n70 c71)] ∧
 ∃ h73 : Heap, storeH h28 ⟨k7, 0, none⟩ (Value.int .i64 (i66)) = some h73 ∧
 cellH B h73 ⟨k13, 0, none⟩ = some (Value.int .i64 (i66)) ∧ CellsAt B h73 ⟨k11, 0, none⟩ 0 [(Value.string s68), (Value.slice a69 n70 c71)] ∧
 ∃ h76 : Heap, StoresAt ⟨k9, 0, none⟩ h73 0 [(Value.string s68), (Value.slice a69 n70 c71)] h76 ∧
 ∃ i77 : Int, cellH B h76 ⟨k7, 0, none⟩ = some (Value.int .i64 (i77)) ∧ ∃ s78 : ByteArray, ∃ a79 : Option Addr, ∃ n80 : Nat, ∃ c81 : Nat, CellsAt B h76 ⟨k9, 0, none⟩ 0 [(Value.string s78), (Value.slice a79 n80 c81)] ∧ Fin B h76 (Q (i77) s78 a79 n80 c81)) ∧ (¬ (s21 = (ByteArray.mk #[])) →
 0 ≤ (0 : Int) ∧ (0 : Int) < (ByteArray.size s21 : Nat) ∧
 ((byteAt s21 (Int.toNat (0)) : Int) = 1 →
 Fin B h28 (fun h' => S_vault_look_J1 B k11 s21 q24 J25 h' Q)) ∧ (¬ ((byteAt s21 (Int.toNat (0)) : Int) = 1) →
 ∃ i83 : Int, cellH B h28 ⟨k13, 0, none⟩ = some (Value.int .i64 (i83)) ∧
 ∃ s85 : ByteArray, ∃ a86 : Option Addr, ∃ n87 : Nat, ∃ c88 : Nat, CellsAt B h28 ⟨k11, 0, none⟩ 0 [(Value.string s85), (Value.slice a86 n87 c88)] ∧
 ∃ h90 : Heap, storeH h28 ⟨k7, 0, none⟩ (Value.int .i64 (i83)) = some h90 ∧
 cellH B h90 ⟨k13, 0, none⟩ = some (Value.int .i64 (i83)) ∧ CellsAt B h90 ⟨k11, 0, none⟩ 0 [(Value.string s85), (Value.slice a86 n87 c88)] ∧
 ∃ h93 : Heap, StoresAt ⟨k9, 0, none⟩ h90 0 [(Value.string s85), (Value.slice a86 n87 c88)] h93 ∧
 ∃ i94 : Int, cellH B h93 ⟨k7, 0, none⟩ = some (Value.int .i64 (i94)) ∧ ∃ s95 : ByteArray, ∃ a96 : Option Addr, ∃ n97 : Nat, ∃ c98 : Nat, CellsAt B h93 ⟨k9, 0, none⟩ 0 [(Value.string s95), (Value.slice a96 n97 c98)] ∧ Fin B h93 (Q (i94) s95 a96 n97 c98))))) ∧
 (∀ (h23 : Heap), J25 xs26.length h23 →
 ∃ i99 : Int, cellH B h23 ⟨k13, 0, none⟩ = some (Value.int .i64 (i99)) ∧
 ∃ s101 : ByteArray, ∃ a102 : Option Addr, ∃ n103 : Nat, ∃ c104 : Nat, CellsAt B h23 ⟨k11, 0, none⟩ 0 [(Value.string s101), (Value.slice a102 n103 c104)] ∧
 ∃ h106 : Heap, storeH h23 ⟨k7, 0, none⟩ (Value.int .i64 (i99)) = some h106 ∧
 cellH B h106 ⟨k13, 0, none⟩ = some (Value.int .i64 (i99)) ∧ CellsAt B h106 ⟨k11, 0, none⟩ 0 [(Value.string s101), (Value.slice a102 n103 c104)] ∧
 ∃ h109 : Heap, StoresAt ⟨k9, 0, none⟩ h106 0 [(Value.string s101), (Value.slice a102 n103 c104)] h109 ∧
 ∃ i110 : Int, cellH B h109 ⟨k7, 0, none⟩ = some (Value.int .i64 (i110)) ∧ ∃ s111 : ByteArray, ∃ a112 : Option Addr, ∃ n113 : Nat, ∃ c114 : Nat, CellsAt B h109 ⟨k9, 0, none⟩ 0 [(Value.string s111), (Value.slice a112 n113 c114)] ∧ Fin B h109 (Q (i110) s111 a112 n113 c114)))
def S_stylus_Stylus_Nat_J1 (B : RO) (p1 : Option Addr) (a2 : Option Addr) (n3 : Nat) (c4 : Nat) (i5 : Int) (m7 : Nat) (J10 : Int → Nat → Heap → Prop) (i17 : Int) (h18 : Heap) (Q : Heap → Prop) : Prop :=
 ∃ A19 : Addr, p1 = some A19 ∧
 LdSl B h18 A19 fun a21 n22 c23 h24 =>
 ∀ k25 : Nat, h24 k25 = none → B k25 = none → ∀ h26 : Heap, h26 = Heap.set h24 k25 (.vec 5 (plains [(Value.int .u8 (IntKind.wrap .u8 (i17)))]) 1) →
 semH PG B (Builtin.append_ #[144, 144] 144 #[(Value.slice a21 n22 c23), (Value.slice (some ⟨k25, 0, none⟩) 1 1)]) h26 (fun v h27 => ∃ a28 : Option Addr, ∃ n29 : Nat, ∃ c30 : Nat, v = (Value.slice a28 n29 c30) ∧
 ∃ A31 : Addr, p1 = some A31 ∧
 ∃ h33 : Heap, storeH h27 A31 (Value.slice a28 n29 c30) = some h33 ∧
 Fin B h33 (fun h' => ∃ m', m' < m7 ∧ J10 (IntKind.wrap .i64 ((i5) + (1))) m' h'))
def S_stylus_Stylus_Nat (B : RO) (p1 : Option Addr) (a2 : Option Addr) (n3 : Nat) (c4 : Nat) (h : Heap) (Q : Heap → Prop) : Prop :=
 ∃ (J10 : Int → Nat → Heap → Prop) (m8 : Nat), Fin B h (J10 (0) m8) ∧
 ∀ (i5 : Int) (m7 : Nat) (h6 : Heap), J10 i5 m7 h6 →
 ((i5 : Int) < ((n3 : Nat)) →
 ∃ A12 : Addr, a2 = some A12 ∧ 0 ≤ (i5 : Int) ∧ (i5 : Int) < (n3 : Nat) ∧
 ∃ i14 : Int, cellH B h6 (Addr.add A12 (Int.toNat (i5) * 1)) = some (Value.int .i64 (i14)) ∧
 ((i14 : Int) < (0) →
 Fin B h6 (fun h' => ∃ m', m' < m7 ∧ J10 (IntKind.wrap .i64 ((i5) + (1))) m' h')) ∧ (¬ ((i14 : Int) < (0)) →
 ∃ (J39 : Int → Nat → Heap → Prop) (m37 : Nat), Fin B h6 (J39 (i14) m37) ∧
 ∀ (i34 : Int) (m36 : Nat) (h35 : Heap), J39 i34 m36 h35 →
 ((i34 : Int) ≥ (128) →
 ∃ A41 : Addr, p1 = some A41 ∧
 LdSl B h35 A41 fun a43 n44 c45 h46 =>
 ∀ k47 : Nat, h46 k47 = none → B k47 = none → ∀ h48 : Heap, h48 = Heap.set h46 k47 (.vec 5 (plains [(Value.int .u8 (IntKind.wrap .u8 ((BitVec.ofInt (IntKind.bits .u8) (IntKind.wrap .u8 (i34)) ||| BitVec.ofInt (IntKind.bits .u8) (128)).toNat : Int)))]) 1) →
 semH PG B (Builtin.append_ #[144, 144] 144 #[(Value.slice a43 n44 c45), (Value.slice (some ⟨k47, 0, none⟩) 1 1)]) h48 (fun v h49 => ∃ a50 : Option Addr, ∃ n51 : Nat, ∃ c52 : Nat, v = (Value.slice a50 n51 c52) ∧
 ∃ A53 : Addr, p1 = some A53 ∧
 ∃ h55 : Heap, storeH h49 A53 (Value.slice a50 n51 c52) = some h55 ∧
 ¬ ((7 : Int) < 0) ∧
 Fin B h55 (fun h' => ∃ m', m' < m36 ∧ J39 (Int.fdiv (i34) (2 ^ (min (Int.toNat (7)) (IntKind.bits .i64)))) m' h'))) ∧ (¬ ((i34 : Int) ≥ (128)) →
 Fin B h35 (fun h' => S_stylus_Stylus_Nat_J1 B p1 a2 n3 c4 i5 m7 J10 (i34) h' Q)))) ∧ (¬ ((i5 : Int) < ((n3 : Nat))) →
 Fin B h6 (Q))
def S_stylus_Stylus_Raw (B : RO) (p1 : Option Addr) (s2 : ByteArray) (h : Heap) (Q : Heap → Prop) : Prop :=
 ∃ A3 : Addr, p1 = some A3 ∧
 LdSl B h A3 fun a5 n6 c7 h8 =>
 semH PG B (Builtin.append_ #[144, 9] 144 #[(Value.slice a5 n6 c7), (Value.string s2)]) h8 (fun v h9 => ∃ a10 : Option Addr, ∃ n11 : Nat, ∃ c12 : Nat, v = (Value.slice a10 n11 c12) ∧
 ∃ A13 : Addr, p1 = some A13 ∧
 ∃ h15 : Heap, storeH h9 A13 (Value.slice a10 n11 c12) = some h15 ∧
 Fin B h15 (Q))
def S_stylus_Stylus_Bytes (B : RO) (p1 : Option Addr) (h : Heap) (Q : ByteArray → Heap → Prop) : Prop :=
 ∃ A3 : Addr, p1 = some A3 ∧
 LdSl B h A3 fun a5 n6 c7 h8 =>
 semH PG B (convert 144 9 (Value.slice a5 n6 c7)) h8 (fun v h10 => ∃ s9 : ByteArray, v = (Value.string s9) ∧
 Fin B h10 (Q s9))
def S_wal_Log_Area (B : RO) (p1 : Option Addr) (h : Heap) (Q : Int → Heap → Prop) : Prop :=
 (p1 = none →
 Fin B h (Q (0))) ∧ (¬ (p1 = none) →
 ∃ A4 : Addr, p1 = some A4 ∧
 ∃ i6 : Int, cellH B h (Addr.add A4 1) = some (Value.int .i64 (i6)) ∧
 Fin B h (Q (i6)))
def S_wal_Log_Clear (B : RO) (p1 : Option Addr) (h : Heap) (Q : Heap → Prop) : Prop :=
 (p1 = none →
 Fin B h (Q)) ∧ (¬ (p1 = none) →
 ∃ A3 : Addr, p1 = some A3 ∧
 ∃ p5 : Option Addr, cellH B h A3 = some (Value.pointer p5) ∧
 ∃ A6 : Addr, p1 = some A6 ∧
 ∃ i8 : Int, cellH B h (Addr.add A6 1) = some (Value.int .i64 (i8)) ∧
 C_disk_Disk_Reset B p5 (i8) h (fun i10 h9 =>
 ∃ A11 : Addr, p1 = some A11 ∧
 ∃ h13 : Heap, storeH h9 (Addr.add A11 2) (Value.int .i64 (0)) = some h13 ∧
 ∃ A14 : Addr, p1 = some A14 ∧
 ∃ h16 : Heap, storeH h13 (Addr.add A14 3) (Value.bool false) = some h16 ∧
 Fin B h16 (Q)))
def S_wal_Log_Force (B : RO) (p1 : Option Addr) (h : Heap) (Q : Heap → Prop) : Prop :=
 (p1 = none →
 Fin B h (Q)) ∧ (¬ (p1 = none) →
 ∃ A3 : Addr, p1 = some A3 ∧
 ∃ p5 : Option Addr, cellH B h A3 = some (Value.pointer p5) ∧
 C_disk_Disk_Sync B p5 h (fun h6 =>
 Fin B h6 (Q)))
def S_wal_Log_Append_J1 (B : RO) (p1 : Option Addr) (s2 : ByteArray) (h5 : Heap) (Q : Int → Heap → Prop) : Prop :=
 C_wafer_Close B s2 h5 (fun s7 h6 =>
 ∃ A9 : Addr, p1 = some A9 ∧
 ∃ p13 : Option Addr, cellH B h6 A9 = some (Value.pointer p13) ∧
 ∃ A16 : Addr, p1 = some A16 ∧
 ∃ i20 : Int, cellH B h6 (Addr.add A16 1) = some (Value.int .i64 (i20)) ∧
 C_disk_Disk_Append B p13 (i20) s7 h6 (fun i24 h23 =>
 cellH B h23 A9 = some (Value.pointer p13) ∧ cellH B h23 (Addr.add A16 1) = some (Value.int .i64 (i20)) ∧
 ((i24 : Int) = 0 →
 ∃ A28 : Addr, p1 = some A28 ∧
 ∃ i30 : Int, cellH B h23 (Addr.add A28 2) = some (Value.int .i64 (i30)) ∧
 ∃ A31 : Addr, p1 = some A31 ∧
 ∃ h33 : Heap, storeH h23 (Addr.add A31 2) (Value.int .i64 (IntKind.wrap .i64 ((i30) + ((ByteArray.size s7 : Nat))))) = some h33 ∧
 Fin B h33 (Q (0))) ∧ (¬ ((i24 : Int) = 0) →
 Fin B h23 (Q (i24)))))
def S_wal_Log_Append (B : RO) (p1 : Option Addr) (s2 : ByteArray) (h : Heap) (Q : Int → Heap → Prop) : Prop :=
 (p1 = none →
 Fin B h (Q (2))) ∧ (¬ (p1 = none) →
 (((ByteArray.size s2 : Nat) : Int) > (1024) →
 Fin B h (Q (3))) ∧ (¬ (((ByteArray.size s2 : Nat) : Int) > (1024)) →
 ∃ A36 : Addr, p1 = some A36 ∧
 ∃ b38 : Bool, cellH B h (Addr.add A36 3) = some (Value.bool b38) ∧ (b38 = true →
 Fin B h (Q (9))) ∧ (b38 = false →
 Fin B h (fun h' => S_wal_Log_Append_J1 B p1 s2 h' Q))))
def S_countermandref02_Close (B : RO) (s1 : ByteArray) (h : Heap) (Q : ByteArray → Heap → Prop) : Prop :=
 (((ByteArray.size s1 : Nat) : Int) > (1024) →
 Fin B h (Q (ByteArray.mk #[]))) ∧ (¬ (((ByteArray.size s1 : Nat) : Int) > (1024)) →
 ¬ ((256 : Int) = 0) ∧
 ¬ ((256 : Int) = 0) ∧
 ∀ k4 : Nat, h k4 = none → B k4 = none → ∀ h5 : Heap, h5 = Heap.set h k4 (.vec 5 (plains [(Value.int .u8 (IntKind.wrap .u8 (IntKind.wrap .i64 (Int.tdiv ((ByteArray.size s1 : Nat)) (256))))), (Value.int .u8 (IntKind.wrap .u8 (Int.tmod ((ByteArray.size s1 : Nat)) (256))))]) 2) →
 semH PG B (convert 144 9 (Value.slice (some ⟨k4, 0, none⟩) 2 2)) h5 (fun v h7 => ∃ s6 : ByteArray, v = (Value.string s6) ∧
 ByteArray.size s6 + ByteArray.size s1 ≤ 4611686018427387904 ∧
 C_countermandref02_Sum B (s6 ++ s1) h7 (fun i9 h8 =>
 ¬ ((256 : Int) = 0) ∧
 ¬ ((256 : Int) = 0) ∧
 ¬ ((256 : Int) = 0) ∧
 ¬ ((65536 : Int) = 0) ∧
 ¬ ((256 : Int) = 0) ∧
 ¬ ((16777216 : Int) = 0) ∧
 ∀ k10 : Nat, h8 k10 = none → B k10 = none → ∀ h11 : Heap, h11 = Heap.set h8 k10 (.vec 5 (plains [(Value.int .u8 (IntKind.wrap .u8 (Int.tmod (i9) (256)))), (Value.int .u8 (IntKind.wrap .u8 (Int.tmod (IntKind.wrap .u32 (Int.tdiv (i9) (256))) (256)))), (Value.int .u8 (IntKind.wrap .u8 (Int.tmod (IntKind.wrap .u32 (Int.tdiv (i9) (65536))) (256)))), (Value.int .u8 (IntKind.wrap .u8 (IntKind.wrap .u32 (Int.tdiv (i9) (16777216)))))]) 4) →
 semH PG B (convert 144 9 (Value.slice (some ⟨k10, 0, none⟩) 4 4)) h11 (fun v h13 => ∃ s12 : ByteArray, v = (Value.string s12) ∧
 ByteArray.size (s6 ++ s1) + ByteArray.size s12 ≤ 4611686018427387904 ∧
 Fin B h13 (Q ((s6 ++ s1) ++ s12))))))
def S_countermandref01_Nat (B : RO) (i1 : Int) (h : Heap) (Q : ByteArray → Heap → Prop) : Prop :=
 ((i1 : Int) < (0) →
 Fin B h (Q (ByteArray.mk #[]))) ∧ (¬ ((i1 : Int) < (0)) →
 C_countermandref01_Wide B (IntKind.wrap .u64 (i1)) h (fun s5 h4 =>
 Fin B h4 (Q s5)))
def S_disk_good (B : RO) (i1 : Int) (h : Heap) (Q : Bool → Heap → Prop) : Prop :=
 ((i1 : Int) = 0 →
 Fin B h (Q (true))) ∧ (¬ ((i1 : Int) = 0) →
 Fin B h (Q (((i1 : Int) == (1)))))
def S_disk_Disk_land (B : RO) (p1 : Option Addr) (i2 : Int) (b3 : Bool) (s4 : ByteArray) (h : Heap) (Q : Heap → Prop) : Prop :=
 ∀ k5 : Nat, h k5 = none → B k5 = none → ∀ h6 : Heap, h6 = Heap.set h k5 (.vec 151 (plains [(Value.int .i64 (i2)), (Value.bool b3), (Value.string s4)]) 3) →
 ∃ b7 : Bool, cellH B h6 ⟨k5, 1, none⟩ = some (Value.bool b7) ∧ (b7 = true →
 ∃ i16 : Int, cellH B h6 ⟨k5, 0, none⟩ = some (Value.int .i64 (i16)) ∧
 ∃ A17 : Addr, p1 = some A17 ∧
 0 ≤ (i16 : Int) ∧ (i16 : Int) < (2 : Nat) ∧
 ∃ h19 : Heap, storeH h6 (Addr.add (Addr.add A17 (Int.toNat (i16) * 2)) 1) (Value.string (ByteArray.mk #[])) = some h19 ∧
 Fin B h19 (Q)) ∧ (b7 = false →
 ∃ i8 : Int, cellH B h6 ⟨k5, 0, none⟩ = some (Value.int .i64 (i8)) ∧
 ∃ A9 : Addr, p1 = some A9 ∧
 0 ≤ (i8 : Int) ∧ (i8 : Int) < (2 : Nat) ∧
 ∃ s11 : ByteArray, cellH B h6 (Addr.add (Addr.add A9 (Int.toNat (i8) * 2)) 1) = some (Value.string s11) ∧
 ∃ s12 : ByteArray, cellH B h6 ⟨k5, 2, none⟩ = some (Value.string s12) ∧
 ByteArray.size s11 + ByteArray.size s12 ≤ 4611686018427387904 ∧
 ∃ A13 : Addr, p1 = some A13 ∧
 0 ≤ (i8 : Int) ∧ (i8 : Int) < (2 : Nat) ∧
 ∃ h15 : Heap, storeH h6 (Addr.add (Addr.add A13 (Int.toNat (i8) * 2)) 1) (Value.string (s11 ++ s12)) = some h15 ∧
 Fin B h15 (Q))
def S_countermandref05_Told_J2 (B : RO) (a8 : Option Addr) (n9 : Nat) (c10 : Nat) (a11 : Option Addr) (n12 : Nat) (c13 : Nat) (i16 : Int) (m18 : Nat) (J21 : Option Addr → Nat → Nat → Int → ByteArray → Int → Nat → Heap → Prop) (s25 : ByteArray) (i30 : Int) (i31 : Int) (h33 : Heap) (Q : Int → ByteArray → Option Addr → Nat → Nat → Heap → Prop) : Prop :=
 0 ≤ (IntKind.wrap .i64 ((1) + (i31)) : Int) ∧ (IntKind.wrap .i64 ((1) + (i31)) : Int) ≤ ((ByteArray.size s25 : Nat) : Int) ∧ ((ByteArray.size s25 : Nat) : Int) ≤ (ByteArray.size s25 : Nat) ∧
 Fin B h33 (fun h' => ∃ m', m' < m18 ∧ J21 a11 n12 c13 (IntKind.wrap .i64 (i30)) (ByteArray.extract s25 (Int.toNat (IntKind.wrap .i64 ((1) + (i31)))) (Int.toNat ((ByteArray.size s25 : Nat)))) (IntKind.wrap .i64 ((i16) + (1))) m' h')
def S_countermandref05_Told_J1 (B : RO) (a8 : Option Addr) (n9 : Nat) (c10 : Nat) (a11 : Option Addr) (n12 : Nat) (c13 : Nat) (i16 : Int) (m18 : Nat) (J21 : Option Addr → Nat → Nat → Int → ByteArray → Int → Nat → Heap → Prop) (s25 : ByteArray) (h28 : Heap) (Q : Int → ByteArray → Option Addr → Nat → Nat → Heap → Prop) : Prop :=
 0 ≤ (1 : Int) ∧ (1 : Int) ≤ ((ByteArray.size s25 : Nat) : Int) ∧ ((ByteArray.size s25 : Nat) : Int) ≤ (ByteArray.size s25 : Nat) ∧
 C_countermandref01_Taken B (ByteArray.extract s25 (Int.toNat (1)) (Int.toNat ((ByteArray.size s25 : Nat)))) h28 (fun i30 i31 h29 =>
 ((i31 : Int) = 0 →
 Fin B h29 (Q (0) (ByteArray.mk #[]) none 0 0)) ∧ (¬ ((i31 : Int) = 0) →
 ((i30 : Int) = 0 →
 Fin B h29 (Q (0) (ByteArray.mk #[]) none 0 0)) ∧ (¬ ((i30 : Int) = 0) →
 ((i30 : Int) > (1099511627776) →
 Fin B h29 (Q (0) (ByteArray.mk #[]) none 0 0)) ∧ (¬ ((i30 : Int) > (1099511627776)) →
 Fin B h29 (fun h' => S_countermandref05_Told_J2 B a8 n9 c10 a11 n12 c13 i16 m18 J21 s25 i30 i31 h' Q)))))
def S_countermandref05_Told_J3 (B : RO) (a8 : Option Addr) (n9 : Nat) (c10 : Nat) (a11 : Option Addr) (n12 : Nat) (c13 : Nat) (i14 : Int) (s15 : ByteArray) (i16 : Int) (m18 : Nat) (J21 : Option Addr → Nat → Nat → Int → ByteArray → Int → Nat → Heap → Prop) (s25 : ByteArray) (h40 : Heap) (Q : Int → ByteArray → Option Addr → Nat → Nat → Heap → Prop) : Prop :=
 0 ≤ (1 : Int) ∧ (1 : Int) ≤ ((ByteArray.size s25 : Nat) : Int) ∧ ((ByteArray.size s25 : Nat) : Int) ≤ (ByteArray.size s25 : Nat) ∧
 ∀ k41 : Nat, h40 k41 = none → B k41 = none → ∀ h42 : Heap, h42 = Heap.set h40 k41 (.vec 9 (plains [(Value.string (ByteArray.extract s25 (Int.toNat (1)) (Int.toNat ((ByteArray.size s25 : Nat)))))]) 1) →
 semH PG B (Builtin.append_ #[45, 45] 45 #[(Value.slice a11 n12 c13), (Value.slice (some ⟨k41, 0, none⟩) 1 1)]) h42 (fun v h43 => ∃ a44 : Option Addr, ∃ n45 : Nat, ∃ c46 : Nat, v = (Value.slice a44 n45 c46) ∧
 Fin B h43 (fun h' => ∃ m', m' < m18 ∧ J21 a44 n45 c46 (i14) s15 (IntKind.wrap .i64 ((i16) + (1))) m' h'))
def S_countermandref05_Told (B : RO) (s1 : ByteArray) (h : Heap) (Q : Int → ByteArray → Option Addr → Nat → Nat → Heap → Prop) : Prop :=
 C_countermandref02_All B s1 h (fun a8 n9 c10 h7 =>
 ∃ (J21 : Option Addr → Nat → Nat → Int → ByteArray → Int → Nat → Heap → Prop) (m19 : Nat), Fin B h7 (J21 none 0 0 (0) (ByteArray.mk #[]) (0) m19) ∧
 ∀ (a11 : Option Addr) (n12 : Nat) (c13 : Nat) (i14 : Int) (s15 : ByteArray) (i16 : Int) (m18 : Nat) (h17 : Heap), J21 a11 n12 c13 i14 s15 i16 m18 h17 →
 ((i16 : Int) < ((n9 : Nat)) →
 ∃ A23 : Addr, a8 = some A23 ∧ 0 ≤ (i16 : Int) ∧ (i16 : Int) < (n9 : Nat) ∧
 ∃ s25 : ByteArray, cellH B h17 (Addr.add A23 (Int.toNat (i16) * 1)) = some (Value.string s25) ∧
 ((i16 : Int) = 0 →
 (((ByteArray.size s25 : Nat) : Int) = 0 →
 Fin B h17 (Q (0) (ByteArray.mk #[]) none 0 0)) ∧ (¬ (((ByteArray.size s25 : Nat) : Int) = 0) →
 0 ≤ (0 : Int) ∧ (0 : Int) < (ByteArray.size s25 : Nat) ∧
 ((byteAt s25 (Int.toNat (0)) : Int) = 0 →
 Fin B h17 (fun h' => S_countermandref05_Told_J1 B a8 n9 c10 a11 n12 c13 i16 m18 J21 s25 h' Q)) ∧ (¬ ((byteAt s25 (Int.toNat (0)) : Int) = 0) →
 Fin B h17 (Q (0) (ByteArray.mk #[]) none 0 0)))) ∧ (¬ ((i16 : Int) = 0) →
 (((ByteArray.size s25 : Nat) : Int) = 0 →
 Fin B h17 (Q (i14) s15 a11 n12 c13)) ∧ (¬ (((ByteArray.size s25 : Nat) : Int) = 0) →
 0 ≤ (0 : Int) ∧ (0 : Int) < (ByteArray.size s25 : Nat) ∧
 ((byteAt s25 (Int.toNat (0)) : Int) = 1 →
 Fin B h17 (fun h' => S_countermandref05_Told_J3 B a8 n9 c10 a11 n12 c13 i14 s15 i16 m18 J21 s25 h' Q)) ∧ (¬ ((byteAt s25 (Int.toNat (0)) : Int) = 1) →
 Fin B h17 (Q (i14) s15 a11 n12 c13))))) ∧ (¬ ((i16 : Int) < ((n9 : Nat))) →
 Fin B h17 (Q (i14) s15 a11 n12 c13)))
def S_wal_Log_Size (B : RO) (p1 : Option Addr) (h : Heap) (Q : Int → Heap → Prop) : Prop :=
 (p1 = none →
 Fin B h (Q (0))) ∧ (¬ (p1 = none) →
 ∃ A4 : Addr, p1 = some A4 ∧
 ∃ i6 : Int, cellH B h (Addr.add A4 2) = some (Value.int .i64 (i6)) ∧
 Fin B h (Q (i6)))
def S_wafer_Whole (B : RO) (s1 : ByteArray) (h : Heap) (Q : Int → Heap → Prop) : Prop :=
 ∀ k3 : Nat, h k3 = none → B k3 = none → ∀ h4 : Heap, h4 = Heap.set h k3 (.vec 3 (plains [(Value.int .i64 (0))]) 1) →
 ∃ h5 : Heap, storeH h4 ⟨k3, 0, none⟩ (Value.int .i64 (0)) = some h5 ∧
 C_wafer_All B s1 h5 (fun v7 h6 =>
 ∃ (xs13 : List (ByteArray)) (G9 : Heap → Prop) (J12 : Nat → Heap → Prop), Iter PG B v7 (xs13.map (fun x : ByteArray => [(Value.string x)])) G9 ∧ Ins G9 ∧ (∀ i h, J12 i h → G9 h) ∧ Fin B h6 (J12 0) ∧
 (∀ (q11 : Nat) (h10 : Heap) (s8 : ByteArray), xs13[q11]? = some (s8) → J12 q11 h10 →
 ∃ i14 : Int, cellH B h10 ⟨k3, 0, none⟩ = some (Value.int .i64 (i14)) ∧
 ∃ h15 : Heap, storeH h10 ⟨k3, 0, none⟩ (Value.int .i64 (IntKind.wrap .i64 ((i14) + (IntKind.wrap .i64 ((IntKind.wrap .i64 ((2) + ((ByteArray.size s8 : Nat)))) + (4)))))) = some h15 ∧
 Fin B h15 (J12 (q11 + 1))) ∧
 (∀ (h10 : Heap), J12 xs13.length h10 →
 ∃ i16 : Int, cellH B h10 ⟨k3, 0, none⟩ = some (Value.int .i64 (i16)) ∧
 Fin B h10 (Q (i16))))
def S_wal_Log_All (B : RO) (p1 : Option Addr) (h : Heap) (Q : Value → Heap → Prop) : Prop :=
 ∀ k3 : Nat, h k3 = none → B k3 = none → ∀ h4 : Heap, h4 = Heap.set h k3 (.vec 136 [.plain (Value.pointer p1)] 1) →
 Fin B h4 (Q (Value.func (.func 129) #[] #[(Value.pointer (some ⟨k3, 0, none⟩))]))
def S_vault_first (B : RO) (s1 : ByteArray) (h : Heap) (Q : Int → ByteArray → Bool → Heap → Prop) : Prop :=
 C_stylus_Of B s1 h (fun p6 h5 =>
 C_stylus_Reader_Nat B p6 (1) h5 (fun i8 h7 =>
 C_stylus_Reader_Nat B p6 (1099511627776) h7 (fun i10 h9 =>
 C_stylus_Reader_Left B p6 h9 (fun i12 h11 =>
 C_stylus_Reader_Raw B p6 (i12) h11 (fun s14 h13 =>
 C_stylus_Reader_Bad B p6 h13 (fun b16 h15 =>
 (b16 = true →
 Fin B h15 (Q (i10) s14 (false))) ∧ (b16 = false →
 ((i8 : Int) = 0 →
 Fin B h15 (Q (i10) s14 ((decide ((i10 : Int) > (0)))))) ∧ (¬ ((i8 : Int) = 0) →
 Fin B h15 (Q (i10) s14 (false))))))))))
def S_wafer_Close (B : RO) (s1 : ByteArray) (h : Heap) (Q : ByteArray → Heap → Prop) : Prop :=
 (((ByteArray.size s1 : Nat) : Int) > (1024) →
 Fin B h (Q (ByteArray.mk #[]))) ∧ (¬ (((ByteArray.size s1 : Nat) : Int) > (1024)) →
 ¬ ((8 : Int) < 0) ∧
 ∀ k4 : Nat, h k4 = none → B k4 = none → ∀ h5 : Heap, h5 = Heap.set h k4 (.vec 5 (plains [(Value.int .u8 (IntKind.wrap .u8 (Int.fdiv ((ByteArray.size s1 : Nat)) (2 ^ (min (Int.toNat (8)) (IntKind.bits .i64)))))), (Value.int .u8 (IntKind.wrap .u8 ((ByteArray.size s1 : Nat))))]) 2) →
 semH PG B (convert 144 9 (Value.slice (some ⟨k4, 0, none⟩) 2 2)) h5 (fun v h7 => ∃ s6 : ByteArray, v = (Value.string s6) ∧
 ByteArray.size s6 + ByteArray.size s1 ≤ 4611686018427387904 ∧
 C_wafer_Sum B (s6 ++ s1) h7 (fun i9 h8 =>
 C_wafer_foots B (i9) h8 (fun s11 h10 =>
 ByteArray.size (s6 ++ s1) + ByteArray.size s11 ≤ 4611686018427387904 ∧
 Fin B h10 (Q ((s6 ++ s1) ++ s11))))))
def S_countermandref02_Sum (B : RO) (s1 : ByteArray) (h : Heap) (Q : Int → Heap → Prop) : Prop :=
 ∃ (J9 : Int → Int → Nat → Heap → Prop) (m7 : Nat), Fin B h (J9 (4294967295) (0) m7) ∧
 ∀ (i3 : Int) (i4 : Int) (m6 : Nat) (h5 : Heap), J9 i3 i4 m6 h5 →
 ((i4 : Int) < ((ByteArray.size s1 : Nat)) →
 0 ≤ (i4 : Int) ∧ (i4 : Int) < (ByteArray.size s1 : Nat) ∧
 ∃ (J18 : Int → Int → Int → Nat → Heap → Prop) (m16 : Nat), Fin B h5 (J18 (i3) (byteAt s1 (Int.toNat (i4))) (0) m16) ∧
 ∀ (i11 : Int) (i12 : Int) (i13 : Int) (m15 : Nat) (h14 : Heap), J18 i11 i12 i13 m15 h14 →
 ((i13 : Int) < (8) →
 ¬ ((2 : Int) = 0) ∧
 ¬ ((2 : Int) = 0) ∧
 (((Int.tmod (i11) (2) : Int) == (1)) = ((Int.tmod (i12) (2) : Int) == (1)) →
 ¬ ((2 : Int) = 0) ∧
 ¬ ((2 : Int) = 0) ∧
 Fin B h14 (fun h' => ∃ m', m' < m15 ∧ J18 (IntKind.wrap .u32 (Int.tdiv (i11) (2))) (IntKind.wrap .u8 (Int.tdiv (i12) (2))) (IntKind.wrap .i64 ((i13) + (1))) m' h')) ∧ (¬ (((Int.tmod (i11) (2) : Int) == (1)) = ((Int.tmod (i12) (2) : Int) == (1))) →
 ¬ ((2 : Int) = 0) ∧
 ¬ ((2 : Int) = 0) ∧
 Fin B h14 (fun h' => ∃ m', m' < m15 ∧ J18 (IntKind.wrap .u32 ((BitVec.ofInt (IntKind.bits .u32) (IntKind.wrap .u32 (Int.tdiv (i11) (2))) ^^^ BitVec.ofInt (IntKind.bits .u32) (2197175160)).toNat : Int)) (IntKind.wrap .u8 (Int.tdiv (i12) (2))) (IntKind.wrap .i64 ((i13) + (1))) m' h'))) ∧ (¬ ((i13 : Int) < (8)) →
 Fin B h14 (fun h' => ∃ m', m' < m6 ∧ J9 (i11) (IntKind.wrap .i64 ((i4) + (1))) m' h'))) ∧ (¬ ((i4 : Int) < ((ByteArray.size s1 : Nat))) →
 Fin B h5 (Q (IntKind.wrap .u32 ((4294967295) - (i3)))))
def S_countermandref01_Wide_J1 (B : RO) (i4 : Int) (s5 : ByteArray) (h6 : Heap) (Q : ByteArray → Heap → Prop) : Prop :=
 ∀ k7 : Nat, h6 k7 = none → B k7 = none → ∀ h8 : Heap, h8 = Heap.set h6 k7 (.vec 5 (plains [(Value.int .u8 (IntKind.wrap .u8 (i4)))]) 1) →
 semH PG B (convert 144 9 (Value.slice (some ⟨k7, 0, none⟩) 1 1)) h8 (fun v h10 => ∃ s9 : ByteArray, v = (Value.string s9) ∧
 ByteArray.size s5 + ByteArray.size s9 ≤ 4611686018427387904 ∧
 Fin B h10 (Q (s5 ++ s9)))
def S_countermandref01_Wide (B : RO) (i1 : Int) (h : Heap) (Q : ByteArray → Heap → Prop) : Prop :=
 ∃ (J17 : Int → ByteArray → Nat → Heap → Prop) (m15 : Nat), Fin B h (J17 (i1) (ByteArray.mk #[]) m15) ∧
 ∀ (i11 : Int) (s12 : ByteArray) (m14 : Nat) (h13 : Heap), J17 i11 s12 m14 h13 →
 ((i11 : Int) > (127) →
 ¬ ((128 : Int) = 0) ∧
 ∀ k19 : Nat, h13 k19 = none → B k19 = none → ∀ h20 : Heap, h20 = Heap.set h13 k19 (.vec 5 (plains [(Value.int .u8 (IntKind.wrap .u8 (IntKind.wrap .u64 ((128) + (Int.tmod (i11) (128))))))]) 1) →
 semH PG B (convert 144 9 (Value.slice (some ⟨k19, 0, none⟩) 1 1)) h20 (fun v h22 => ∃ s21 : ByteArray, v = (Value.string s21) ∧
 ByteArray.size s12 + ByteArray.size s21 ≤ 4611686018427387904 ∧
 ¬ ((128 : Int) = 0) ∧
 Fin B h22 (fun h' => ∃ m', m' < m14 ∧ J17 (IntKind.wrap .u64 (Int.tdiv (i11) (128))) (s12 ++ s21) m' h'))) ∧ (¬ ((i11 : Int) > (127)) →
 Fin B h13 (fun h' => S_countermandref01_Wide_J1 B (i11) s12 h' Q))
def S_countermandref02_All (B : RO) (s1 : ByteArray) (h : Heap) (Q : Option Addr → Nat → Nat → Heap → Prop) : Prop :=
 C_countermandref02_Open B s1 h (fun s6 i7 h5 =>
 ∃ (J18 : ByteArray → Option Addr → Nat → Nat → ByteArray → Int → Nat → Heap → Prop) (m16 : Nat), Fin B h5 (J18 s1 none 0 0 s6 (i7) m16) ∧
 ∀ (s8 : ByteArray) (a9 : Option Addr) (n10 : Nat) (c11 : Nat) (s12 : ByteArray) (i13 : Int) (m15 : Nat) (h14 : Heap), J18 s8 a9 n10 c11 s12 i13 m15 h14 →
 ((i13 : Int) > (0) →
 ∀ k20 : Nat, h14 k20 = none → B k20 = none → ∀ h21 : Heap, h21 = Heap.set h14 k20 (.vec 9 (plains [(Value.string s12)]) 1) →
 semH PG B (Builtin.append_ #[45, 45] 45 #[(Value.slice a9 n10 c11), (Value.slice (some ⟨k20, 0, none⟩) 1 1)]) h21 (fun v h22 => ∃ a23 : Option Addr, ∃ n24 : Nat, ∃ c25 : Nat, v = (Value.slice a23 n24 c25) ∧
 0 ≤ (i13 : Int) ∧ (i13 : Int) ≤ ((ByteArray.size s8 : Nat) : Int) ∧ ((ByteArray.size s8 : Nat) : Int) ≤ (ByteArray.size s8 : Nat) ∧
 C_countermandref02_Open B (ByteArray.extract s8 (Int.toNat (i13)) (Int.toNat ((ByteArray.size s8 : Nat)))) h22 (fun s27 i28 h26 =>
 Fin B h26 (fun h' => ∃ m', m' < m15 ∧ J18 (ByteArray.extract s8 (Int.toNat (i13)) (Int.toNat ((ByteArray.size s8 : Nat)))) a23 n24 c25 s27 (i28) m' h')))) ∧ (¬ ((i13 : Int) > (0)) →
 Fin B h14 (Q a9 n10 c11)))
def S_countermandref01_Taken_J2 (B : RO) (s1 : ByteArray) (i4 : Int) (i14 : Int) (h15 : Heap) (Q : Int → Int → Heap → Prop) : Prop :=
 0 ≤ (0 : Int) ∧ (0 : Int) ≤ (i4 : Int) ∧ (i4 : Int) ≤ (ByteArray.size s1 : Nat) ∧
 C_countermandref01_Wide B (i14) h15 (fun s24 h23 =>
 (s24 = (ByteArray.extract s1 (Int.toNat (0)) (Int.toNat (i4))) →
 Fin B h23 (Q (i14) (i4))) ∧ (¬ (s24 = (ByteArray.extract s1 (Int.toNat (0)) (Int.toNat (i4)))) →
 Fin B h23 (Q (0) (0))))
def S_countermandref01_Taken_J1 (B : RO) (s1 : ByteArray) (i4 : Int) (m6 : Nat) (J9 : Int → Nat → Heap → Prop) (h11 : Heap) (Q : Int → Int → Heap → Prop) : Prop :=
 0 ≤ (IntKind.wrap .i64 ((i4) - (1)) : Int) ∧ (IntKind.wrap .i64 ((i4) - (1)) : Int) < (ByteArray.size s1 : Nat) ∧
 ((byteAt s1 (Int.toNat (IntKind.wrap .i64 ((i4) - (1)))) : Int) > (127) →
 Fin B h11 (fun h' => ∃ m', m' < m6 ∧ J9 (IntKind.wrap .i64 ((i4) + (1))) m' h')) ∧ (¬ ((byteAt s1 (Int.toNat (IntKind.wrap .i64 ((i4) - (1)))) : Int) > (127)) →
 ∃ (J32 : Int → Int → Nat → Heap → Prop) (m30 : Nat), Fin B h11 (J32 (0) (IntKind.wrap .i64 ((i4) - (1))) m30) ∧
 ∀ (i26 : Int) (i27 : Int) (m29 : Nat) (h28 : Heap), J32 i26 i27 m29 h28 →
 ((i27 : Int) ≥ (0) →
 0 ≤ (i27 : Int) ∧ (i27 : Int) < (ByteArray.size s1 : Nat) ∧
 ¬ ((128 : Int) = 0) ∧
 Fin B h28 (fun h' => ∃ m', m' < m29 ∧ J32 (IntKind.wrap .u64 ((IntKind.wrap .u64 ((i26) * (128))) + (Int.tmod (IntKind.wrap .u64 (byteAt s1 (Int.toNat (i27)))) (128)))) (IntKind.wrap .i64 ((i27) - (1))) m' h')) ∧ (¬ ((i27 : Int) ≥ (0)) →
 Fin B h28 (fun h' => S_countermandref01_Taken_J2 B s1 i4 (i26) h' Q)))
def S_countermandref01_Taken (B : RO) (s1 : ByteArray) (h : Heap) (Q : Int → Int → Heap → Prop) : Prop :=
 ∃ (J9 : Int → Nat → Heap → Prop) (m7 : Nat), Fin B h (J9 (1) m7) ∧
 ∀ (i4 : Int) (m6 : Nat) (h5 : Heap), J9 i4 m6 h5 →
 ((i4 : Int) ≤ (10) →
 ((i4 : Int) ≤ ((ByteArray.size s1 : Nat)) →
 Fin B h5 (fun h' => S_countermandref01_Taken_J1 B s1 i4 m6 J9 h' Q)) ∧ (¬ ((i4 : Int) ≤ ((ByteArray.size s1 : Nat))) →
 Fin B h5 (Q (0) (0)))) ∧ (¬ ((i4 : Int) ≤ (10)) →
 Fin B h5 (Q (0) (0)))
def S_wafer_All (B : RO) (s1 : ByteArray) (h : Heap) (Q : Value → Heap → Prop) : Prop :=
 ∀ k3 : Nat, h k3 = none → B k3 = none → ∀ h4 : Heap, h4 = Heap.set h k3 (.vec 9 [.plain (Value.string s1)] 1) →
 Fin B h4 (Q (Value.func (.func 149) #[] #[(Value.pointer (some ⟨k3, 0, none⟩))]))
def S_wal_Log_All_1 (B : RO) (v1 : Value) (A2 : Addr) (h : Heap) (Q : Heap → Prop) : Prop :=
 isOne v1 = true ∧
 ∀ k3 : Nat, h k3 = none → B k3 = none → ∀ h4 : Heap, h4 = Heap.set h k3 (.vec 70 [.plain v1] 1) →
 ∃ p5 : Option Addr, cellH B h4 A2 = some (Value.pointer p5) ∧
 (p5 = none →
 Fin B h4 (Q)) ∧ (¬ (p5 = none) →
 ∃ p7 : Option Addr, cellH B h4 A2 = some (Value.pointer p7) ∧
 ∃ A8 : Addr, p7 = some A8 ∧
 ∃ p10 : Option Addr, cellH B h4 A8 = some (Value.pointer p10) ∧
 ∃ p11 : Option Addr, cellH B h4 A2 = some (Value.pointer p11) ∧
 ∃ A12 : Addr, p11 = some A12 ∧
 ∃ i14 : Int, cellH B h4 (Addr.add A12 1) = some (Value.int .i64 (i14)) ∧
 C_disk_Disk_Read B p10 (i14) h4 (fun s16 h15 =>
 C_wafer_All B s16 h15 (fun v18 h17 =>
 ∃ (xs24 : List (ByteArray)) (G20 : Heap → Prop) (J23 : Nat → Heap → Prop), Iter PG B v18 (xs24.map (fun x : ByteArray => [(Value.string x)])) G20 ∧ Ins G20 ∧ (∀ i h, J23 i h → G20 h) ∧ Fin B h17 (J23 0) ∧
 (∀ (q22 : Nat) (h21 : Heap) (s19 : ByteArray), xs24[q22]? = some (s19) → J23 q22 h21 →
 ∃ v25 : Value, cellH B h21 ⟨k3, 0, none⟩ = some v25 ∧
 CallV PG B v25 [(Value.string s19)] h21 (fun v h26 => ∃ b27 : Bool, v = (Value.bool b27) ∧
 (b27 = true →
 Fin B h26 (J23 (q22 + 1))) ∧ (b27 = false →
 Fin B h26 (Q)))) ∧
 (∀ (h21 : Heap), J23 xs24.length h21 →
 Fin B h21 (Q)))))
def S_stylus_Of (B : RO) (s1 : ByteArray) (h : Heap) (Q : Option Addr → Heap → Prop) : Prop :=
 ∀ k3 : Nat, h k3 = none → B k3 = none → ∀ h4 : Heap, h4 = Heap.set h k3 (.vec 222 (plains [(Value.string s1), (Value.bool false)]) 2) →
 Fin B h4 (Q (some ⟨k3, 0, none⟩))
def S_stylus_Reader_Nat (B : RO) (p1 : Option Addr) (i2 : Int) (h : Heap) (Q : Int → Heap → Prop) : Prop :=
 C_stylus_Reader_word B p1 h (fun i5 h4 =>
 ((i2 : Int) < (0) →
 C_stylus_Reader_Spoil B p1 h4 (fun h7 =>
 Fin B h7 (Q (0)))) ∧ (¬ ((i2 : Int) < (0)) →
 ((i5 : Int) > (IntKind.wrap .u64 (i2)) →
 C_stylus_Reader_Spoil B p1 h4 (fun h9 =>
 Fin B h9 (Q (0)))) ∧ (¬ ((i5 : Int) > (IntKind.wrap .u64 (i2))) →
 Fin B h4 (Q (IntKind.wrap .i64 (i5))))))
def S_stylus_Reader_Raw_J1 (B : RO) (p1 : Option Addr) (i2 : Int) (h5 : Heap) (Q : ByteArray → Heap → Prop) : Prop :=
 ∃ A6 : Addr, p1 = some A6 ∧
 ∃ s8 : ByteArray, cellH B h5 A6 = some (Value.string s8) ∧
 0 ≤ (0 : Int) ∧ (0 : Int) ≤ (i2 : Int) ∧ (i2 : Int) ≤ (ByteArray.size s8 : Nat) ∧
 ∃ A9 : Addr, p1 = some A9 ∧
 ∃ s11 : ByteArray, cellH B h5 A9 = some (Value.string s11) ∧
 0 ≤ (i2 : Int) ∧ (i2 : Int) ≤ ((ByteArray.size s11 : Nat) : Int) ∧ ((ByteArray.size s11 : Nat) : Int) ≤ (ByteArray.size s11 : Nat) ∧
 ∃ A12 : Addr, p1 = some A12 ∧
 ∃ h14 : Heap, storeH h5 A12 (Value.string (ByteArray.extract s11 (Int.toNat (i2)) (Int.toNat ((ByteArray.size s11 : Nat))))) = some h14 ∧
 Fin B h14 (Q (ByteArray.extract s8 (Int.toNat (0)) (Int.toNat (i2))))
def S_stylus_Reader_Raw (B : RO) (p1 : Option Addr) (i2 : Int) (h : Heap) (Q : ByteArray → Heap → Prop) : Prop :=
 (p1 = none →
 C_stylus_Reader_Spoil B p1 h (fun h16 =>
 Fin B h16 (Q (ByteArray.mk #[])))) ∧ (¬ (p1 = none) →
 ∃ A17 : Addr, p1 = some A17 ∧
 ∃ b19 : Bool, cellH B h (Addr.add A17 1) = some (Value.bool b19) ∧ (b19 = true →
 C_stylus_Reader_Spoil B p1 h (fun h27 =>
 Fin B h27 (Q (ByteArray.mk #[])))) ∧ (b19 = false →
 ((i2 : Int) < (0) →
 C_stylus_Reader_Spoil B p1 h (fun h21 =>
 Fin B h21 (Q (ByteArray.mk #[])))) ∧ (¬ ((i2 : Int) < (0)) →
 ∃ A22 : Addr, p1 = some A22 ∧
 ∃ s24 : ByteArray, cellH B h A22 = some (Value.string s24) ∧
 ((i2 : Int) > ((ByteArray.size s24 : Nat)) →
 C_stylus_Reader_Spoil B p1 h (fun h26 =>
 Fin B h26 (Q (ByteArray.mk #[])))) ∧ (¬ ((i2 : Int) > ((ByteArray.size s24 : Nat))) →
 Fin B h (fun h' => S_stylus_Reader_Raw_J1 B p1 i2 h' Q)))))
def S_stylus_Reader_Left (B : RO) (p1 : Option Addr) (h : Heap) (Q : Int → Heap → Prop) : Prop :=
 (p1 = none →
 Fin B h (Q (0))) ∧ (¬ (p1 = none) →
 ∃ A4 : Addr, p1 = some A4 ∧
 ∃ s6 : ByteArray, cellH B h A4 = some (Value.string s6) ∧
 Fin B h (Q ((ByteArray.size s6 : Nat))))
def S_stylus_Reader_Bad (B : RO) (p1 : Option Addr) (h : Heap) (Q : Bool → Heap → Prop) : Prop :=
 (p1 = none →
 Fin B h (Q (true))) ∧ (¬ (p1 = none) →
 ∃ A4 : Addr, p1 = some A4 ∧
 ∃ b6 : Bool, cellH B h (Addr.add A4 1) = some (Value.bool b6) ∧
 Fin B h (Q (b6)))
def S_wafer_foots (B : RO) (i1 : Int) (h : Heap) (Q : ByteArray → Heap → Prop) : Prop :=
 ¬ ((8 : Int) < 0) ∧
 ¬ ((16 : Int) < 0) ∧
 ¬ ((24 : Int) < 0) ∧
 ∀ k3 : Nat, h k3 = none → B k3 = none → ∀ h4 : Heap, h4 = Heap.set h k3 (.vec 5 (plains [(Value.int .u8 (IntKind.wrap .u8 (i1))), (Value.int .u8 (IntKind.wrap .u8 (Int.fdiv (i1) (2 ^ (min (Int.toNat (8)) (IntKind.bits .u32)))))), (Value.int .u8 (IntKind.wrap .u8 (Int.fdiv (i1) (2 ^ (min (Int.toNat (16)) (IntKind.bits .u32)))))), (Value.int .u8 (IntKind.wrap .u8 (Int.fdiv (i1) (2 ^ (min (Int.toNat (24)) (IntKind.bits .u32))))))]) 4) →
 semH PG B (convert 144 9 (Value.slice (some ⟨k3, 0, none⟩) 4 4)) h4 (fun v h6 => ∃ s5 : ByteArray, v = (Value.string s5) ∧
 Fin B h6 (Q s5))
def S_wafer_Sum (B : RO) (s1 : ByteArray) (h : Heap) (Q : Int → Heap → Prop) : Prop :=
 ∃ (J9 : Int → Int → Nat → Heap → Prop) (m7 : Nat), Fin B h (J9 (4294967295) (0) m7) ∧
 ∀ (i3 : Int) (i4 : Int) (m6 : Nat) (h5 : Heap), J9 i3 i4 m6 h5 →
 ((i4 : Int) < ((ByteArray.size s1 : Nat)) →
 0 ≤ (i4 : Int) ∧ (i4 : Int) < (ByteArray.size s1 : Nat) ∧
 ∃ (J17 : Int → Int → Nat → Heap → Prop) (m15 : Nat), Fin B h5 (J17 (IntKind.wrap .u32 ((BitVec.ofInt (IntKind.bits .u32) (i3) ^^^ BitVec.ofInt (IntKind.bits .u32) (IntKind.wrap .u32 (byteAt s1 (Int.toNat (i4))))).toNat : Int)) (0) m15) ∧
 ∀ (i11 : Int) (i12 : Int) (m14 : Nat) (h13 : Heap), J17 i11 i12 m14 h13 →
 ((i12 : Int) < (8) →
 ¬ ((1 : Int) < 0) ∧
 Fin B h13 (fun h' => ∃ m', m' < m14 ∧ J17 (IntKind.wrap .u32 ((BitVec.ofInt (IntKind.bits .u32) (Int.fdiv (i11) (2 ^ (min (Int.toNat (1)) (IntKind.bits .u32)))) ^^^ BitVec.ofInt (IntKind.bits .u32) (IntKind.wrap .u32 ((BitVec.ofInt (IntKind.bits .u32) (2197175160) &&& BitVec.ofInt (IntKind.bits .u32) (IntKind.wrap .u32 (0 - (IntKind.wrap .u32 ((BitVec.ofInt (IntKind.bits .u32) (i11) &&& BitVec.ofInt (IntKind.bits .u32) (1)).toNat : Int))))).toNat : Int))).toNat : Int)) (IntKind.wrap .i64 ((i12) + (1))) m' h')) ∧ (¬ ((i12 : Int) < (8)) →
 Fin B h13 (fun h' => ∃ m', m' < m6 ∧ J9 (i11) (IntKind.wrap .i64 ((i4) + (1))) m' h'))) ∧ (¬ ((i4 : Int) < ((ByteArray.size s1 : Nat))) →
 Fin B h5 (Q (IntKind.wrap .u32 (((BitVec.ofInt (IntKind.bits .u32) (if IntKind.signed .u32 then (-1 : Int) else IntKind.max .u32) ^^^ BitVec.ofInt (IntKind.bits .u32) (i3)).toNat : Int)))))
def S_countermandref02_Open_J1 (B : RO) (s1 : ByteArray) (h6 : Heap) (Q : ByteArray → Int → Heap → Prop) : Prop :=
 0 ≤ (2 : Int) ∧ (2 : Int) ≤ (IntKind.wrap .i64 ((2) + (IntKind.wrap .i64 ((IntKind.wrap .i64 ((256) * (IntKind.wrap .i64 (byteAt s1 (Int.toNat (0)))))) + (IntKind.wrap .i64 (byteAt s1 (Int.toNat (1))))))) : Int) ∧ (IntKind.wrap .i64 ((2) + (IntKind.wrap .i64 ((IntKind.wrap .i64 ((256) * (IntKind.wrap .i64 (byteAt s1 (Int.toNat (0)))))) + (IntKind.wrap .i64 (byteAt s1 (Int.toNat (1))))))) : Int) ≤ (ByteArray.size s1 : Nat) ∧
 0 ≤ (0 : Int) ∧ (0 : Int) ≤ (IntKind.wrap .i64 ((6) + (IntKind.wrap .i64 ((IntKind.wrap .i64 ((256) * (IntKind.wrap .i64 (byteAt s1 (Int.toNat (0)))))) + (IntKind.wrap .i64 (byteAt s1 (Int.toNat (1))))))) : Int) ∧ (IntKind.wrap .i64 ((6) + (IntKind.wrap .i64 ((IntKind.wrap .i64 ((256) * (IntKind.wrap .i64 (byteAt s1 (Int.toNat (0)))))) + (IntKind.wrap .i64 (byteAt s1 (Int.toNat (1))))))) : Int) ≤ (ByteArray.size s1 : Nat) ∧
 C_countermandref02_Close B (ByteArray.extract s1 (Int.toNat (2)) (Int.toNat (IntKind.wrap .i64 ((2) + (IntKind.wrap .i64 ((IntKind.wrap .i64 ((256) * (IntKind.wrap .i64 (byteAt s1 (Int.toNat (0)))))) + (IntKind.wrap .i64 (byteAt s1 (Int.toNat (1)))))))))) h6 (fun s16 h15 =>
 (s16 = (ByteArray.extract s1 (Int.toNat (0)) (Int.toNat (IntKind.wrap .i64 ((6) + (IntKind.wrap .i64 ((IntKind.wrap .i64 ((256) * (IntKind.wrap .i64 (byteAt s1 (Int.toNat (0)))))) + (IntKind.wrap .i64 (byteAt s1 (Int.toNat (1)))))))))) →
 Fin B h15 (Q (ByteArray.extract s1 (Int.toNat (2)) (Int.toNat (IntKind.wrap .i64 ((2) + (IntKind.wrap .i64 ((IntKind.wrap .i64 ((256) * (IntKind.wrap .i64 (byteAt s1 (Int.toNat (0)))))) + (IntKind.wrap .i64 (byteAt s1 (Int.toNat (1)))))))))) (IntKind.wrap .i64 ((6) + (IntKind.wrap .i64 ((IntKind.wrap .i64 ((256) * (IntKind.wrap .i64 (byteAt s1 (Int.toNat (0)))))) + (IntKind.wrap .i64 (byteAt s1 (Int.toNat (1)))))))))) ∧ (¬ (s16 = (ByteArray.extract s1 (Int.toNat (0)) (Int.toNat (IntKind.wrap .i64 ((6) + (IntKind.wrap .i64 ((IntKind.wrap .i64 ((256) * (IntKind.wrap .i64 (byteAt s1 (Int.toNat (0)))))) + (IntKind.wrap .i64 (byteAt s1 (Int.toNat (1))))))))))) →
 Fin B h15 (Q (ByteArray.mk #[]) (0))))
def S_countermandref02_Open (B : RO) (s1 : ByteArray) (h : Heap) (Q : ByteArray → Int → Heap → Prop) : Prop :=
 (((ByteArray.size s1 : Nat) : Int) < (6) →
 Fin B h (Q (ByteArray.mk #[]) (0))) ∧ (¬ (((ByteArray.size s1 : Nat) : Int) < (6)) →
 0 ≤ (0 : Int) ∧ (0 : Int) < (ByteArray.size s1 : Nat) ∧
 0 ≤ (1 : Int) ∧ (1 : Int) < (ByteArray.size s1 : Nat) ∧
 ((IntKind.wrap .i64 ((IntKind.wrap .i64 ((256) * (IntKind.wrap .i64 (byteAt s1 (Int.toNat (0)))))) + (IntKind.wrap .i64 (byteAt s1 (Int.toNat (1))))) : Int) > (1024) →
 Fin B h (Q (ByteArray.mk #[]) (0))) ∧ (¬ ((IntKind.wrap .i64 ((IntKind.wrap .i64 ((256) * (IntKind.wrap .i64 (byteAt s1 (Int.toNat (0)))))) + (IntKind.wrap .i64 (byteAt s1 (Int.toNat (1))))) : Int) > (1024)) →
 (((ByteArray.size s1 : Nat) : Int) < (IntKind.wrap .i64 ((6) + (IntKind.wrap .i64 ((IntKind.wrap .i64 ((256) * (IntKind.wrap .i64 (byteAt s1 (Int.toNat (0)))))) + (IntKind.wrap .i64 (byteAt s1 (Int.toNat (1)))))))) →
 Fin B h (Q (ByteArray.mk #[]) (0))) ∧ (¬ (((ByteArray.size s1 : Nat) : Int) < (IntKind.wrap .i64 ((6) + (IntKind.wrap .i64 ((IntKind.wrap .i64 ((256) * (IntKind.wrap .i64 (byteAt s1 (Int.toNat (0)))))) + (IntKind.wrap .i64 (byteAt s1 (Int.toNat (1))))))))) →
 Fin B h (fun h' => S_countermandref02_Open_J1 B s1 h' Q))))
def S_wafer_All_1 (B : RO) (v1 : Value) (A2 : Addr) (h : Heap) (Q : Heap → Prop) : Prop :=
 ∃ s3 : ByteArray, cellH B h A2 = some (Value.string s3) ∧
 ∃ (J9 : ByteArray → Nat → Heap → Prop) (m7 : Nat), Fin B h (J9 s3 m7) ∧
 ∀ (s4 : ByteArray) (m6 : Nat) (h5 : Heap), J9 s4 m6 h5 →
 C_wafer_Open B s4 h5 (fun s11 i12 h10 =>
 ((i12 : Int) = 0 →
 Fin B h10 (Q)) ∧ (¬ ((i12 : Int) = 0) →
 CallV PG B v1 [(Value.string s11)] h10 (fun v h14 => ∃ b15 : Bool, v = (Value.bool b15) ∧
 (b15 = true →
 0 ≤ (i12 : Int) ∧ (i12 : Int) ≤ ((ByteArray.size s4 : Nat) : Int) ∧ ((ByteArray.size s4 : Nat) : Int) ≤ (ByteArray.size s4 : Nat) ∧
 Fin B h14 (fun h' => ∃ m', m' < m6 ∧ J9 (ByteArray.extract s4 (Int.toNat (i12)) (Int.toNat ((ByteArray.size s4 : Nat)))) m' h')) ∧ (b15 = false →
 Fin B h14 (Q)))))
def S_wafer_Open_J1 (B : RO) (s1 : ByteArray) (h6 : Heap) (Q : ByteArray → Int → Heap → Prop) : Prop :=
 0 ≤ (0 : Int) ∧ (0 : Int) ≤ (IntKind.wrap .i64 ((2) + (IntKind.wrap .i64 ((BitVec.ofInt (IntKind.bits .i64) (IntKind.wrap .i64 ((IntKind.wrap .i64 (byteAt s1 (Int.toNat (0)))) * 2 ^ (min (Int.toNat (8)) (IntKind.bits .i64)))) ||| BitVec.ofInt (IntKind.bits .i64) (IntKind.wrap .i64 (byteAt s1 (Int.toNat (1))))).toNat : Int))) : Int) ∧ (IntKind.wrap .i64 ((2) + (IntKind.wrap .i64 ((BitVec.ofInt (IntKind.bits .i64) (IntKind.wrap .i64 ((IntKind.wrap .i64 (byteAt s1 (Int.toNat (0)))) * 2 ^ (min (Int.toNat (8)) (IntKind.bits .i64)))) ||| BitVec.ofInt (IntKind.bits .i64) (IntKind.wrap .i64 (byteAt s1 (Int.toNat (1))))).toNat : Int))) : Int) ≤ (ByteArray.size s1 : Nat) ∧
 0 ≤ (IntKind.wrap .i64 ((2) + (IntKind.wrap .i64 ((BitVec.ofInt (IntKind.bits .i64) (IntKind.wrap .i64 ((IntKind.wrap .i64 (byteAt s1 (Int.toNat (0)))) * 2 ^ (min (Int.toNat (8)) (IntKind.bits .i64)))) ||| BitVec.ofInt (IntKind.bits .i64) (IntKind.wrap .i64 (byteAt s1 (Int.toNat (1))))).toNat : Int))) : Int) ∧ (IntKind.wrap .i64 ((2) + (IntKind.wrap .i64 ((BitVec.ofInt (IntKind.bits .i64) (IntKind.wrap .i64 ((IntKind.wrap .i64 (byteAt s1 (Int.toNat (0)))) * 2 ^ (min (Int.toNat (8)) (IntKind.bits .i64)))) ||| BitVec.ofInt (IntKind.bits .i64) (IntKind.wrap .i64 (byteAt s1 (Int.toNat (1))))).toNat : Int))) : Int) ≤ (IntKind.wrap .i64 ((IntKind.wrap .i64 ((2) + (IntKind.wrap .i64 ((BitVec.ofInt (IntKind.bits .i64) (IntKind.wrap .i64 ((IntKind.wrap .i64 (byteAt s1 (Int.toNat (0)))) * 2 ^ (min (Int.toNat (8)) (IntKind.bits .i64)))) ||| BitVec.ofInt (IntKind.bits .i64) (IntKind.wrap .i64 (byteAt s1 (Int.toNat (1))))).toNat : Int)))) + (4)) : Int) ∧ (IntKind.wrap .i64 ((IntKind.wrap .i64 ((2) + (IntKind.wrap .i64 ((BitVec.ofInt (IntKind.bits .i64) (IntKind.wrap .i64 ((IntKind.wrap .i64 (byteAt s1 (Int.toNat (0)))) * 2 ^ (min (Int.toNat (8)) (IntKind.bits .i64)))) ||| BitVec.ofInt (IntKind.bits .i64) (IntKind.wrap .i64 (byteAt s1 (Int.toNat (1))))).toNat : Int)))) + (4)) : Int) ≤ (ByteArray.size s1 : Nat) ∧
 C_wafer_Sum B (ByteArray.extract s1 (Int.toNat (0)) (Int.toNat (IntKind.wrap .i64 ((2) + (IntKind.wrap .i64 ((BitVec.ofInt (IntKind.bits .i64) (IntKind.wrap .i64 ((IntKind.wrap .i64 (byteAt s1 (Int.toNat (0)))) * 2 ^ (min (Int.toNat (8)) (IntKind.bits .i64)))) ||| BitVec.ofInt (IntKind.bits .i64) (IntKind.wrap .i64 (byteAt s1 (Int.toNat (1))))).toNat : Int)))))) h6 (fun i23 h22 =>
 C_wafer_foots B (i23) h22 (fun s25 h24 =>
 (s25 = (ByteArray.extract s1 (Int.toNat (IntKind.wrap .i64 ((2) + (IntKind.wrap .i64 ((BitVec.ofInt (IntKind.bits .i64) (IntKind.wrap .i64 ((IntKind.wrap .i64 (byteAt s1 (Int.toNat (0)))) * 2 ^ (min (Int.toNat (8)) (IntKind.bits .i64)))) ||| BitVec.ofInt (IntKind.bits .i64) (IntKind.wrap .i64 (byteAt s1 (Int.toNat (1))))).toNat : Int))))) (Int.toNat (IntKind.wrap .i64 ((IntKind.wrap .i64 ((2) + (IntKind.wrap .i64 ((BitVec.ofInt (IntKind.bits .i64) (IntKind.wrap .i64 ((IntKind.wrap .i64 (byteAt s1 (Int.toNat (0)))) * 2 ^ (min (Int.toNat (8)) (IntKind.bits .i64)))) ||| BitVec.ofInt (IntKind.bits .i64) (IntKind.wrap .i64 (byteAt s1 (Int.toNat (1))))).toNat : Int)))) + (4))))) →
 0 ≤ (2 : Int) ∧ (2 : Int) ≤ (IntKind.wrap .i64 ((2) + (IntKind.wrap .i64 ((BitVec.ofInt (IntKind.bits .i64) (IntKind.wrap .i64 ((IntKind.wrap .i64 (byteAt s1 (Int.toNat (0)))) * 2 ^ (min (Int.toNat (8)) (IntKind.bits .i64)))) ||| BitVec.ofInt (IntKind.bits .i64) (IntKind.wrap .i64 (byteAt s1 (Int.toNat (1))))).toNat : Int))) : Int) ∧ (IntKind.wrap .i64 ((2) + (IntKind.wrap .i64 ((BitVec.ofInt (IntKind.bits .i64) (IntKind.wrap .i64 ((IntKind.wrap .i64 (byteAt s1 (Int.toNat (0)))) * 2 ^ (min (Int.toNat (8)) (IntKind.bits .i64)))) ||| BitVec.ofInt (IntKind.bits .i64) (IntKind.wrap .i64 (byteAt s1 (Int.toNat (1))))).toNat : Int))) : Int) ≤ (ByteArray.size s1 : Nat) ∧
 Fin B h24 (Q (ByteArray.extract s1 (Int.toNat (2)) (Int.toNat (IntKind.wrap .i64 ((2) + (IntKind.wrap .i64 ((BitVec.ofInt (IntKind.bits .i64) (IntKind.wrap .i64 ((IntKind.wrap .i64 (byteAt s1 (Int.toNat (0)))) * 2 ^ (min (Int.toNat (8)) (IntKind.bits .i64)))) ||| BitVec.ofInt (IntKind.bits .i64) (IntKind.wrap .i64 (byteAt s1 (Int.toNat (1))))).toNat : Int)))))) (IntKind.wrap .i64 ((IntKind.wrap .i64 ((2) + (IntKind.wrap .i64 ((BitVec.ofInt (IntKind.bits .i64) (IntKind.wrap .i64 ((IntKind.wrap .i64 (byteAt s1 (Int.toNat (0)))) * 2 ^ (min (Int.toNat (8)) (IntKind.bits .i64)))) ||| BitVec.ofInt (IntKind.bits .i64) (IntKind.wrap .i64 (byteAt s1 (Int.toNat (1))))).toNat : Int)))) + (4))))) ∧ (¬ (s25 = (ByteArray.extract s1 (Int.toNat (IntKind.wrap .i64 ((2) + (IntKind.wrap .i64 ((BitVec.ofInt (IntKind.bits .i64) (IntKind.wrap .i64 ((IntKind.wrap .i64 (byteAt s1 (Int.toNat (0)))) * 2 ^ (min (Int.toNat (8)) (IntKind.bits .i64)))) ||| BitVec.ofInt (IntKind.bits .i64) (IntKind.wrap .i64 (byteAt s1 (Int.toNat (1))))).toNat : Int))))) (Int.toNat (IntKind.wrap .i64 ((IntKind.wrap .i64 ((2) + (IntKind.wrap .i64 ((BitVec.ofInt (IntKind.bits .i64) (IntKind.wrap .i64 ((IntKind.wrap .i64 (byteAt s1 (Int.toNat (0)))) * 2 ^ (min (Int.toNat (8)) (IntKind.bits .i64)))) ||| BitVec.ofInt (IntKind.bits .i64) (IntKind.wrap .i64 (byteAt s1 (Int.toNat (1))))).toNat : Int)))) + (4)))))) →
 Fin B h24 (Q (ByteArray.mk #[]) (0)))))
def S_wafer_Open (B : RO) (s1 : ByteArray) (h : Heap) (Q : ByteArray → Int → Heap → Prop) : Prop :=
 (((ByteArray.size s1 : Nat) : Int) < (2) →
 Fin B h (Q (ByteArray.mk #[]) (0))) ∧ (¬ (((ByteArray.size s1 : Nat) : Int) < (2)) →
 0 ≤ (0 : Int) ∧ (0 : Int) < (ByteArray.size s1 : Nat) ∧
 ¬ ((8 : Int) < 0) ∧
 0 ≤ (1 : Int) ∧ (1 : Int) < (ByteArray.size s1 : Nat) ∧
 ((IntKind.wrap .i64 ((BitVec.ofInt (IntKind.bits .i64) (IntKind.wrap .i64 ((IntKind.wrap .i64 (byteAt s1 (Int.toNat (0)))) * 2 ^ (min (Int.toNat (8)) (IntKind.bits .i64)))) ||| BitVec.ofInt (IntKind.bits .i64) (IntKind.wrap .i64 (byteAt s1 (Int.toNat (1))))).toNat : Int) : Int) > (1024) →
 Fin B h (Q (ByteArray.mk #[]) (0))) ∧ (¬ ((IntKind.wrap .i64 ((BitVec.ofInt (IntKind.bits .i64) (IntKind.wrap .i64 ((IntKind.wrap .i64 (byteAt s1 (Int.toNat (0)))) * 2 ^ (min (Int.toNat (8)) (IntKind.bits .i64)))) ||| BitVec.ofInt (IntKind.bits .i64) (IntKind.wrap .i64 (byteAt s1 (Int.toNat (1))))).toNat : Int) : Int) > (1024)) →
 (((ByteArray.size s1 : Nat) : Int) < (IntKind.wrap .i64 ((IntKind.wrap .i64 ((2) + (IntKind.wrap .i64 ((BitVec.ofInt (IntKind.bits .i64) (IntKind.wrap .i64 ((IntKind.wrap .i64 (byteAt s1 (Int.toNat (0)))) * 2 ^ (min (Int.toNat (8)) (IntKind.bits .i64)))) ||| BitVec.ofInt (IntKind.bits .i64) (IntKind.wrap .i64 (byteAt s1 (Int.toNat (1))))).toNat : Int)))) + (4))) →
 Fin B h (Q (ByteArray.mk #[]) (0))) ∧ (¬ (((ByteArray.size s1 : Nat) : Int) < (IntKind.wrap .i64 ((IntKind.wrap .i64 ((2) + (IntKind.wrap .i64 ((BitVec.ofInt (IntKind.bits .i64) (IntKind.wrap .i64 ((IntKind.wrap .i64 (byteAt s1 (Int.toNat (0)))) * 2 ^ (min (Int.toNat (8)) (IntKind.bits .i64)))) ||| BitVec.ofInt (IntKind.bits .i64) (IntKind.wrap .i64 (byteAt s1 (Int.toNat (1))))).toNat : Int)))) + (4)))) →
 Fin B h (fun h' => S_wafer_Open_J1 B s1 h' Q))))
def S_stylus_Reader_word_J1 (B : RO) (p1 : Option Addr) (i3 : Int) (i4 : Int) (m6 : Nat) (J9 : Int → Int → Nat → Heap → Prop) (s12 : ByteArray) (h14 : Heap) (Q : Int → Heap → Prop) : Prop :=
 0 ≤ (0 : Int) ∧ (0 : Int) < (ByteArray.size s12 : Nat) ∧
 ¬ ((i4 : Int) < 0) ∧
 0 ≤ (0 : Int) ∧ (0 : Int) < (ByteArray.size s12 : Nat) ∧
 ((byteAt s12 (Int.toNat (0)) : Int) < (128) →
 Fin B h14 (Q (IntKind.wrap .u64 ((BitVec.ofInt (IntKind.bits .u64) (i3) ||| BitVec.ofInt (IntKind.bits .u64) (IntKind.wrap .u64 ((IntKind.wrap .u64 (IntKind.wrap .u8 ((BitVec.ofInt (IntKind.bits .u8) (byteAt s12 (Int.toNat (0))) &&& BitVec.ofInt (IntKind.bits .u8) (127)).toNat : Int))) * 2 ^ (min (Int.toNat (i4)) (IntKind.bits .u64))))).toNat : Int)))) ∧ (¬ ((byteAt s12 (Int.toNat (0)) : Int) < (128)) →
 Fin B h14 (fun h' => ∃ m', m' < m6 ∧ J9 (IntKind.wrap .u64 ((BitVec.ofInt (IntKind.bits .u64) (i3) ||| BitVec.ofInt (IntKind.bits .u64) (IntKind.wrap .u64 ((IntKind.wrap .u64 (IntKind.wrap .u8 ((BitVec.ofInt (IntKind.bits .u8) (byteAt s12 (Int.toNat (0))) &&& BitVec.ofInt (IntKind.bits .u8) (127)).toNat : Int))) * 2 ^ (min (Int.toNat (i4)) (IntKind.bits .u64))))).toNat : Int)) (IntKind.wrap .i64 ((i4) + (7))) m' h'))
def S_stylus_Reader_word (B : RO) (p1 : Option Addr) (h : Heap) (Q : Int → Heap → Prop) : Prop :=
 ∃ (J9 : Int → Int → Nat → Heap → Prop) (m7 : Nat), Fin B h (J9 (0) (0) m7) ∧
 ∀ (i3 : Int) (i4 : Int) (m6 : Nat) (h5 : Heap), J9 i3 i4 m6 h5 →
 ((i4 : Int) < (64) →
 C_stylus_Reader_Raw B p1 (1) h5 (fun s12 h11 =>
 (s12 = (ByteArray.mk #[]) →
 C_stylus_Reader_Spoil B p1 h11 (fun h17 =>
 Fin B h17 (Q (0)))) ∧ (¬ (s12 = (ByteArray.mk #[])) →
 ((i4 : Int) = 63 →
 0 ≤ (0 : Int) ∧ (0 : Int) < (ByteArray.size s12 : Nat) ∧
 ((byteAt s12 (Int.toNat (0)) : Int) > (1) →
 C_stylus_Reader_Spoil B p1 h11 (fun h20 =>
 Fin B h20 (Q (0)))) ∧ (¬ ((byteAt s12 (Int.toNat (0)) : Int) > (1)) →
 ((i4 : Int) > (0) →
 0 ≤ (0 : Int) ∧ (0 : Int) < (ByteArray.size s12 : Nat) ∧
 ((byteAt s12 (Int.toNat (0)) : Int) = 0 →
 C_stylus_Reader_Spoil B p1 h11 (fun h23 =>
 Fin B h23 (Q (0)))) ∧ (¬ ((byteAt s12 (Int.toNat (0)) : Int) = 0) →
 Fin B h11 (fun h' => S_stylus_Reader_word_J1 B p1 i3 i4 m6 J9 s12 h' Q))) ∧ (¬ ((i4 : Int) > (0)) →
 Fin B h11 (fun h' => S_stylus_Reader_word_J1 B p1 i3 i4 m6 J9 s12 h' Q)))) ∧ (¬ ((i4 : Int) = 63) →
 ((i4 : Int) > (0) →
 0 ≤ (0 : Int) ∧ (0 : Int) < (ByteArray.size s12 : Nat) ∧
 ((byteAt s12 (Int.toNat (0)) : Int) = 0 →
 C_stylus_Reader_Spoil B p1 h11 (fun h26 =>
 Fin B h26 (Q (0)))) ∧ (¬ ((byteAt s12 (Int.toNat (0)) : Int) = 0) →
 Fin B h11 (fun h' => S_stylus_Reader_word_J1 B p1 i3 i4 m6 J9 s12 h' Q))) ∧ (¬ ((i4 : Int) > (0)) →
 Fin B h11 (fun h' => S_stylus_Reader_word_J1 B p1 i3 i4 m6 J9 s12 h' Q)))))) ∧ (¬ ((i4 : Int) < (64)) →
 C_stylus_Reader_Spoil B p1 h5 (fun h27 =>
 Fin B h27 (Q (0))))
def S_stylus_Reader_Spoil (B : RO) (p1 : Option Addr) (h : Heap) (Q : Heap → Prop) : Prop :=
 (p1 = none →
 Fin B h (Q)) ∧ (¬ (p1 = none) →
 ∃ A3 : Addr, p1 = some A3 ∧
 ∃ h5 : Heap, storeH h A3 (Value.string (ByteArray.mk #[])) = some h5 ∧
 ∃ A6 : Addr, p1 = some A6 ∧
 ∃ h8 : Heap, storeH h5 (Addr.add A6 1) (Value.bool true) = some h8 ∧
 Fin B h8 (Q))
end Go.Proofs.Ytcncdfmnpmmikaa.H
