/- The law CellSets: what is asked behind the sets. No condition. -/
import Derived.Test.YthlnibaechobmaaKo
namespace Go.Proofs.Ythlnibaechobmaa.H
open Go Go.RowKit
set_option linter.unusedVariables false
set_option maxRecDepth 100000

section
variable {B : RO} {h0 h : Heap} {k8 k17 k18 k20 k22 : Nat} {n first : Int} {l : List (Int × Int)} {sets : List SetR} {Q : Bool → Heap → Prop}
theorem CellSets_J2 {other : Int} (cs : CS B h0 k8 k17 k18 k20 k22 n first l sets h) (hs : sets.length ≤ 100) (hn : n ≤ 64) (sm : Same08 n first l sets) (hJ3 : S_countermandlaw08_CellSets_J3 B k8 k20 k22 h Q) : S_countermandlaw08_CellSets_J2 B other k8 k20 k22 h Q := by
  unfold S_countermandlaw08_CellSets_J2
  have rv := rowO_int_v cs.r
  have e := sm.2 other
  have hl : ((l.length : Nat) : Int) = max n 0 := by rw [sm.1]; omega
  refine ⟨_, cs.p20.cell, get_wp_int rv ⟨_, cs.p22.cell, ref08_get_wp (by omega) cs.an cs.af cs.aset ?_⟩⟩
  rw [e]
  refine ⟨fun _ => ⟨fun _ => ⟨_, cs.p20.cell, version_wp_int rv ?_⟩, fun hne => absurd rfl hne⟩, fun hne => absurd rfl hne⟩
  rw [e]
  refine ⟨rfl, fun _ => ⟨_, cs.p20.cell, _, cs.p22.cell, _, rfl, _, cs.an.cell, len_wp_int rv ⟨rfl, fun _ => Fin.of hJ3, fun hne => absurd hl hne⟩⟩, fun hne => absurd rfl hne⟩

/-- What holds while the row is ranged over: it lies open. -/
structure CI (B : RO) (h0 : Heap) (k8 k17 k18 k20 k22 k38 k40 k3 : Nat) (n first : Int) (l : List (Int × Int)) (sets : List SetR) (a : Option Addr) (m c : Nat) (q : Nat) (h : Heap) : Prop where
  le : Le h0 h
  p8 : ∃ b : Bool, PF h k8 0 (.bool b)
  r : RowP_int h k17 a m c l
  an : PF h k18 0 (.int .i64 (max n 0))
  af : PF h k18 1 (.int .i64 first)
  aset : FV h k18 2 TY.countermandref08_Set 3 (sets.flatMap SetR.cells)
  p20 : PF h k20 0 (.pointer (some ⟨k17, 0, none⟩))
  p22 : PF h k22 0 (.pointer (some ⟨k18, 0, none⟩))
  p3 : h k3 = some (.vec TY.p_cell_Row_int (plains [.pointer (some ⟨k17, 0, none⟩)]) 1)
  c38 : h k38 = some (.vec TY.int (plains [.int .i64 (q : Nat)]) 1)
  c40 : h k40 = some (.vec TY.int (plains [.int .i64 (newestOf (l.take q))]) 1)

/-- A block that is a variable of whole numbers is turned: the rest stays. -/
theorem CI.put {k3 k38 k40 m c q q' : Nat} {a : Option Addr} {x y : Int} (s : CI B h0 k8 k17 k18 k20 k22 k38 k40 k3 n first l sets a m c q h) (z38 : h0 k38 = none) (z40 : h0 k40 = none)
    (d1 : k8 ≠ k38 ∧ k17 ≠ k38 ∧ k18 ≠ k38 ∧ k20 ≠ k38 ∧ k22 ≠ k38 ∧ k3 ≠ k38) (d2 : k8 ≠ k40 ∧ k17 ≠ k40 ∧ k18 ≠ k40 ∧ k20 ≠ k40 ∧ k22 ≠ k40 ∧ k3 ≠ k40) (d3 : k40 ≠ k38)
    (hx : x = (q' : Nat)) (hy : y = newestOf (l.take q')) :
    CI B h0 k8 k17 k18 k20 k22 k38 k40 k3 n first l sets a m c q' ((h.set k40 (.vec TY.int (plains [.int .i64 y]) 1)).set k38 (.vec TY.int (plains [.int .i64 x]) 1)) := by
  subst hx hy
  have kp : ∀ {k : Nat} {o1 o2 : AObj}, k ≠ k38 → k ≠ k40 → ((h.set k40 o1).set k38 o2) k = h k := fun n1 n2 => by rw [Heap.set_ne _ _ _ _ n1, Heap.set_ne _ _ _ _ n2]
  refine ⟨(s.le.set z40).set z38, s.p8.imp fun _ p => p.keep (kp d1.1 d2.1), ⟨s.r.1.keep (kp d1.2.1 d2.2.1), ?_⟩, s.an.keep (kp d1.2.2.1 d2.2.2.1), s.af.keep (kp d1.2.2.1 d2.2.2.1), ?_, s.p20.keep (kp d1.2.2.2.1 d2.2.2.2.1), s.p22.keep (kp d1.2.2.2.2.1 d2.2.2.2.2.1), (kp d1.2.2.2.2.2 d2.2.2.2.2.2).trans s.p3, Heap.set_same _ _ _, Heap.get_set d3 (Heap.set_same _ _ _)⟩
  · rcases s.r.2 with e | ⟨k, m', c', nn, js, e1, e2, e3⟩
    · exact .inl e
    · refine .inr ⟨k, m', c', nn, js, e1, ?_, e3⟩
      rw [kp (fun e => by rw [e, s.c38] at e2; cases e2) (fun e => by rw [e, s.c40] at e2; cases e2)]; exact e2
  · rcases s.aset with ⟨t, fs, n', hb, hi⟩ | ⟨t, fs, n', a', m', c', hb, hi, hr⟩
    · exact .inl ⟨t, fs, n', (kp d1.2.2.1 d2.2.2.1).trans hb, hi⟩
    · refine .inr ⟨t, fs, n', a', m', c', (kp d1.2.2.1 d2.2.2.1).trans hb, hi, ?_⟩
      rcases hr with e | ⟨k, m', c', nn, js, e1, e2, e3⟩
      · exact .inl e
      · refine .inr ⟨k, m', c', nn, js, e1, ?_, e3⟩
        rw [kp (fun e => by rw [e, s.c38] at e2; cases e2) (fun e => by rw [e, s.c40] at e2; cases e2)]; exact e2

theorem CellSets_J6 {k3 k38 k40 m c q : Nat} {a : Option Addr} {i140 : Int} {J : Nat → Heap → Prop} (s : CI B h0 k8 k17 k18 k20 k22 k38 k40 k3 n first l sets a m c q h) (z38 : h0 k38 = none) (z40 : h0 k40 = none)
    (d1 : k8 ≠ k38 ∧ k17 ≠ k38 ∧ k18 ≠ k38 ∧ k20 ≠ k38 ∧ k22 ≠ k38 ∧ k3 ≠ k38) (d2 : k8 ≠ k40 ∧ k17 ≠ k40 ∧ k18 ≠ k40 ∧ k20 ≠ k40 ∧ k22 ≠ k40 ∧ k3 ≠ k40) (d3 : k40 ≠ k38)
    (hq : q < l.length) (hl : l.length ≤ 64) (hi : i140 = l[q].2) (hJ : ∀ h', CI B h0 k8 k17 k18 k20 k22 k38 k40 k3 n first l sets a m c (q + 1) h' → J (q + 1) h') : S_countermandlaw08_CellSets_J6 B k38 k40 q J i140 h Q := by
  unfold S_countermandlaw08_CellSets_J6
  have e38 := Heap.get_set (o' := .vec TY.int ((plains [Value.int .i64 (newestOf (l.take q))]).set 0 (.plain (.int .i64 (if i140 > newestOf (l.take q) then i140 else newestOf (l.take q))))) 1) (Ne.symm d3) s.c38
  refine ⟨_, cellH_vec s.c40 rfl, _, storeH_vec s.c40 rfl, _, cellH_vec e38 rfl, _, storeH_vec e38 rfl, Fin.of (hJ _ ?_)⟩
  refine s.put z38 z40 d1 d2 d3 (q' := q + 1) ?_ ?_
  · rw [w64 (by omega) (by omega)]; omega
  · rw [newestOf_take_succ l q hq, hi]
end
end Go.Proofs.Ythlnibaechobmaa.H
