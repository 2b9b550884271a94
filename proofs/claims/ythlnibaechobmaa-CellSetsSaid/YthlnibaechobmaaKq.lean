/- The law CellSets: the range over the row. No condition. -/
import Derived.Test.YthlnibaechobmaaKp
namespace Go.Proofs.Ythlnibaechobmaa.H
open Go Go.RowKit
set_option linter.unusedVariables false
set_option maxRecDepth 100000

section
variable {B : RO} {h0 h : Heap} {k8 k17 k18 k20 k22 : Nat} {n first : Int} {l : List (Int × Int)} {sets : List SetR} {Q : Bool → Heap → Prop}
set_option maxHeartbeats 1000000 in
theorem CellSets_J3 (d : D8 h0 k8 k17 k18 k20 k22) (cs : CS B h0 k8 k17 k18 k20 k22 n first l sets h) (hs : sets.length ≤ 100) (hn : n ≤ 64) (sm : Same08 n first l sets) (hQ : Q true h0)
    (hJ4 : ∀ k38 k40 k3 a m c h', CI B h0 k8 k17 k18 k20 k22 k38 k40 k3 n first l sets a m c l.length h' → S_countermandlaw08_CellSets_J4 B k8 k20 k22 k38 k40 h' Q) : S_countermandlaw08_CellSets_J3 B k8 k20 k22 h Q := by
  unfold S_countermandlaw08_CellSets_J3
  intro k38 a38 b38 h39 e39 k40 a40 b40 h41 e41
  obtain ⟨g39, l39, f39⟩ := Heap.made a38 e39
  obtain ⟨g41, l41, f41⟩ := Heap.made a40 e41
  have d3 : k40 ≠ k38 := (f41 _ _ g39).1
  have g41' := (f41 _ _ g39).2
  refine ⟨_, storeH_vec g41' rfl, _, storeH_vec (Heap.get_set d3 g41) rfl, ?_⟩
  have s1 : h41.set k38 (.vec TY.int ((plains [Value.int .i64 0]).set 0 (.plain (.int .i64 0))) 1) = h41 := Heap.set_self _ _ _ g41'
  have s2 : h41.set k40 (.vec TY.int ((plains [Value.int .i64 0]).set 0 (.plain (.int .i64 0))) 1) = h41 := Heap.set_self _ _ _ g41
  rw [s1, s2]
  have lx := l39.trans l41
  have rv := rowO_int_v (lx _ _ cs.r)
  have hl := sm.1
  refine ⟨_, (cs.p20.le lx).cell, ?_⟩
  refine FV.spec rv fun a m c h1 sh => ?_
  refine all_wp_int fun k3 a3 b3 => ?_
  have bl : ∀ {X : Nat} {o : AObj}, X ≠ k17 → h41 X = some o → (h1.set k3 (.vec TY.p_cell_Row_int (plains [Value.pointer (some ⟨k17, 0, none⟩)]) 1)) X = some o := fun n1 e => Heap.get_new a3 (sh.2.2.1 _ _ n1 e)
  have pf : ∀ {X i : Nat} {v : Value}, X ≠ k17 → PF h41 X i v → PF (h1.set k3 (.vec TY.p_cell_Row_int (plains [Value.pointer (some ⟨k17, 0, none⟩)]) 1)) X i v := fun n1 ⟨t, fs, n, hb, hi⟩ => ⟨t, fs, n, bl n1 hb, hi⟩
  have z38 : h0 k38 = none := cs.le.none a38
  have z40 : h0 k40 = none := (cs.le.trans l39).none a40
  have nb : ∀ {X i : Nat} {v : Value}, PF h X i v → X ≠ k38 ∧ X ≠ k40 := fun ⟨t, fs, n, hb, _⟩ => ⟨Ne.symm (f39 _ _ hb).1, Ne.symm (f41 _ _ (f39 _ _ hb).2).1⟩
  obtain ⟨bb, p8⟩ := cs.p8
  have n8 := nb p8
  have n17 : k17 ≠ k38 ∧ k17 ≠ k40 := ⟨Ne.symm (f39 _ _ cs.r).1, Ne.symm (f41 _ _ (f39 _ _ cs.r).2).1⟩
  have n18 := nb cs.an
  have n20 := nb cs.p20
  have n22 := nb cs.p22
  have x38 := sh.2.2.1 _ _ (Ne.symm n17.1) g41'
  have x40 := sh.2.2.1 _ _ (Ne.symm n17.2) g41
  have n3 : k3 ≠ k38 ∧ k3 ≠ k40 := ⟨Heap.ne_of a3 x38, Heap.ne_of a3 x40⟩
  have d1 : k8 ≠ k38 ∧ k17 ≠ k38 ∧ k18 ≠ k38 ∧ k20 ≠ k38 ∧ k22 ≠ k38 ∧ k3 ≠ k38 := ⟨n8.1, n17.1, n18.1, n20.1, n22.1, n3.1⟩
  have d2 : k8 ≠ k40 ∧ k17 ≠ k40 ∧ k18 ≠ k40 ∧ k20 ≠ k40 ∧ k22 ≠ k40 ∧ k3 ≠ k40 := ⟨n8.2, n17.2, n18.2, n20.2, n22.2, n3.2⟩
  have ci0 : CI B h0 k8 k17 k18 k20 k22 k38 k40 k3 n first l sets a m c 0 (h1.set k3 (.vec TY.p_cell_Row_int (plains [Value.pointer (some ⟨k17, 0, none⟩)]) 1)) := by
    obtain ⟨⟨t, fs, n', hb, hi⟩, hr⟩ := sh.1
    refine ⟨fun X o e => ?_, ⟨bb, pf (Ne.symm d.a) (p8.le lx)⟩, ⟨⟨t, fs, n', Heap.get_new a3 hb, hi⟩, hr.wk (Le.new a3)⟩, pf d.e (cs.an.le lx), pf d.e (cs.af.le lx), ?_, pf d.f (cs.p20.le lx), pf d.g (cs.p22.le lx), Heap.set_same _ _ _, bl (Ne.symm n17.1) g41', bl (Ne.symm n17.2) g41⟩
    · refine bl (fun e2 => ?_) (lx _ _ (cs.le _ _ e))
      rw [e2, d.z17] at e; cases e
    · exact .inl ⟨_, _, _, bl d.e (lx _ _ cs.ans), rfl⟩
  have it := all_iter_int (B := B) (k3 := k3) (b := k17) (a := a) (m := m) (c := c) (l := l) (by omega)
  refine ⟨allOf_int l, AllG_int k3 k17 a m c l, fun q h => CI B h0 k8 k17 k18 k20 k22 k38 k40 k3 n first l sets a m c q h, it, all_ins_int, fun q h ci => ⟨ci.p3, ci.r⟩, Fin.of ci0, ?_, ?_⟩
  · intro q hq i129 i130 hg ci
    rw [allOf_int_get] at hg
    obtain ⟨x, hx, ex⟩ := Option.map_eq_some_iff.1 hg
    cases ex
    obtain ⟨hql, rfl⟩ := List.getElem?_eq_some_iff.1 hx
    have hc := sm.2 (q : Int)
    have hin : cellAt_int l (q : Int) = l[q] := by rw [cellAt_int_in (by omega) (by simpa using hql)]; rfl
    have rv := RowP_int.v ci.r
    refine ⟨_, ci.p22.cell, _, cellH_vec ci.c38 rfl, ref08_get_wp (by omega) ci.an ci.af ci.aset ?_⟩
    rw [← hc, hin]
    refine ⟨_, cellH_vec ci.c38 rfl, fun _ => ⟨fun _ => ⟨_, ci.p20.cell, version_wp_int rv ?_⟩, fun hne => absurd rfl hne⟩, fun hne => absurd rfl hne⟩
    rw [hin]
    exact ⟨fun _ => Fin.of (CellSets_J6 ci z38 z40 d1 d2 d3 hql (by omega) rfl (fun _ q => q)), fun hne => absurd rfl hne⟩
  · intro hh ci
    rw [allOf_int_len] at ci
    exact Fin.of (hJ4 _ _ _ _ _ _ _ ci)
end
end Go.Proofs.Ythlnibaechobmaa.H
