/- A row of cells is ranged over, one by one (things of the kind 'int'). No condition. -/
import Derived.Test.YthlnibaechobmaaCi
import Derived.Test.YthlnibaechobmaaHn
namespace Go.Proofs.Ythlnibaechobmaa.H
open Go
set_option linter.unusedVariables false
set_option maxRecDepth 100000

/-- What 'All' hands out. -/
def allOf_int (l : List (Int × Int)) : List (Int × Int) := l.zipIdx.map fun p => ((p.2 : Int), p.1.1)
def allEnc_int (x : Int × Int) : List Value := [.int .i64 x.1, .int .i64 x.2]
theorem allOf_int_get (l : List (Int × Int)) (i : Nat) : (allOf_int l)[i]? = (l[i]?).map fun x => ((i : Int), x.1) := by
  simp [allOf_int, List.getElem?_zipIdx]
  cases l[i]? <;> simp
theorem allOf_int_len (l : List (Int × Int)) : (allOf_int l).length = l.length := by simp [allOf_int]
def allF_int (k3 : Nat) : Value := Value.func (.func FN.cell_Row_int_All_1) #[] #[(Value.pointer (some ⟨k3, 0, none⟩))]
/-- What an iteration must see: the row, its slots lying open. -/
def AllG_int (k3 b : Nat) (a : Option Addr) (m c : Nat) (l : List (Int × Int)) (h : Heap) : Prop :=
  h k3 = some (.vec TY.p_cell_Row_int (plains [.pointer (some ⟨b, 0, none⟩)]) 1) ∧ RowP_int h b a m c l

section
variable {B : RO} {h : Heap}
theorem all_wp_int {p : Option Addr} {Q : Value → Heap → Prop} (hQ : ∀ k, h k = none → B k = none → Q (allF_int k) (h.set k (.vec TY.p_cell_Row_int (plains [.pointer p]) 1))) : C_cell_Row_int_All B p h Q := by
  refine C_cell_Row_int_All.of ?_
  unfold S_cell_Row_int_All
  intro k a1 b1 h4 e4
  subst e4
  exact Fin.of (hQ k a1 b1)
theorem SlRow.wk {v : Value} {e : TypeId} {sz : Nat} {xs : List Value} {h' : Heap} (r : SlRow h v e sz xs) (w : Le h h') : SlRow h' v e sz xs := by
  rcases r with e1 | ⟨k, m, c, nn, js, e1, e2, e3⟩
  · exact .inl e1
  · exact .inr ⟨k, m, c, nn, js, e1, w _ _ e2, e3⟩
theorem all_ins_int {k3 b m c : Nat} {a : Option Addr} {l : List (Int × Int)} : Ins (AllG_int k3 b a m c l) := by
  rintro h k o hk ⟨g1, g2, g3⟩
  obtain ⟨t, fs, n, hb, hi⟩ := g2
  exact ⟨Heap.get_new hk g1, ⟨t, fs, n, Heap.get_new hk hb, hi⟩, g3.wk (Le.new hk)⟩
theorem all_iter_int {k3 b m c : Nat} {a : Option Addr} {l : List (Int × Int)} (hlen : l.length ≤ 1000000000) : Iter PG B (allF_int k3) ((allOf_int l).map allEnc_int) (AllG_int k3 b a m c l) := by
  refine ⟨_, _, _, rfl, TG.cell_Row_int_All_1, fun y J X h hy hG h0 hcall => ?_⟩
  have main : C_cell_Row_int_All_1 B y ⟨k3, 0, none⟩ h (fun h' => Fin B h' (fun h'' => J ((allOf_int l).map allEnc_int).length h'' ∨ X h'')) := by
    refine C_cell_Row_int_All_1.of ?_
    unfold S_cell_Row_int_All_1
    obtain ⟨g1, g2⟩ := hG 0 h h0
    refine ⟨_, cellH_vec g1 rfl, fun e => (by cases e), fun _ => ⟨_, cellH_vec g1 rfl, _, rfl, .inl ⟨a, m, c, g2.1.cell, ?_⟩⟩⟩
    refine ⟨fun i m' h' => ∃ j : Nat, j ≤ l.length ∧ i = j ∧ m' = l.length - j ∧ J j h', l.length, Fin.of ⟨0, by omega, rfl, by omega, h0⟩, ?_⟩
    rintro _ _ h13 ⟨j, hj, rfl, rfl, hJ⟩
    obtain ⟨g1, g2⟩ := hG j h13 hJ
    have hm := RowP_int.len g2
    refine ⟨fun hlt => ?_, fun hge => Fin.of ?_⟩
    · have hj' : j < l.length := by omega
      obtain ⟨A, e, q⟩ := RowP_int.at (B := B) g2 j _ (List.getElem?_eq_getElem hj')
      refine ⟨A, e, by omega, hlt, l[j].1, l[j].2, q, fun k23 a23 b23 h24 e24 => ?_⟩
      obtain ⟨g24, l24, -⟩ := Heap.made a23 e24
      refine ⟨_, stores_whole g24 rfl (by simp) (by simp [isOne]) (by simp), ?_⟩
      generalize e25 : h24.set k23 _ = h25
      obtain ⟨g25, -, -⟩ := Heap.put e25
      refine ⟨_, cellH_vec g25 rfl, ?_⟩
      have w : Wk B h13 h25 := by
        rw [← e25, e24, Heap.set_set]; exact Wk.new a23 b23
      have hc := hcall j h13 (allEnc_int ((j : Int), l[j].1)) (by
        rw [List.getElem?_map, allOf_int_get, List.getElem?_eq_getElem hj']; rfl) hJ
      refine CallV.mono ?_ (hc.weaken w)
      rintro v h27 ⟨h28, t1, h29, t2, hor⟩
      rcases hor with ⟨rfl, hJ'⟩ | ⟨rfl, hX⟩
      · refine ⟨true, rfl, fun _ => ⟨h29, t1.trans t2, l.length - (j + 1), by omega, j + 1, by omega, ?_, rfl, hJ'⟩, fun e => by cases e⟩
        rw [w64 (by omega) (by omega)]; omega
      · exact ⟨false, rfl, fun e => (by cases e), fun _ => ⟨h29, t1.trans t2, Fin.of (.inr hX)⟩⟩
    · have : j = l.length := by omega
      subst this
      refine Fin.of (.inl ?_)
      rw [List.length_map, allOf_int_len]
      exact hJ
  exact Spec.mono main fun v h' q => q.2
theorem all_iter_nil_int {k3 : Nat} : Iter PG B (allF_int k3) [] (fun h => h k3 = some (.vec TY.p_cell_Row_int (plains [.pointer none]) 1)) := by
  refine ⟨_, _, _, rfl, TG.cell_Row_int_All_1, fun y J X h hy hG h0 hcall => ?_⟩
  have main : C_cell_Row_int_All_1 B y ⟨k3, 0, none⟩ h (fun h' => Fin B h' (fun h'' => J 0 h'' ∨ X h'')) := by
    refine C_cell_Row_int_All_1.of ?_
    unfold S_cell_Row_int_All_1
    exact ⟨_, cellH_vec (hG 0 h h0) rfl, fun _ => Fin.of (Fin.of (.inl h0)), fun e => absurd rfl e⟩
  exact Spec.mono main fun v h' q => q.2
end
end Go.Proofs.Ythlnibaechobmaa.H
