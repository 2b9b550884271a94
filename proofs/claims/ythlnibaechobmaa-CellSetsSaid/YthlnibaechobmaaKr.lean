/- The law CellSets: its end, and the whole. No condition. -/
import Derived.Test.YthlnibaechobmaaKq
namespace Go.Proofs.Ythlnibaechobmaa.H
open Go Go.RowKit
set_option linter.unusedVariables false
set_option maxRecDepth 100000

section
variable {B : RO} {h0 h : Heap} {k8 k17 k18 k20 k22 k38 k40 k3 : Nat} {n first : Int} {l : List (Int × Int)} {sets : List SetR} {Q : Bool → Heap → Prop}
theorem RowP_int.le {b m c : Nat} {a : Option Addr} {h' : Heap} (r : RowP_int h b a m c l) (w : Le h h') : RowP_int h' b a m c l := by
  obtain ⟨⟨t, fs, n, hb, hi⟩, hr⟩ := r
  exact ⟨⟨t, fs, n, w _ _ hb, hi⟩, hr.wk w⟩
theorem CI.wk {a : Option Addr} {m c q : Nat} {h' : Heap} (s : CI B h0 k8 k17 k18 k20 k22 k38 k40 k3 n first l sets a m c q h) (w : Le h h') : CI B h0 k8 k17 k18 k20 k22 k38 k40 k3 n first l sets a m c q h' :=
  ⟨s.le.trans w, s.p8.imp fun _ p => p.le w, s.r.le w, s.an.le w, s.af.le w, s.aset.le w, s.p20.le w, s.p22.le w, w _ _ s.p3, w _ _ s.c38, w _ _ s.c40⟩
theorem CellSets_J5 {a : Option Addr} {m c : Nat} (s : CI B h0 k8 k17 k18 k20 k22 k38 k40 k3 n first l sets a m c l.length h) (hl : ((l.length : Nat) : Int) = max n 0) (hb : l.length ≤ 64) (z8 : h0 k8 = none) (hQ : Q true h0) :
    S_countermandlaw08_CellSets_J5 B k8 k20 k22 k38 k40 0 0 h Q := by
  unfold S_countermandlaw08_CellSets_J5
  have e0 : ((IntKind.wrap .i64 ((IntKind.wrap .i64 ((IntKind.wrap .i64 ((IntKind.wrap .i64 ((0) + (0))) + (0))) + (0))) + (0)) : Int) = 0) := by decide
  obtain ⟨b, p8⟩ := s.p8
  have c40 := s.c40
  rw [List.take_length] at c40
  have a1 := cellH_vec (B := B) s.c38 (i := 0) rfl
  have a2 := s.p22.cell (B := B)
  have a3 := s.an.cell (B := B)
  have a4 := s.p20.cell (B := B)
  have a5 := cellH_vec (B := B) c40 (i := 0) rfl
  refine ⟨_, a1, _, a2, _, rfl, _, a3, fun _ => ⟨_, a4, _, a5, newest_wp_int (by omega) (RowP_int.v s.r) ⟨a1, a2, a3, a4, a5, fun _ => ?_, fun hne => absurd rfl hne⟩⟩, fun hne => absurd hl hne⟩
  refine version_nil_int ⟨a1, a2, a3, a4, a5, len_nil_int ⟨a1, a2, a3, a4, a5, newest_nil_int ⟨a1, a2, a3, a4, a5, fun _ => ?_, fun hne => absurd e0 hne⟩⟩⟩
  refine set_nil_int ⟨a1, a2, a3, a4, a5, ?_⟩
  exact ret8 p8 s.le z8 hQ
theorem CellSets_J4 {a : Option Addr} {m c : Nat} (s : CI B h0 k8 k17 k18 k20 k22 k38 k40 k3 n first l sets a m c l.length h) (hl : ((l.length : Nat) : Int) = max n 0) (hb : l.length ≤ 64) (z8 : h0 k8 = none) (hQ : Q true h0) :
    S_countermandlaw08_CellSets_J4 B k8 k20 k22 k38 k40 h Q := by
  unfold S_countermandlaw08_CellSets_J4
  refine get_nil_int (all_wp_int fun k a1 b1 => ?_)
  have it := all_iter_nil_int (B := B) (k3 := k)
  refine ⟨[], _, fun q h' => CI B h0 k8 k17 k18 k20 k22 k38 k40 k3 n first l sets a m c l.length h' ∧ h' k = some (.vec TY.p_cell_Row_int (plains [.pointer none]) 1), it, Ins.blk, fun _ _ x => x.2, Fin.of ⟨s.wk (Le.new a1), Heap.set_same _ _ _⟩, ?_, ?_⟩
  · intro q h' i1 i2 e
    cases e
  · intro h' x
    exact Fin.of (CellSets_J5 x.1 hl hb z8 hQ)
theorem CellSets_wp {a : Option Addr} {c : Nat} {list : List SetR} {other : Int} (hr : Reads B h a 3 SetR.cells list) (hQ : Q true h) : C_countermandlaw08_CellSets B n first a list.length c other h Q := by
  refine C_countermandlaw08_CellSets.of ?_
  unfold S_countermandlaw08_CellSets
  intro k8 a8 b8 h9 e9
  obtain ⟨g9, l9, f9⟩ := Heap.made a8 e9
  have p8 : PF h9 k8 0 (.bool false) := ⟨_, _, _, g9, rfl⟩
  refine alive08_wp ⟨fun _ => ⟨fun _ => ret8 p8 l9 a8 hQ, fun h1 => ⟨fun _ => ret8 p8 l9 a8 hQ, fun h2 => Fin.of ?_⟩⟩, fun e => by cases e⟩
  have hlen : list.length ≤ 100 := by omega
  have nw : NewOver B h h9 := by rw [e9]; exact (NewOver.refl B h).set b8
  refine CellSets_J1 (by omega) a8 b8 g9 l9 nw hr hlen hQ fun k17 k18 k20 k22 l sets h' d cs hs sm => ?_
  have hl : ((l.length : Nat) : Int) = max n 0 := by rw [sm.1]; omega
  exact CellSets_J2 cs hs (by omega) sm (CellSets_J3 d cs hs (by omega) sm hQ fun k38 k40 k3 a m c h' ci => CellSets_J4 ci hl (by omega) a8 hQ)
end
theorem CellSets_calls {H : Type} {enc : TypeId × Value → H} (W : World) (n : Int) (wn : (Lit.int .i64 n).wf = true) (first : Int) (wf : (Lit.int .i64 first).wf = true) {a : Option Addr} {len cap : Nat} {d : DataW H} {p : List MemPlace} (k : DataW.Trod enc PG W 0 (fun _ => true) true TY.s_countermandref08_Set (.slice a len cap) d p) (other : Int) (wo : (Lit.int .i64 other).wf = true) :
    Calls PG FN.countermandlaw08_CellSets #[.int .i64 n, .int .i64 first, .slice a len cap, .int .i64 other] W fun e w' => e = .returned (.bool true) ∧ Below W.heap.size W w' := by
  obtain ⟨l, rfl, hr, hok⟩ := SetR_arg k
  refine Spec.calls (Spec.mono (CellSets_wp (Q := fun b _ => b = true) hr rfl) ?_)
  rintro v h' ⟨b, rfl, rfl⟩
  rfl
end Go.Proofs.Ythlnibaechobmaa.H
