/- The law CellSets: the walk. No condition. -/
import Derived.Test.YthlnibaechobmaaKn
namespace Go.Proofs.Ythlnibaechobmaa.H
open Go Go.RowKit
set_option linter.unusedVariables false
set_option maxRecDepth 100000

theorem TK.slc_sets : slcB PG TY.s_countermandref08_Set = some (TY.countermandref08_Set, 3, 24) := by kernel_rfl
theorem TK.zero_set : zeroB PG TY.countermandref08_Set = some [.int .i64 0, .int .i64 0, .int .i64 0] := by kernel_rfl
theorem TK.sl_sets : slT PG TY.s_countermandref08_Set = true := by kernel_rfl
theorem slT_facts8 {P : Program} {t : TypeId} (h : slT P t = true) : (P.underlying t).isSome = true ∧ intB P t = none := by
  unfold slT at h
  unfold intB
  split at h
  · rename_i e' hu; rw [hu]; exact ⟨rfl, rfl⟩
  · cases h
theorem max08 (n : Int) : (if (0 : Int) > n then (0 : Int) else n) = max n 0 := by split <;> omega
/-- The five blocks are five, and new. -/
structure D8 (h0 : Heap) (k8 k17 k18 k20 k22 : Nat) : Prop where
  a : k17 ≠ k8
  b : k18 ≠ k8
  c : k20 ≠ k8
  d : k22 ≠ k8
  e : k18 ≠ k17
  f : k20 ≠ k17
  g : k22 ≠ k17
  i : k20 ≠ k18
  j : k22 ≠ k18
  k : k22 ≠ k20
  z8 : h0 k8 = none
  z17 : h0 k17 = none
  z18 : h0 k18 = none
  z20 : h0 k20 = none
  z22 : h0 k22 = none

section
variable {B : RO} {h0 h : Heap}
/-- The loop over the sets keeps what holds. -/
theorem CellSets_J1 {n first : Int} {a : Option Addr} {c : Nat} {list : List SetR} {other : Int} {k8 : Nat} {Q : Bool → Heap → Prop} (hn : n ≤ 64) (z8 : h0 k8 = none) (b8 : B k8 = none) (h8 : h k8 = some (.vec TY.bool (plains [.bool false]) 1)) (le : Le h0 h) (nw : NewOver B h0 h)
    (hr : Reads B h0 a 3 SetR.cells list) (hlen : list.length ≤ 100) (hQ : Q true h0)
    (hJ2 : ∀ k17 k18 k20 k22 l sets h', D8 h0 k8 k17 k18 k20 k22 → CS B h0 k8 k17 k18 k20 k22 n first l sets h' → sets.length ≤ 100 → Same08 n first l sets → S_countermandlaw08_CellSets_J2 B other k8 k20 k22 h' Q) :
    S_countermandlaw08_CellSets_J1 B n first a list.length c other k8 h Q := by
  unfold S_countermandlaw08_CellSets_J1
  refine new_wp_int (by omega) fun k17 a17 b17 => ?_
  generalize e16 : h.set k17 _ = h16
  obtain ⟨g16, l16, f16⟩ := Heap.made a17 e16.symm
  intro k18 a18 b18 h19 e19 k20 a20 b20 h21 e21 k22 a22 b22 h23 e23
  obtain ⟨g19, l19, f19⟩ := Heap.made a18 e19
  obtain ⟨g21, l21, f21⟩ := Heap.made a20 e21
  obtain ⟨g23, l23, f23⟩ := Heap.made a22 e23
  have x8 := (f16 _ _ h8).2
  have y8 := (f19 _ _ x8).2
  have w8 := (f21 _ _ y8).2
  have v8 := f23 _ _ w8
  have y17 := f19 _ _ g16
  have w17 := f21 _ _ y17.2
  have v17 := f23 _ _ w17.2
  have w18 := f21 _ _ g19
  have v18 := f23 _ _ w18.2
  have v20 := f23 _ _ g21
  have d : D8 h0 k8 k17 k18 k20 k22 :=
    ⟨(f16 _ _ h8).1, (f19 _ _ x8).1, (f21 _ _ y8).1, v8.1, y17.1, w17.1, v17.1, w18.1, v18.1, v20.1, z8, le.none a17, (le.trans l16).none a18, (le.trans (l16.trans l19)).none a20, (le.trans (l16.trans (l19.trans l21))).none a22⟩
  refine ⟨_, storeH_vec v20.2 rfl, _, storeH_vec (Heap.get_set d.k g23) rfl, ?_⟩
  generalize eH : (h23.set k20 _).set k22 _ = hH
  have keep : ∀ {k : Nat} {o : AObj}, k ≠ k20 → k ≠ k22 → h23 k = some o → hH k = some o := fun n1 n2 e => by rw [← eH]; exact Heap.get_set n2 (Heap.get_set n1 e)
  have hk18 := keep (Ne.symm d.i) (Ne.symm d.j) v18.2
  have cl : Ent B hH (hH.set k18 (ans8 (max n 0) first [])) := by
    have := Ent.close_nil (B := B) (e := TY.countermandref08_Set) (sz := 3) (i := 2) hk18 rfl
    rw [max08] at this
    exact this
  have cs0 : CS B h0 k8 k17 k18 k20 k22 n first (List.replicate n.toNat (first, 0)) [] (hH.set k18 (ans8 (max n 0) first [])) := by
    refine ⟨?_, ?_, ⟨false, _, _, _, Heap.get_set (Ne.symm d.b) (keep (Ne.symm d.c) (Ne.symm d.d) v8.2), rfl⟩, Heap.get_set (Ne.symm d.e) (keep (Ne.symm d.f) (Ne.symm d.g) v17.2), Heap.set_same _ _ _, ⟨_, _, _, Heap.get_set d.i (by rw [← eH]; exact Heap.get_set (Ne.symm d.k) (Heap.set_same _ _ _)), rfl⟩, ⟨_, _, _, Heap.get_set d.j (by rw [← eH]; exact Heap.set_same _ _ _), rfl⟩⟩
    · rw [← eH]
      exact (((le.trans (l16.trans (l19.trans (l21.trans l23)))).set d.z20).set d.z22).set d.z18
    · rw [← eH]
      refine NewOver.set (NewOver.set (NewOver.set ?_ b20) b22) b18
      rw [e23, e21, e19, ← e16]
      exact (((nw.set b17).set b18).set b20).set b22
  refine ⟨fun i m h' => ∃ (j : Nat) (l : List (Int × Int)) (sets : List SetR), j ≤ list.length ∧ i = j ∧ m = list.length - j ∧ sets.length ≤ j ∧ Same08 n first l sets ∧ CS B h0 k8 k17 k18 k20 k22 n first l sets h', list.length, Fin.ent cl (Fin.of ⟨0, _, _, by omega, rfl, by omega, by simp, Same08.init n first, cs0⟩), ?_⟩
  rintro _ _ h183 ⟨j, l, sets, hj, rfl, rfl, hsl, sm, cs⟩
  refine ⟨fun hlt => ?_, fun hge => Fin.of (hJ2 _ _ _ _ _ _ _ d cs (by omega) sm)⟩
  have hj' : j < list.length := by omega
  have hw : IntKind.wrap .i64 ((j : Int) + 1) = ((j + 1 : Nat) : Int) := by rw [w64 (by omega) (by omega)]; omega
  obtain ⟨A, e1, e3, e4⟩ := (hr.over cs.le cs.nw) j list[j] (List.getElem?_eq_getElem hj')
  refine ⟨A, e1, by omega, hlt, list[j].i, list[j].value, list[j].version, (by simpa [SetR.cells] using e4), fun k194 a194 b194 h195 e195 => ?_⟩
  obtain ⟨g195, -, -⟩ := Heap.made a194 e195
  refine ⟨_, stores_whole g195 rfl (by simp) (by simp [isOne]) (by simp), ?_⟩
  generalize e196 : h195.set k194 _ = h196
  obtain ⟨g196, -, -⟩ := Heap.put e196
  have w : Wk B h183 h196 := by rw [← e196, e195, Heap.set_set]; exact Wk.new a194 b194
  have cs' := cs.wk w
  have hl := sm.1
  refine ⟨_, cs'.p22.cell, _, cellH_vec g196 rfl, ref08_is_wp cs'.an ⟨fun hT => ?_, fun hF => ?_⟩⟩
  · rw [decide_eq_true_eq] at hT
    refine ⟨_, cs'.p20.cell, _, cellH_vec g196 rfl, _, cellH_vec g196 rfl, _, cellH_vec g196 rfl, ?_⟩
    refine Spec.open (i := 2) cs'.ans rfl fun v h1 ho => ?_
    obtain ⟨a225, n226, c227, rfl⟩ := ho.slice
    have sh := FV.opened cs'.ans rfl ho
    have oth : ∀ {k i : Nat} {v : Value}, k ≠ k18 → PF h196 k i v → PF h1 k i v := fun ne ⟨t, fs, n, hb, hi⟩ => ⟨t, fs, n, sh.2.2.1 _ _ ne hb, hi⟩
    have r1 : h1 k17 = some (rowO_int l) := sh.2.2.1 _ _ (Ne.symm d.e) cs'.r
    have n18 : k194 ≠ k18 := by
      obtain ⟨t, fs, n', hb, hi⟩ := cs.an
      exact Heap.ne_of a194 hb
    have n17 : k194 ≠ k17 := Heap.ne_of a194 cs.r
    have n22 : k194 ≠ k22 := by
      obtain ⟨t, fs, n', hb, hi⟩ := cs.p22
      exact Heap.ne_of a194 hb
    have g1 := sh.2.2.1 _ _ n18 g196
    have le1 : Le h0 h1 := fun k o hk => by
      by_cases hkk : k = k18
      · rw [hkk, d.z18] at hk; cases hk
      · exact sh.2.2.1 _ _ hkk (cs'.le _ _ hk)
    refine set_wp_int r1 (fun _ _ => ⟨fun _ => ?_, fun hn => absurd rfl hn⟩) (fun hn => absurd (show 0 ≤ list[j].i ∧ list[j].i < (l.length : Int) by omega) hn)
    have sm' := sm.set list[j] hT.1 hT.2
    generalize e214 : h1.set k17 _ = h214
    obtain ⟨g214, f214, -⟩ := Heap.put e214
    have k214 : ∀ {k i : Nat} {v : Value}, k ≠ k17 → PF h1 k i v → PF h214 k i v := fun ne p => p.keep (f214 _ ne)
    have q22 := k214 d.g (oth d.j cs'.p22)
    have g194 : h214 k194 = _ := (f214 _ n17).trans g1
    have row214 : SlRow h214 (.slice a225 n226 c227) TY.countermandref08_Set 3 (sets.flatMap SetR.cells) := by
      rcases sh.1.2 with e | ⟨k, m, c', nn, js, x1, x2, x3⟩
      · exact .inl e
      · refine .inr ⟨k, m, c', nn, js, x1, ?_, x3⟩
        rw [f214 _ (fun e => by rw [e, r1] at x2; cases x2)]; exact x2
    refine ⟨_, q22.cell, _, q22.cell, _, rfl, a225, n226, c227, (k214 d.e sh.1.1).cell, _, _, _, ⟨cellH_vec g194 rfl, cellH_vec g194 rfl, cellH_vec g194 rfl, trivial⟩, fun k233 a233 b233 h234 e234 => ?_⟩
    obtain ⟨g234, l234, f234⟩ := Heap.made a233 e234
    have w2 : Wk B h214 h234 := by rw [e234]; exact Wk.new a233 b233
    have row234 := row214.wk l234
    have hfl := flatMap_length SetR.cells_len sets
    have c3 : CellsAt B h214 ⟨k194, 0, none⟩ 0 list[j].cells := ⟨cellH_vec g194 rfl, cellH_vec g194 rfl, cellH_vec g194 rfl, trivial⟩
    have tf := slT_facts8 TK.sl_sets
    refine ⟨w2.cell q22.cell, w2.cell q22.cell, w2.cell (k214 d.e sh.1.1).cell, w2.cells c3, ?_⟩
    refine semH_append (n := 1) (ys := list[j].cells) TK.slc_sets TK.zero_set rfl (by omega) (by omega) tf.1 tf.2 row234 ⟨rfl, by simp [SetR.cells, isOne], .inl ⟨_, _, rfl, cellH_vec g234 rfl, cellH_vec g234 rfl, cellH_vec g234 rfl, trivial⟩⟩ (by rw [hfl, SetR.cells_len]; omega) ?_
    intro v h239 ap
    obtain ⟨a', n', c', rfl⟩ := ap.slice row234
    refine ⟨a', n', c', rfl, ?_⟩
    have nk : ∀ {X : Nat} {o : AObj}, h196 X = some o → ∀ k m cc, Value.slice a225 n226 c227 = .slice (some ⟨k, 0, none⟩) m cc → X ≠ k := fun hX k m cc e e2 => by
      have := (ho.new k m cc e).1
      rw [← e2, hX] at this; cases this
    have up : ∀ {X : Nat} {o : AObj}, X ≠ k18 → X ≠ k17 → h196 X = some o → h239 X = some o := fun n1 n2 hX => ap.get (l234 _ _ ((f214 _ n2).trans (sh.2.2.1 _ _ n1 hX))) (nk hX)
    have u17 : h239 k17 = some (rowO_int (l.set list[j].i.toNat (list[j].value, list[j].version))) := ap.get (l234 _ _ g214) (nk cs'.r)
    have u18 := ap.get (l234 _ _ ((f214 _ d.e).trans ho.blk)) (nk cs'.ans)
    have uPF : ∀ {X i : Nat} {v : Value}, X ≠ k18 → X ≠ k17 → PF h196 X i v → PF h239 X i v := fun n1 n2 ⟨t, fs, n, hb, hi⟩ => ⟨t, fs, n, up n1 n2 hb, hi⟩
    have u194 := up n18 n17 g196
    refine ⟨(uPF d.j d.g cs'.p22).cell, (uPF d.j d.g cs'.p22).cell, cellH_vec u18 rfl, ⟨cellH_vec u194 rfl, cellH_vec u194 rfl, cellH_vec u194 rfl, trivial⟩, _, rfl, _, storeH_vec u18 rfl, ?_⟩
    have row239 := ap.row row234
    have hnew : ∀ k m c, Value.slice a' n' c' = .slice (some ⟨k, 0, none⟩) m c → (h196.set k17 (rowO_int (l.set list[j].i.toNat (list[j].value, list[j].version)))) k = none ∧ k ≠ k18 := by
      intro k m c e
      have old : h196 k = none → k ≠ k17 → (h196.set k17 (rowO_int (l.set list[j].i.toNat (list[j].value, list[j].version)))) k = none := fun x y => Heap.get_set y x
      have fresh : h196 k = none → k ≠ k17 ∧ k ≠ k18 := fun x => ⟨(fun y => by rw [y, cs'.r] at x; cases x), (fun y => by rw [y, cs'.ans] at x; cases x)⟩
      have key : h196 k = none := by
        rcases ap with ⟨e1, _⟩ | ⟨k', m', n'', c'', nn, js, _, e1, _, _, _, _, _, e2⟩
        · cases e1
        · rw [e1] at e; cases e
          rcases e2 with ⟨e2, _⟩ | ⟨e2, _⟩
          · exact (ho.new _ _ _ e2).1
          · cases hx : h196 k with
            | none => rfl
            | some o =>
              by_cases x18 : k = k18
              · rw [x18, l234 _ _ ((f214 _ d.e).trans ho.blk)] at e2; cases e2
              · by_cases x17 : k = k17
                · rw [x17, l234 _ _ g214] at e2; cases e2
                · rw [l234 _ _ ((f214 _ x17).trans (sh.2.2.1 _ _ x18 hx))] at e2; cases e2
      exact ⟨old key (fresh key).1, (fresh key).2⟩
    have hcl := Ent.close_row (B := B) (h0 := h196.set k17 (rowO_int (l.set list[j].i.toNat (list[j].value, list[j].version)))) (b := k18) (n := 3) (i := 2) (e := TY.countermandref08_Set) (sz := 3) (v := .slice a' n' c') (xs := sets.flatMap SetR.cells ++ list[j].cells)
      (h := h239.set k18 (.vec TY.countermandref08_Row (([.plain (.int .i64 (max n 0)), .plain (.int .i64 first), .own TY.countermandref08_Set 3 (sets.flatMap SetR.cells)].set 2 (.plain (.slice a225 n226 c227))).set 2 (.plain (.slice a' n' c'))) 3))
      (fun c o hc hh => by
        rw [Heap.set_ne _ _ _ _ hc]
        by_cases x17 : c = k17
        · rw [x17, Heap.set_same] at hh; rw [x17, u17]; exact hh
        · rw [Heap.set_ne _ _ _ _ x17] at hh; exact up hc x17 hh)
      (Heap.set_same _ _ _) rfl
      (by
        rcases row239 with x | ⟨k, m, c, nn, js, x1, x2, x3⟩
        · exact .inl x
        · refine .inr ⟨k, m, c, nn, js, x1, ?_, x3⟩
          rw [Heap.set_ne _ _ _ _ (hnew k m c x1).2]; exact x2)
      hnew
    refine Fin.ent hcl (Fin.of ⟨list.length - (j + 1), by omega, j + 1, _, sets ++ [list[j]], by omega, hw, rfl, by simp; omega, sm', ?_⟩)
    have efl : (sets ++ [list[j]]).flatMap SetR.cells = sets.flatMap SetR.cells ++ list[j].cells := by rw [List.flatMap_append, List.flatMap_cons, List.flatMap_nil, List.append_nil]
    refine ⟨(cs'.le.set d.z17).set d.z18, (cs'.nw.set b17).set b18, ?_, Heap.get_set (Ne.symm d.e) (Heap.set_same _ _ _), ?_, ?_, ?_⟩
    · obtain ⟨b, p⟩ := cs'.p8
      exact ⟨b, p.keep (Heap.get_set (Ne.symm d.b) (Heap.set_ne _ _ _ _ (Ne.symm d.a)))⟩
    · rw [Heap.set_same, ans8, efl]; rfl
    · exact cs'.p20.keep (Heap.get_set d.i (Heap.set_ne _ _ _ _ d.f))
    · exact cs'.p22.keep (Heap.get_set d.j (Heap.set_ne _ _ _ _ d.g))
  · rw [decide_eq_false_iff_not] at hF
    refine ⟨_, cs'.p20.cell, _, cellH_vec g196 rfl, _, cellH_vec g196 rfl, _, cellH_vec g196 rfl, set_wp_int cs'.r (fun x y => absurd (show 0 ≤ list[j].i ∧ list[j].i < max n 0 by omega) hF) (fun _ => ⟨fun _ => Fin.of ⟨list.length - (j + 1), by omega, j + 1, l, sets, by omega, hw, rfl, by omega, sm, cs'⟩, fun hn => absurd rfl hn⟩)⟩
end
end Go.Proofs.Ythlnibaechobmaa.H
