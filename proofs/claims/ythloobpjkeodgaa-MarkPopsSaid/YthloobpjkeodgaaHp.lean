/- The heap logic, part 16: the blocks of a function's own, kept in a list and found by their places. No condition. -/
import Derived.Test.YthloobpjkeodgaaHo
namespace Go.Proofs.Ythloobpjkeodgaa.H
open Go
set_option linter.unusedVariables false

section
variable {P : Program} {B : RO} {h0 h h' : Heap} {L : List (Option (Nat × AObj))}
/-- All of h0 is there, and these blocks of one's own, each another one. -/
structure Keep (B : RO) (h0 : Heap) (L : List (Option (Nat × AObj))) (h : Heap) : Prop where
  le : Le h0 h
  nw : NewOver B h0 h
  z : ∀ (i k : Nat) (o : AObj), L[i]? = some (some (k, o)) → h0 k = none ∧ B k = none
  get : ∀ (i k : Nat) (o : AObj), L[i]? = some (some (k, o)) → h k = some o
  nd : ∀ (i j k : Nat) (o o' : AObj), L[i]? = some (some (k, o)) → L[j]? = some (some (k, o')) → i = j
theorem Keep.nil (B : RO) (h : Heap) : Keep B h [] h := ⟨Le.refl h, NewOver.refl B h, fun i k o e => by simp at e, fun i k o e => by simp at e, fun i j k o o' e => by simp at e⟩
theorem Keep.of (w : Wk B h0 h) : Keep B h0 [] h := ⟨w.1, w.2, fun i k o e => by simp at e, fun i k o e => by simp at e, fun i j k o o' e => by simp at e⟩
theorem Keep.at (E : Keep B h0 L h) (i : Nat) {k : Nat} {o : AObj} (hi : L[i]? = some (some (k, o))) : h k = some o := E.get i k o hi
theorem Keep.zero (E : Keep B h0 L h) (i : Nat) {k : Nat} {o : AObj} (hi : L[i]? = some (some (k, o))) : h0 k = none := (E.z i k o hi).1
theorem Keep.ro (E : Keep B h0 L h) (i : Nat) {k : Nat} {o : AObj} (hi : L[i]? = some (some (k, o))) : B k = none := (E.z i k o hi).2
theorem Keep.back (E : Keep B h0 L h) : Ent B h h0 := Ent.forget E.le
theorem Keep.wk (E : Keep B h0 L h) (w : Wk B h h') : Keep B h0 L h' := ⟨E.le.trans w.1, E.nw.trans w.2, E.z, fun i k o e => w.1 _ _ (E.get i k o e), E.nd⟩
theorem Keep.w (E : Keep B h0 L h) : Wk B h0 h := ⟨E.le, E.nw⟩
theorem Keep.ne (E : Keep B h0 L h) (i j : Nat) {k k' : Nat} {o o' : AObj} (hi : L[i]? = some (some (k, o))) (hj : L[j]? = some (some (k', o'))) (hn : i ≠ j) : k ≠ k' := fun e => by
  subst e; exact hn (E.nd i j k o o' hi hj)
theorem Keep.more (E : Keep B h0 L h) {k : Nat} {o : AObj} (hk : h k = some o) (z : h0 k = none ∧ B k = none) (hn : ∀ (i : Nat) (o' : AObj), L[i]? ≠ some (some (k, o'))) : Keep B h0 (L ++ [some (k, o)]) h := by
  have key : ∀ (i k' : Nat) (o' : AObj), (L ++ [some (k, o)])[i]? = some (some (k', o')) → L[i]? = some (some (k', o')) ∨ (i = L.length ∧ k' = k ∧ o' = o) := fun i k' o' e => by
    rw [List.getElem?_append] at e
    split at e
    · exact .inl e
    · rename_i hl
      right
      have hi : i - L.length = 0 := by
        cases hd : i - L.length with
        | zero => rfl
        | succ d => rw [hd] at e; simp at e
      rw [hi] at e
      simp at e
      exact ⟨by omega, e.1.symm, e.2.symm⟩
  refine ⟨E.le, E.nw, fun i k' o' e => ?_, fun i k' o' e => ?_, fun i j k' o1 o2 e1 e2 => ?_⟩
  · rcases key _ _ _ e with e | ⟨_, rfl, rfl⟩
    · exact E.z _ _ _ e
    · exact z
  · rcases key _ _ _ e with e | ⟨_, rfl, rfl⟩
    · exact E.get _ _ _ e
    · exact hk
  · rcases key _ _ _ e1 with f1 | ⟨a1, b1, c1⟩
    · rcases key _ _ _ e2 with f2 | ⟨a2, b2, c2⟩
      · exact E.nd _ _ _ _ _ f1 f2
      · rw [b2] at f1; exact absurd f1 (hn _ _)
    · rcases key _ _ _ e2 with f2 | ⟨a2, b2, c2⟩
      · rw [b1] at f2; exact absurd f2 (hn _ _)
      · omega
theorem Keep.new (E : Keep B h0 L h) {k : Nat} {o : AObj} (hk : h k = none) (hb : B k = none) : Keep B h0 (L ++ [some (k, o)]) (h.set k o) :=
  (E.wk (Wk.new hk hb)).more (Heap.set_same _ _ _) ⟨E.le.none hk, hb⟩ fun i o' e => by rw [E.get i k o' e] at hk; cases hk
theorem Keep.made (E : Keep B h0 L h) {k : Nat} {o : AObj} (hk : h k = none) (hb : B k = none) (e : h' = h.set k o) : Keep B h0 (L ++ [some (k, o)]) h' := e ▸ E.new hk hb
theorem Keep.gap (E : Keep B h0 L h) : Keep B h0 (L ++ [none]) h := by
  have key : ∀ (i : Nat) (x : Nat × AObj), (L ++ [none])[i]? = some (some x) → L[i]? = some (some x) := fun i x e => by
    rw [List.getElem?_append] at e
    split at e
    · exact e
    · rename_i hl
      cases hd : i - L.length with
      | zero => rw [hd] at e; simp at e
      | succ d => rw [hd] at e; simp at e
  exact ⟨E.le, E.nw, fun i k o e => E.z i k o (key _ _ e), fun i k o e => E.get i k o (key _ _ e), fun i j k o o' e1 e2 => E.nd i j k o o' (key _ _ e1) (key _ _ e2)⟩
theorem Keep.sub {L' : List (Option (Nat × AObj))} (E : Keep B h0 L h) (hs : ∀ (i : Nat) (x : Nat × AObj), L'[i]? = some (some x) → L[i]? = some (some x)) : Keep B h0 L' h :=
  ⟨E.le, E.nw, fun i k o e => E.z i k o (hs _ _ e), fun i k o e => E.get i k o (hs _ _ e), fun i j k o o' e1 e2 => E.nd i j k o o' (hs _ _ e1) (hs _ _ e2)⟩
theorem Keep.take (E : Keep B h0 L h) (n : Nat) : Keep B h0 (L.take n) h := E.sub fun i x e => by
  rw [List.getElem?_take] at e
  split at e
  · exact e
  · cases e
/-- One place is changed: its block has another object, or the place is given to another block that is new. -/
theorem Keep.turn (E : Keep B h0 L h) {i k : Nat} {o' : AObj} (hk : (∃ o, L[i]? = some (some (k, o))) ∨ (h k = none ∧ B k = none)) : Keep B h0 (L.set i (some (k, o'))) (h.set k o') := by
  have key : ∀ (j k' : Nat) (o1 : AObj), (L.set i (some (k, o')))[j]? = some (some (k', o1)) → (j = i ∧ k' = k ∧ o1 = o') ∨ (j ≠ i ∧ L[j]? = some (some (k', o1))) := fun j k' o1 e => by
    by_cases hj : i = j
    · rw [List.getElem?_set] at e
      rw [if_pos hj] at e
      split at e
      · simp only [Option.some.injEq, Prod.mk.injEq] at e
        exact .inl ⟨hj.symm, e.1.symm, e.2.symm⟩
      · cases e
    · rw [List.getElem?_set_ne hj] at e
      exact .inr ⟨Ne.symm hj, e⟩
  have zk : h0 k = none ∧ B k = none := by
    rcases hk with ⟨o, e⟩ | ⟨e1, e2⟩
    · exact E.z _ _ _ e
    · exact ⟨E.le.none e1, e2⟩
  have other : ∀ (j k' : Nat) (o1 : AObj), j ≠ i → L[j]? = some (some (k', o1)) → k' ≠ k := fun j k' o1 hj e e2 => by
    subst e2
    rcases hk with ⟨o, e3⟩ | ⟨e3, _⟩
    · exact hj (E.nd _ _ _ _ _ e e3)
    · rw [E.get _ _ _ e] at e3; cases e3
  refine ⟨E.le.set zk.1, E.nw.set zk.2, fun j k' o1 e => ?_, fun j k' o1 e => ?_, fun j1 j2 k' o1 o2 e1 e2 => ?_⟩
  · rcases key _ _ _ e with ⟨_, rfl, rfl⟩ | ⟨_, e⟩
    · exact zk
    · exact E.z _ _ _ e
  · rcases key _ _ _ e with ⟨_, rfl, rfl⟩ | ⟨hj, e⟩
    · exact Heap.set_same _ _ _
    · rw [Heap.set_ne _ _ _ _ (other _ _ _ hj e)]; exact E.get _ _ _ e
  · rcases key _ _ _ e1 with ⟨a1, b1, c1⟩ | ⟨a1, e1⟩
    · rcases key _ _ _ e2 with ⟨a2, _, _⟩ | ⟨a2, e2⟩
      · omega
      · exact absurd b1 (other _ _ _ a2 e2)
    · rcases key _ _ _ e2 with ⟨a2, b2, c2⟩ | ⟨a2, e2⟩
      · exact absurd b2 (other _ _ _ a1 e1)
      · exact E.nd _ _ _ _ _ e1 e2
theorem Keep.put (E : Keep B h0 L h) (i : Nat) {k : Nat} {o o' : AObj} (hi : L[i]? = some (some (k, o))) : Keep B h0 (L.set i (some (k, o'))) (h.set k o') := E.turn (.inl ⟨o, hi⟩)
theorem Keep.lose (E : Keep B h0 L h) (i : Nat) : Keep B h0 (L.set i none) h := E.sub fun j x e => by
  by_cases hj : i = j
  · rw [List.getElem?_set, if_pos hj] at e
    split at e
    · cases e
    · cases e
  · rw [List.getElem?_set_ne hj] at e; exact e
theorem Keep.cell (E : Keep B h0 L h) (i : Nat) {k j n : Nat} {t : TypeId} {fs : List Fld} {v : Value} (hi : L[i]? = some (some (k, .vec t fs n))) (hj : fs[j]? = some (.plain v)) : cellH B h ⟨k, j, none⟩ = some v := cellH_vec (E.at i hi) hj
theorem Keep.pf (E : Keep B h0 L h) (i : Nat) {k j n : Nat} {t : TypeId} {fs : List Fld} {v : Value} (hi : L[i]? = some (some (k, .vec t fs n))) (hj : fs[j]? = some (.plain v)) : PF h k j v := ⟨_, _, _, E.at i hi, hj⟩
theorem Keep.own (E : Keep B h0 L h) (i : Nat) {k j n sz : Nat} {t e : TypeId} {fs : List Fld} {xs : List Value} (hi : L[i]? = some (some (k, .vec t fs n))) (hj : fs[j]? = some (.own e sz xs)) : FV h k j e sz xs := .inl ⟨_, _, _, E.at i hi, hj⟩
theorem Keep.store (E : Keep B h0 L h) (i j : Nat) (v : Value) {k n : Nat} {t : TypeId} {fs : List Fld} {u : Value} (hi : L[i]? = some (some (k, .vec t fs n))) (hj : fs[j]? = some (.plain u)) :
    storeH h ⟨k, j, none⟩ v = some (h.set k (.vec t (fs.set j (.plain v)) n)) ∧ Keep B h0 (L.set i (some (k, .vec t (fs.set j (.plain v)) n))) (h.set k (.vec t (fs.set j (.plain v)) n)) :=
  ⟨storeH_vec (E.at i hi) hj, E.put i hi⟩

/-- A slice of one's own, and the block in which it lies. -/
def Row (r : Option (Nat × AObj)) (v : Value) (e : TypeId) (sz : Nat) (xs : List Value) : Prop :=
  (r = none ∧ v = .slice none 0 0 ∧ xs = []) ∨
  ∃ k m c nn js, r = some (k, .vec e (plains (xs ++ js)) nn) ∧ v = .slice (some ⟨k, 0, none⟩) m c ∧ m * sz = xs.length ∧ m ≤ c ∧ c * sz ≤ nn
variable {r : Option (Nat × AObj)} {v v' : Value} {e : TypeId} {sz : Nat} {xs ys : List Value}
theorem Row.nil (e : TypeId) (sz : Nat) : Row none (.slice none 0 0) e sz [] := .inl ⟨rfl, rfl, rfl⟩
theorem Row.slice (R : Row r v e sz xs) : ∃ a m c, v = .slice a m c := by
  rcases R with ⟨_, rfl, _⟩ | ⟨k, m, c, nn, js, _, rfl, _⟩ <;> exact ⟨_, _, _, rfl⟩
theorem Row.in (R : Row r v e sz xs) (hr : ∀ k o, r = some (k, o) → h k = some o) : SlRow h v e sz xs := by
  rcases R with ⟨_, rfl, rfl⟩ | ⟨k, m, c, nn, js, rfl, rfl, h3, h4, h5⟩
  · exact .inl ⟨rfl, rfl⟩
  · exact .inr ⟨k, m, c, nn, js, rfl, hr _ _ rfl, h3, h4, h5⟩
theorem Keep.sl (E : Keep B h0 L h) (i : Nat) (hi : L[i]? = some r) (R : Row r v e sz xs) : SlRow h v e sz xs := R.in fun k o e => E.at i (by rw [hi, e])
theorem Keep.fp (E : Keep B h0 L h) (i q : Nat) {k j n m c : Nat} {a : Option Addr} {t : TypeId} {fs : List Fld} (hi : L[i]? = some (some (k, .vec t fs n))) (hj : fs[j]? = some (.plain (.slice a m c))) (hq : L[q]? = some r) (R : Row r (.slice a m c) e sz xs) : FP h k j e sz xs a m c :=
  ⟨E.pf i hi hj, E.sl q hq R⟩

theorem Keep.opened (E : Keep B h0 L h) (i : Nat) {b j n : Nat} {t : TypeId} {fs : List Fld} (hi : L[i]? = some (some (b, .vec t fs n))) (ho : Opened B h b t fs n j e sz xs v h') :
    ∃ r, Row r v e sz xs ∧ Keep B h0 (L.set i (some (b, .vec t (fs.set j (.plain v)) n)) ++ [r]) h' := by
  rcases ho with ⟨rfl, rfl, rfl⟩ | ⟨k, m, c, nn, h1, h2, h3, rfl, h4, h5, h6, h7, rfl⟩
  · exact ⟨none, Row.nil e sz, (E.put i hi).gap⟩
  · refine ⟨some (k, .vec e (plains xs) nn), .inr ⟨k, m, c, nn, [], by rw [List.append_nil], rfl, h4, h5, h6⟩, ?_⟩
    exact (E.put i hi).new (by rw [Heap.set_ne _ _ _ _ h3]; exact h1) h2
/-- A field is opened at a call. -/
theorem Keep.openS (E : Keep B h0 L h) (i j : Nat) {b n : Nat} {t : TypeId} {fs : List Fld} (hi : L[i]? = some (some (b, .vec t fs n))) (hj : fs[j]? = some (.own e sz xs)) {g : FuncId} {args : Array Value} {Q : Value → Heap → Prop}
    (hS : ∀ a m c r h', Row r (.slice a m c) e sz xs → Keep B h0 (L.set i (some (b, .vec t (fs.set j (.plain (.slice a m c))) n)) ++ [r]) h' → Spec P B g args h' Q) : Spec P B g args h Q := by
  refine Spec.open (E.at i hi) hj fun v h1 ho => ?_
  obtain ⟨a, m, c, rfl⟩ := ho.slice
  obtain ⟨r, R, E'⟩ := E.opened i hi ho
  exact hS a m c r h1 R E'
/-- A field is opened at a load. -/
theorem Keep.openL (E : Keep B h0 L h) (i j : Nat) {b n : Nat} {t : TypeId} {fs : List Fld} (hi : L[i]? = some (some (b, .vec t fs n))) (hj : fs[j]? = some (.own e sz xs)) {K : Option Addr → Nat → Nat → Heap → Prop}
    (hK : ∀ a m c r h', Row r (.slice a m c) e sz xs → Keep B h0 (L.set i (some (b, .vec t (fs.set j (.plain (.slice a m c))) n)) ++ [r]) h' → K a m c h') : LdSl B h ⟨b, j, none⟩ K := by
  refine .inr ⟨t, fs, n, e, sz, xs, rfl, E.at i hi, hj, fun a m c h1 ho => ?_⟩
  obtain ⟨r, R, E'⟩ := E.opened i hi ho
  exact hK a m c r h1 R E'
/-- A field is closed: its slice is hidden again. -/
theorem Keep.close (E : Keep B h0 L h) (i j q : Nat) {b n : Nat} {t : TypeId} {fs : List Fld} (hi : L[i]? = some (some (b, .vec t fs n))) (hj : fs[j]? = some (.plain v)) (hq : L[q]? = some r) (R : Row r v e sz xs) (hn : q ≠ i) :
    ∃ h', Ent B h h' ∧ Keep B h0 ((L.set i (some (b, .vec t (fs.set j (.own e sz xs)) n))).set q none) h' := by
  have hb := E.at i hi
  rcases R with ⟨rfl, rfl, rfl⟩ | ⟨k, m, c, nn, js, rfl, rfl, h3, h4, h5⟩
  · exact ⟨_, Ent.close_nil (e := e) (sz := sz) hb hj, (E.put i hi).lose q⟩
  · have hkb : k ≠ b := E.ne q i hq hi hn
    have hz := E.zero q hq
    have cl := Ent.close_row (B := B) (h0 := h.del k) (h := h) (b := b) (n := n) (i := j) (e := e) (sz := sz) (v := .slice (some ⟨k, 0, none⟩) m c) (xs := xs) (fs := fs) (t := t)
      (fun c' o hc hh => by
        by_cases hck : c' = k
        · rw [hck, Heap.del_same] at hh; cases hh
        · rw [Heap.del_ne _ _ _ hck] at hh; exact hh)
      hb hj (.inr ⟨k, m, c, nn, js, rfl, E.at q hq, h3, h4, h5⟩)
      (fun k' m' c' e => by cases e; exact ⟨Heap.del_same _ _, hkb⟩)
    refine ⟨_, cl, ?_⟩
    have E1 := E.put (o' := .vec t (fs.set j (.own e sz xs)) n) i hi
    have E2 := E1.lose q
    have zb := E.z i _ _ hi
    have same : ∀ c', c' ≠ k → ((h.del k).set b (.vec t (fs.set j (.own e sz xs)) n)) c' = (h.set b (.vec t (fs.set j (.own e sz xs)) n)) c' := fun c' hc => by
      by_cases hcb : c' = b
      · rw [hcb, Heap.set_same, Heap.set_same]
      · rw [Heap.set_ne _ _ _ _ hcb, Heap.set_ne _ _ _ _ hcb, Heap.del_ne _ _ _ hc]
    refine ⟨fun c' o hc => ?_, fun c' hc hh => ?_, E2.z, fun i' k' o' hi' => ?_, E2.nd⟩
    · rw [same c' (fun x => by rw [x, hz] at hc; cases hc)]; exact E1.le _ _ hc
    · by_cases hck : c' = k
      · exact absurd (by rw [hck]; exact E.ro q hq) hc
      · rw [same c' hck]; exact E1.nw _ hc hh
    · have hne : k' ≠ k := fun x => by
        subst x
        have hiq : i' ≠ q := fun y => by
          subst y
          rw [List.getElem?_set, if_pos rfl] at hi'
          split at hi' <;> cases hi'
        rw [List.getElem?_set_ne (Ne.symm hiq)] at hi'
        have hq' : (L.set i (some (b, .vec t (fs.set j (.own e sz xs)) n)))[q]? = some (some (k', .vec e (plains (xs ++ js)) nn)) := by rw [List.getElem?_set_ne (Ne.symm hn)]; exact hq
        exact hiq (E1.nd _ _ _ _ _ hi' hq')
      rw [same k' hne]; exact E2.get _ _ _ hi'
/-- What an append leaves. -/
theorem Keep.appd (E : Keep B h0 L h) (q : Nat) (hq : L[q]? = some r) (R : Row r v e sz xs) (ap : Appd B h v e sz xs ys v' h') :
    ∃ r', Row r' v' e sz (xs ++ ys) ∧ Keep B h0 (L.set q r') h' := by
  rcases ap with ⟨rfl, rfl, rfl⟩ | ⟨k, m, n, c, nn, js, hn, rfl, rfl, h1, h2, h3, h4, h5⟩
  · refine ⟨r, by rw [List.append_nil]; exact R, ?_⟩
    have : L.set q r = L := by
      obtain ⟨hl, rfl⟩ := List.getElem?_eq_some_iff.1 hq
      exact List.set_getElem_self hl
    rw [this]; exact E
  · refine ⟨some (k, _), .inr ⟨k, m + n, c, nn, js, rfl, rfl, by rw [List.length_append, Nat.add_mul, h1, h2], h3, h4⟩, E.turn ?_⟩
    rcases h5 with ⟨e1, is, e2⟩ | h5
    · rcases R with ⟨_, e3, _⟩ | ⟨k', m', c', nn', js', rfl, e3, _⟩
      · rw [e1] at e3; cases e3
      · rw [e1] at e3; cases e3; exact .inl ⟨_, hq⟩
    · exact .inr h5
end
end Go.Proofs.Ythloobpjkeodgaa.H
