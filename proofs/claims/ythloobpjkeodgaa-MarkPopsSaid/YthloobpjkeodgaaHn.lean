/- The heap logic, part 14: what is told in a heap is told in a greater one, too. No condition. -/
import Derived.Test.YthloobpjkeodgaaHm
namespace Go.Proofs.Ythloobpjkeodgaa.H
open Go
set_option linter.unusedVariables false

section
variable {P : Program} {B : RO}
/-- A greater heap: new blocks are none of those that are read. -/
def Wk (B : RO) (h h' : Heap) : Prop := Le h h' ∧ NewOver B h h'
theorem Wk.refl (h : Heap) : Wk B h h := ⟨Le.refl h, NewOver.refl B h⟩
theorem Wk.trans {h h' h'' : Heap} (a : Wk B h h') (b : Wk B h' h'') : Wk B h h'' := ⟨a.1.trans b.1, a.2.trans b.2⟩
theorem Wk.new {h : Heap} {b : Nat} {o : AObj} (h1 : h b = none) (h2 : B b = none) : Wk B h (h.set b o) := ⟨Le.new h1, (NewOver.refl B h).set h2⟩
theorem Wk.same {h h' : Heap} (w : Wk B h h') {b : Nat} (hb : h b ≠ none ∨ B b ≠ none) : h' b = h b := by
  cases e : h b with
  | some o => exact w.1 b o e
  | none =>
    rcases hb with hb | hb
    · exact absurd e hb
    · exact w.2 b hb e
theorem Wk.set {h h' : Heap} (w : Wk B h h') (b : Nat) (o : AObj) : Wk B (h.set b o) (h'.set b o) := by
  refine ⟨fun c o' e => ?_, fun c hc e => ?_⟩
  · by_cases hcb : c = b
    · subst hcb; rw [Heap.set_same] at e ⊢; exact e
    · rw [Heap.set_ne _ _ _ _ hcb] at e ⊢; exact w.1 _ _ e
  · by_cases hcb : c = b
    · subst hcb; rw [Heap.set_same] at e; cases e
    · rw [Heap.set_ne _ _ _ _ hcb] at e ⊢; exact w.2 _ hc e
theorem Wk.cell {h h' : Heap} (w : Wk B h h') {A : Addr} {v : Value} (e : cellH B h A = some v) : cellH B h' A = some v := by
  rw [← e]
  refine cellH_ro_eq (w.same ?_)
  unfold cellH at e
  cases hb : h A.block with
  | some o => exact .inl (by simp)
  | none =>
    right
    intro hB
    rw [hb, hB] at e
    split at e <;> cases e
theorem Wk.cells {h h' : Heap} (w : Wk B h h') {A : Addr} : ∀ {vs : List Value} {i : Nat}, CellsAt B h A i vs → CellsAt B h' A i vs
  | [], _, _ => trivial
  | _ :: _, _, c => ⟨w.cell c.1, Wk.cells w c.2⟩
theorem Wk.store {h h' h1 : Heap} (w : Wk B h h') {A : Addr} {v : Value} (e : storeH h A v = some h1) : ∃ h1', storeH h' A v = some h1' ∧ Wk B h1 h1' := by
  unfold storeH at e ⊢
  split at e
  · cases e
  · rename_i hs
    rw [if_neg hs]
    cases hb : h A.block with
    | none => rw [hb] at e; cases e
    | some o =>
      rw [hb] at e
      rw [w.1 _ _ hb]
      cases o with
      | raw o => cases e
      | vec t fs n =>
        simp only at e ⊢
        split at e
        · rename_i hlt
          rw [if_pos hlt]
          split at e
          · rename_i u hu
            cases e
            exact ⟨_, rfl, w.set _ _⟩
          · cases e
        · rename_i hlt
          rw [if_neg hlt]
          split at e
          · rename_i h2
            rw [if_pos h2]
            cases e
            exact ⟨_, rfl, w.set _ _⟩
          · cases e
theorem Wk.shape {h h' : Heap} (w : Wk B h h') {r : Nat} {s : Option (TypeId × Nat)} (e : shapeH B h r = some s) : shapeH B h' r = some s := by
  have : h' r = h r := by
    refine w.same ?_
    unfold shapeH at e
    cases hb : h r with
    | some o => exact .inl (by simp)
    | none =>
      right; intro hB
      rw [hb, hB] at e; cases e
  unfold shapeH at e ⊢
  rw [this]; exact e
theorem Wk.frozen {h h' : Heap} (w : Wk B h h') {a : Addr} {c : Bool} (e : frozenH B h a = some c) : frozenH B h' a = some c := by
  have : h' a.block = h a.block := by
    refine w.same ?_
    unfold frozenH at e
    cases hb : h a.block with
    | some o => exact .inl (by simp)
    | none =>
      right; intro hB
      rw [hb, hB] at e; cases e
  unfold frozenH at e ⊢
  rw [this]; exact e

theorem semH_weaken {α : Type} {s : Sem α} {K : α → Heap → Prop} : ∀ {h h' : Heap}, Wk B h h' → semH P B s h K → semH P B s h' (fun a h1' => ∃ h1, Wk B h1 h1' ∧ K a h1) := by
  induction s with
  | pure a => intro h h' w hs; exact ⟨h, w, hs⟩
  | load m a k ih => rintro h h' w ⟨v, hv, hs⟩; exact ⟨v, w.cell hv, ih v w hs⟩
  | store m a v k ih =>
    rintro h h' w ⟨h1, h2, hh, hs⟩
    obtain ⟨h2', e, w'⟩ := w.store hh
    exact ⟨h1, h2', e, ih w' hs⟩
  | new o k ih => intro h h' w hs b h1 h2; exact ih b (w.set b _) (hs b (w.1.none h1) h2)
  | shape r k ih => rintro h h' w ⟨s, hs, hk'⟩; exact ⟨s, w.shape hs, ih s w hk'⟩
  | freeze a n k ih =>
    rintro h h' w ⟨⟨t, fs, m, h1, h1'⟩, h2, hs⟩
    exact ⟨⟨t, fs, m, w.1 _ _ h1, h1'⟩, h2, ih w hs⟩
  | frozen a k ih => intro h h' w hs b h1; exact ih b w (hs b (fun c hc => h1 c (w.frozen hc)))
  | getObj r k ih => rintro h h' w ⟨o, h1, h2, hs⟩; exact ⟨o, w.1 _ _ h1, h2, ih o w hs⟩
  | setObj r o k ih => rintro h h' w ⟨⟨o', h1, h1'⟩, h2, hs⟩; exact ⟨⟨o', w.1 _ _ h1, h1'⟩, h2, ih (w.set _ _) hs⟩
  | choose q k ih =>
    intro h h' w hs
    simp only [semH] at hs ⊢
    split
    · rename_i hf; rw [if_pos hf] at hs; exact ih 0 w hs
    · rename_i hf; rw [if_neg hf] at hs; intro n; exact ih _ w (hs n)
  | sys c k ih => intro h h' w hs; exact hs.elim
  | program k ih => intro h h' w hs; exact ih P w hs
  | mark m k ih => intro h h' w hs; exact ih w hs
  | halt e => intro h h' w hs; exact hs.elim

theorem RoundSpec.ent {l : Nat} {f : FuncId} {tmps : Array Value} {assign body : Code} {h h' : Heap} {K : Value → Heap → Prop} (he : Ent B h h') (hs : RoundSpec P B l f tmps assign body h' K) : RoundSpec P B l f tmps assign body h K :=
  fun F w c cs R => hs F w c cs (he.2 F w R)
theorem After.weaken {nx : Next} {h h' : Heap} {K : Value → Heap → Prop} (w : Wk B h h') (ha : After P B nx h K) : After P B nx h' (fun v h'' => Fin B h'' (K v)) := by
  have he : Ent B h' h := Ent.forget w.1
  cases nx with
  | value v => exact Fin.ent he (Fin.of ha)
  | skip => exact Fin.ent he (Fin.of ha)
  | enter f args => exact Spec.mono (Spec.ent he ha) (fun v h'' k => Fin.of k)
  | round l f tmps assign body => exact fun F w' c cs R => let ⟨v, w2, h2, s, r, k⟩ := ha F w' c cs (he.2 F w' R); ⟨v, w2, h2, s, r, Fin.of k⟩
  | _ => exact ha.elim
/-- A call that is told in a heap is told in a greater one. -/
theorem CallV.weaken {f : Value} {args : List Value} {h h' : Heap} {K : Value → Heap → Prop} (w : Wk B h h') (hc : CallV P B f args h K) : CallV P B f args h' (fun v h'' => Fin B h'' (K v)) :=
  semH_mono (fun nx h1' ⟨h1, w1, ha⟩ => ha.weaken w1) (semH_weaken w hc)
end
end Go.Proofs.Ythloobpjkeodgaa.H
