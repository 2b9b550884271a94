/- The heap logic, part 15: a field that is a slice of one's own, hidden or lying open: one view of both. No condition. -/
import Derived.Test.YthloobpjkeodgaaHn
namespace Go.Proofs.Ythloobpjkeodgaa.H
open Go
set_option linter.unusedVariables false

section
variable {P : Program} {B : RO} {h : Heap} {b i : Nat} {e : TypeId} {sz : Nat} {xs : List Value}

/-- Field i of block b is a slice of its own with these cells: hidden, or lying open. -/
def FV (h : Heap) (b i : Nat) (e : TypeId) (sz : Nat) (xs : List Value) : Prop :=
  (∃ t fs n, h b = some (.vec t fs n) ∧ fs[i]? = some (.own e sz xs)) ∨
  (∃ t fs n a m c, h b = some (.vec t fs n) ∧ fs[i]? = some (.plain (.slice a m c)) ∧ SlRow h (.slice a m c) e sz xs)
/-- Field i of block b is this value. -/
def PF (h : Heap) (b i : Nat) (v : Value) : Prop := ∃ t fs n, h b = some (.vec t fs n) ∧ fs[i]? = some (.plain v)
theorem PF.cell {v : Value} (f : PF h b i v) : cellH B h ⟨b, i, none⟩ = some v := let ⟨_, _, _, hb, hi⟩ := f; cellH_vec hb hi
theorem PF.keep {v : Value} {h' : Heap} (f : PF h b i v) (e : h' b = h b) : PF h' b i v := let ⟨t, fs, n, hb, hi⟩ := f; ⟨t, fs, n, e.trans hb, hi⟩
/-- .. lying open. -/
def FP (h : Heap) (b i : Nat) (e : TypeId) (sz : Nat) (xs : List Value) (a : Option Addr) (m c : Nat) : Prop :=
  PF h b i (.slice a m c) ∧ SlRow h (.slice a m c) e sz xs
theorem FP.cell {a : Option Addr} {m c : Nat} (f : FP h b i e sz xs a m c) : cellH B h ⟨b, i, none⟩ = some (.slice a m c) := f.1.cell
theorem FP.len {a : Option Addr} {m c : Nat} (f : FP h b i e sz xs a m c) : m * sz = xs.length := by
  rcases f.2 with ⟨e1, e2⟩ | ⟨k, m', c', nn, js, e1, e2, e3, e4, e5⟩
  · cases e1; rw [e2]; simp
  · cases e1; exact e3
theorem FP.fv {a : Option Addr} {m c : Nat} (f : FP h b i e sz xs a m c) : FV h b i e sz xs :=
  let ⟨⟨t, fs, n, hb, hi⟩, hr⟩ := f
  .inr ⟨t, fs, n, a, m, c, hb, hi, hr⟩
/-- What is seen when the field is opened. -/
def Shown (B : RO) (h : Heap) (b i : Nat) (e : TypeId) (sz : Nat) (xs : List Value) (a : Option Addr) (m c : Nat) (h1 : Heap) : Prop :=
  FP h1 b i e sz xs a m c ∧ Ent B h1 h ∧ (∀ k o, k ≠ b → h k = some o → h1 k = some o) ∧ (∀ j v, PF h b j v → PF h1 b j v)
theorem FV.opened {a : Option Addr} {m c : Nat} {h1 : Heap} {t : TypeId} {fs : List Fld} {n : Nat} (hb : h b = some (.vec t fs n)) (hi : fs[i]? = some (.own e sz xs)) (ho : Opened B h b t fs n i e sz xs (.slice a m c) h1) : Shown B h b i e sz xs a m c h1 := by
  have hl := (List.getElem?_eq_some_iff.1 hi).1
  refine ⟨⟨⟨_, _, _, ho.blk, by simp [hl]⟩, ho.row⟩, ho.back hb hi, fun k o hk hh => ho.sub k o hk hh, fun j v hv => ?_⟩
  obtain ⟨t', fs', n', hb', hj⟩ := hv
  rw [hb] at hb'
  cases hb'
  have hji : j ≠ i := fun e => by rw [e, hi] at hj; cases hj
  exact ⟨_, _, _, ho.blk, by rw [List.getElem?_set_ne (Ne.symm hji)]; exact hj⟩
theorem FV.ld (f : FV h b i e sz xs) {K : Option Addr → Nat → Nat → Heap → Prop} (hK : ∀ a m c h1, Shown B h b i e sz xs a m c h1 → K a m c h1) : LdSl B h ⟨b, i, none⟩ K := by
  rcases f with ⟨t, fs, n, hb, hi⟩ | ⟨t, fs, n, a, m, c, hb, hi, hr⟩
  · exact .inr ⟨t, fs, n, e, sz, xs, rfl, hb, hi, fun a m c h1 ho => hK a m c h1 (FV.opened hb hi ho)⟩
  · exact .inl ⟨a, m, c, cellH_vec hb hi, hK a m c h ⟨⟨⟨t, fs, n, hb, hi⟩, hr⟩, Ent.refl B h, fun _ _ _ q => q, fun _ _ q => q⟩⟩
theorem FV.spec (f : FV h b i e sz xs) {g : FuncId} {args : Array Value} {Q : Value → Heap → Prop} (hS : ∀ a m c h1, Shown B h b i e sz xs a m c h1 → Spec P B g args h1 Q) : Spec P B g args h Q := by
  rcases f with ⟨t, fs, n, hb, hi⟩ | ⟨t, fs, n, a, m, c, hb, hi, hr⟩
  · refine Spec.open hb hi fun v h1 ho => ?_
    obtain ⟨a, m, c, rfl⟩ := ho.slice
    exact hS a m c h1 (FV.opened hb hi ho)
  · exact hS a m c h ⟨⟨⟨t, fs, n, hb, hi⟩, hr⟩, Ent.refl B h, fun _ _ _ q => q, fun _ _ q => q⟩
end
end Go.Proofs.Ythloobpjkeodgaa.H
