/- What the law's proof stands on, part 1. No condition. -/
import Derived.Calls
import Derived.WalkKit
import Derived.Orders
import Derived.Below
import Derived.ChangeArms
import Derived.OpenShut
namespace Go.Proofs.YtlehephbflgblaaGreat.H
open Go
set_option linter.unusedVariables false
inductive Fld where
  | plain (v : Value)
  | own (e : TypeId) (size : Nat) (xs : List Value)
inductive AObj where
  | raw (o : Obj)
  | vec (t : TypeId) (fs : List Fld) (n : Nat)
abbrev Heap := Nat → Option AObj
abbrev RO := Nat → Option Obj
def Heap.set (h : Heap) (b : Nat) (o : AObj) : Heap := fun c => if c = b then some o else h c
def Heap.del (h : Heap) (b : Nat) : Heap := fun c => if c = b then none else h c
theorem Heap.set_same (h : Heap) (b : Nat) (o : AObj) : h.set b o b = some o := by simp [Heap.set]
theorem Heap.set_ne (h : Heap) (b c : Nat) (o : AObj) (hn : c ≠ b) : h.set b o c = h c := by simp [Heap.set, hn]
theorem Heap.del_same (h : Heap) (b : Nat) : h.del b b = none := by simp [Heap.del]
theorem Heap.del_ne (h : Heap) (b c : Nat) (hn : c ≠ b) : h.del b c = h c := by simp [Heap.del, hn]
theorem Heap.set_set (h : Heap) (b : Nat) (o o' : AObj) : (h.set b o).set b o' = h.set b o' := by
  funext c; simp only [Heap.set]; split <;> rfl
theorem Heap.set_comm (h : Heap) (b c : Nat) (o o' : AObj) (hn : b ≠ c) : (h.set b o).set c o' = (h.set c o').set b o := by
  funext d; simp only [Heap.set]
  by_cases h1 : d = c
  · subst h1; simp [Ne.symm hn]
  · by_cases h2 : d = b
    · subst h2; simp [hn]
    · simp [h1, h2]
theorem Heap.set_self (h : Heap) (b : Nat) (o : AObj) (hb : h b = some o) : h.set b o = h := by
  funext c; simp only [Heap.set]; split
  · rename_i e; rw [e, hb]
  · rfl
def absO : Obj → AObj
  | .cells c e (lo, hi) => if lo = hi then .vec e (c.toList.map .plain) c.size else .raw (.cells c e (lo, hi))
  | o => .raw o
def isOne : Value → Bool
  | .agg _ | .tuple _ => false
  | _ => true
def cellH (B : RO) (h : Heap) (a : Addr) : Option Value :=
  if a.spot.isSome then none else
  match h a.block with
  | some (.vec _ fs _) => match fs[a.off]? with
    | some (.plain v) => some v
    | _ => none
  | some (.raw (.cells c _ _)) => c[a.off]?
  | some (.raw _) => none
  | none => match B a.block with
    | some (.cells c _ _) => c[a.off]?
    | _ => none
def storeH (h : Heap) (a : Addr) (v : Value) : Option Heap :=
  if a.spot.isSome then none else
  match h a.block with
  | some (.vec t fs n) =>
    if a.off < fs.length then
      match fs[a.off]? with
      | some (.plain _) => some (h.set a.block (.vec t (fs.set a.off (.plain v)) n))
      | _ => none
    else if a.off = fs.length ∧ a.off < n then some (h.set a.block (.vec t (fs ++ [.plain v]) n))
    else none
  | _ => none
def shapeH (B : RO) (h : Heap) (r : Nat) : Option (Option (TypeId × Nat)) :=
  match h r with
  | some (.vec t _ n) => some (some (t, n))
  | some (.raw (.cells c e _)) => some (some (e, c.size))
  | some (.raw _) => some none
  | none => match B r with
    | some (.cells c e _) => some (some (e, c.size))
    | some _ => some none
    | none => none
def frozenH (B : RO) (h : Heap) (a : Addr) : Option Bool :=
  match h a.block with
  | some (.vec t _ n) => if a.off < n ∨ t ≠ 5 then some false else none
  | some (.raw (.cells _ _ (lo, hi))) => some (decide (lo ≤ a.off) && decide (a.off < hi))
  | some (.raw _) => some false
  | none => match B a.block with
    | some (.cells _ _ (lo, hi)) => some (decide (lo ≤ a.off) && decide (a.off < hi))
    | some _ => some false
    | none => none
def Obj.isCell : Obj → Bool
  | .cells .. => true
  | _ => false
def semH (P : Program) (B : RO) {α : Type} : Sem α → Heap → (α → Heap → Prop) → Prop
  | .pure a, h, K => K a h
  | .load _ a k, h, K => ∃ v, cellH B h a = some v ∧ semH P B (k v) h K
  | .store _ a v k, h, K => isOne v = true ∧ ∃ h', storeH h a v = some h' ∧ semH P B k h' K
  | .new o k, h, K => ∀ b, h b = none → B b = none → semH P B (k b) (h.set b (absO o)) K
  | .shape r k, h, K => ∃ s, shapeH B h r = some s ∧ semH P B (k s) h K
  | .freeze a n k, h, K => (∃ t fs m, h a.block = some (.vec t fs m) ∧ m ≤ a.off ∧ t = 5) ∧ 0 < n ∧ semH P B k h K
  | .frozen a k, h, K => ∀ b, (∀ c, frozenH B h a = some c → b = c) → semH P B (k b) h K
  | .getObj r k, h, K => ∃ o, h r = some (.raw o) ∧ Obj.isCell o = false ∧ semH P B (k o) h K
  | .setObj r o k, h, K => (∃ o', h r = some (.raw o') ∧ Obj.isCell o' = false) ∧ Obj.isCell o = false ∧ semH P B k (h.set r (.raw o)) K
  | .choose q k, h, K => if q.forced then semH P B (k 0) h K else ∀ n, semH P B (k (q.cut n)) h K
  | .sys _ _, _, _ => False
  | .program k, h, K => semH P B (k P) h K
  | .mark _ k, h, K => semH P B k h K
  | .halt _, _, _ => False
theorem semH_mono {P : Program} {B : RO} {α : Type} {s : Sem α} {K K' : α → Heap → Prop} (hk : ∀ a h, K a h → K' a h) : ∀ {h : Heap}, semH P B s h K → semH P B s h K' := by
  induction s with
  | pure a => intro h hs; exact hk _ _ hs
  | load m a k ih => rintro h ⟨v, hv, hs⟩; exact ⟨v, hv, ih v hs⟩
  | store m a v k ih => rintro h ⟨h1, h', hh, hs⟩; exact ⟨h1, h', hh, ih hs⟩
  | new o k ih => intro h hs b h1 h2; exact ih b (hs b h1 h2)
  | shape r k ih => rintro h ⟨s, hs, hk'⟩; exact ⟨s, hs, ih s hk'⟩
  | freeze a n k ih => rintro h ⟨h1, h2, hs⟩; exact ⟨h1, h2, ih hs⟩
  | frozen a k ih => intro h hs b h1; exact ih b (hs b h1)
  | getObj r k ih => rintro h ⟨o, h1, h2, hs⟩; exact ⟨o, h1, h2, ih o hs⟩
  | setObj r o k ih => rintro h ⟨h1, h2, hs⟩; exact ⟨h1, h2, ih hs⟩
  | choose q k ih =>
    intro h hs
    simp only [semH] at hs ⊢
    split
    · rename_i hf; rw [if_pos hf] at hs; exact ih 0 hs
    · rename_i hf; rw [if_neg hf] at hs; intro n; exact ih _ (hs n)
  | sys c k ih => intro h hs; exact hs.elim
  | program k ih => intro h hs; exact ih P hs
  | mark m k ih => intro h hs; exact ih hs
  | halt x => intro h hs; exact hs.elim
theorem semH_bind {P : Program} {B : RO} {α β : Type} {s : Sem α} {f : α → Sem β} {K : β → Heap → Prop} : ∀ {h : Heap}, semH P B (s >>= f) h K ↔ semH P B s h (fun a h' => semH P B (f a) h' K) := by
  show ∀ {h : Heap}, semH P B (s.bind f) h K ↔ _
  induction s with
  | pure a => intro h; exact Iff.rfl
  | load m a k ih => intro h; simp only [Sem.bind, semH, ih]
  | store m a v k ih => intro h; simp only [Sem.bind, semH, ih]
  | new o k ih => intro h; simp only [Sem.bind, semH, ih]
  | shape r k ih => intro h; simp only [Sem.bind, semH, ih]
  | freeze a n k ih => intro h; simp only [Sem.bind, semH, ih]
  | frozen a k ih => intro h; simp only [Sem.bind, semH, ih]
  | getObj r k ih => intro h; simp only [Sem.bind, semH, ih]
  | setObj r o k ih => intro h; simp only [Sem.bind, semH, ih]
  | choose q k ih => intro h; simp only [Sem.bind, semH, ih]
  | sys c k ih => intro h; exact Iff.rfl
  | program k ih => intro h; simp only [Sem.bind, semH, ih]
  | mark m k ih => intro h; simp only [Sem.bind, semH, ih]
  | halt x => intro h; exact Iff.rfl
theorem semH_pure {P : Program} {B : RO} {α : Type} {a : α} {h : Heap} {K : α → Heap → Prop} : semH P B (pure a : Sem α) h K ↔ K a h := Iff.rfl
structure Fr where
  blocks : Nat → Option Obj
  os : Os
  tape : Nat → Question → Nat
  output : Array (Nat × ByteArray)
  low : Nat
def OkFr (fr : Nat × Nat) (n : Nat) (t : TypeId) : Prop := fr.1 = fr.2 ∨ (n ≤ fr.1 ∧ fr.1 ≤ fr.2 ∧ t = 5)
def HasVec (w : World) (b : Nat) (t : TypeId) (n : Nat) (R : Nat → Value → Prop) : Prop :=
  ∃ cs fr, w.heap[b]? = some (.cells cs t fr) ∧ cs.size = n ∧ OkFr fr n t ∧ ∀ i v, cs[i]? = some v → R i v
def OwnSl (w : World) (own : Nat → Option (Nat × Nat)) (b i : Nat) (v : Value) (e : TypeId) (sz : Nat) (xs : List Value) : Prop :=
  (v = .slice none 0 0 ∧ xs = []) ∨
  ∃ k m c n, v = .slice (some ⟨k, 0, none⟩) m c ∧ own k = some (b, i) ∧ m * sz = xs.length ∧ m ≤ c ∧ c * sz ≤ n ∧ xs.length ≤ n ∧
    HasVec w k e n (fun j u => ∀ x, xs[j]? = some x → u = x)
def RepF (w : World) (own : Nat → Option (Nat × Nat)) (b i : Nat) (v : Value) : Fld → Prop
  | .plain u => v = u
  | .own e sz xs => OwnSl w own b i v e sz xs
def RepO (w : World) (own : Nat → Option (Nat × Nat)) (b : Nat) : AObj → Prop
  | .raw o => w.heap[b]? = some o
  | .vec t fs n => fs.length ≤ n ∧ HasVec w b t n (fun i v => ∀ f, fs[i]? = some f → RepF w own b i v f)
structure RelO (B : RO) (F : Fr) (h : Heap) (own : Nat → Option (Nat × Nat)) (w : World) : Prop where
  os : w.os = F.os
  tape : w.tape = F.tape
  output : w.output = F.output
  low : F.low ≤ w.heap.size
  fr : ∀ b o, F.blocks b = some o → w.heap[b]? = some o ∧ h b = none ∧ own b = none
  ro : ∀ b o, B b = some o → w.heap[b]? = some o ∧ h b = none ∧ own b = none ∧ F.blocks b = none
  obj : ∀ b o, h b = some o → own b = none ∧ RepO w own b o
  owned : ∀ b p, own b = some p → b < w.heap.size
def Rel (B : RO) (F : Fr) (h : Heap) (w : World) : Prop := ∃ own, RelO B F h own w
theorem lt_of_get {w : World} {b : Nat} {o : Obj} (h : w.heap[b]? = some o) : b < w.heap.size := (Array.getElem?_eq_some_iff.1 h).1
theorem HasVec.lt {w : World} {b : Nat} {t : TypeId} {n : Nat} {R : Nat → Value → Prop} (h : HasVec w b t n R) : b < w.heap.size := by
  obtain ⟨_, _, h, _⟩ := h; exact lt_of_get h
theorem RepO.lt {w : World} {own : Nat → Option (Nat × Nat)} {b : Nat} {o : AObj} (h : RepO w own b o) : b < w.heap.size := by
  cases o with
  | raw o => exact lt_of_get h
  | vec t fs n => exact h.2.lt
theorem HasVec.imp {w w' : World} {b : Nat} {t : TypeId} {n : Nat} {R R' : Nat → Value → Prop} (h : HasVec w b t n R) (hw : w'.heap[b]? = w.heap[b]?) (hr : ∀ i v, R i v → R' i v) : HasVec w' b t n R' := by
  obtain ⟨cs, fr, h1, h2, h3, h4⟩ := h
  exact ⟨cs, fr, hw.trans h1, h2, h3, fun i v hi => hr i v (h4 i v hi)⟩
theorem OwnSl.keep {w w' : World} {own own' : Nat → Option (Nat × Nat)} {b i : Nat} {v : Value} {e : TypeId} {sz : Nat} {xs : List Value} (h : OwnSl w own b i v e sz xs)
    (hk : ∀ k, own k = some (b, i) → own' k = some (b, i) ∧ w'.heap[k]? = w.heap[k]?) : OwnSl w' own' b i v e sz xs := by
  rcases h with h | ⟨k, m, c, n, h1, h2, h3, h4, h5, h6, h7⟩
  · exact .inl h
  · obtain ⟨k1, k2⟩ := hk k h2
    exact .inr ⟨k, m, c, n, h1, k1, h3, h4, h5, h6, h7.imp k2 (fun _ _ r => r)⟩
theorem RepF.keep {w w' : World} {own own' : Nat → Option (Nat × Nat)} {b i : Nat} {v : Value} {f : Fld} (h : RepF w own b i v f)
    (hk : ∀ k, own k = some (b, i) → own' k = some (b, i) ∧ w'.heap[k]? = w.heap[k]?) : RepF w' own' b i v f := by
  cases f with
  | plain u => exact h
  | own e sz xs => exact OwnSl.keep h hk
theorem RepO.keep {w w' : World} {own own' : Nat → Option (Nat × Nat)} {b : Nat} {o : AObj} (h : RepO w own b o) (hb : w'.heap[b]? = w.heap[b]?)
    (hk : ∀ k i, own k = some (b, i) → own' k = some (b, i) ∧ w'.heap[k]? = w.heap[k]?) : RepO w' own' b o := by
  cases o with
  | raw o => exact hb.trans h
  | vec t fs n => exact ⟨h.1, h.2.imp hb fun i v r f hf => (r f hf).keep (fun k hk' => hk k i hk')⟩
theorem RelO.change {B : RO} {F : Fr} {h : Heap} {own : Nat → Option (Nat × Nat)} {w w' : World} (R : RelO B F h own w) {b : Nat} {o : AObj} (hb : (h b).isSome)
    (h1 : w'.os = w.os) (h2 : w'.tape = w.tape) (h3 : w'.output = w.output) (hs : w.heap.size ≤ w'.heap.size) (hne : ∀ c, c ≠ b → c < w.heap.size → w'.heap[c]? = w.heap[c]?) (ho : RepO w' own b o) : RelO B F (h.set b o) own w' := by
  have hob : own b = none := by
    obtain ⟨o0, h0⟩ := Option.isSome_iff_exists.1 hb
    exact (R.obj b o0 h0).1
  have hown : ∀ k p, own k = some p → w'.heap[k]? = w.heap[k]? := fun k p hk => hne k (fun e => by rw [e, hob] at hk; cases hk) (R.owned k p hk)
  refine ⟨h1.trans R.os, h2.trans R.tape, h3.trans R.output, Nat.le_trans R.low hs, ?_, ?_, ?_, fun k p hk => Nat.lt_of_lt_of_le (R.owned k p hk) hs⟩
  · intro c o' hc
    obtain ⟨a1, a2, a3⟩ := R.fr c o' hc
    have hcb : c ≠ b := fun e => by rw [← e, a2] at hb; cases hb
    exact ⟨(hne c hcb (lt_of_get a1)).trans a1, by rw [Heap.set_ne _ _ _ _ hcb]; exact a2, a3⟩
  · intro c o' hc
    obtain ⟨a1, a2, a3⟩ := R.ro c o' hc
    have hcb : c ≠ b := fun e => by rw [← e, a2] at hb; cases hb
    exact ⟨(hne c hcb (lt_of_get a1)).trans a1, by rw [Heap.set_ne _ _ _ _ hcb]; exact a2, a3⟩
  · intro c o' hc
    by_cases hcb : c = b
    · subst hcb
      rw [Heap.set_same] at hc
      cases hc
      exact ⟨hob, ho⟩
    · rw [Heap.set_ne _ _ _ _ hcb] at hc
      obtain ⟨a1, a2⟩ := R.obj c o' hc
      exact ⟨a1, a2.keep (hne c hcb a2.lt) (fun k i hk => ⟨hk, hown k _ hk⟩)⟩
theorem RelO.fresh {B : RO} {F : Fr} {h : Heap} {own : Nat → Option (Nat × Nat)} {w : World} (R : RelO B F h own w) : h w.heap.size = none ∧ B w.heap.size = none ∧ own w.heap.size = none ∧ F.blocks w.heap.size = none := by
  refine ⟨?_, ?_, ?_, ?_⟩
  · cases hc : h w.heap.size with
    | none => rfl
    | some o => exact absurd (R.obj _ o hc).2.lt (Nat.lt_irrefl _)
  · cases hc : B w.heap.size with
    | none => rfl
    | some o => exact absurd (lt_of_get (R.ro _ o hc).1) (Nat.lt_irrefl _)
  · cases hc : own w.heap.size with
    | none => rfl
    | some o => exact absurd (R.owned _ o hc) (Nat.lt_irrefl _)
  · cases hc : F.blocks w.heap.size with
    | none => rfl
    | some o => exact absurd (lt_of_get (R.fr _ o hc).1) (Nat.lt_irrefl _)
theorem push_get (w : World) (o : Obj) (c : Nat) (hc : c < w.heap.size) : (w.heap.push o)[c]? = w.heap[c]? := by
  rw [Array.getElem?_push, if_neg (by omega)]
theorem RelO.push {B : RO} {F : Fr} {h : Heap} {own : Nat → Option (Nat × Nat)} {w : World} (R : RelO B F h own w) (o : Obj) :
    RelO B F (h.set w.heap.size (absO o)) own { w with heap := w.heap.push o } := by
  obtain ⟨f1, f2, f3, f4⟩ := R.fresh
  have hget : ({ w with heap := w.heap.push o } : World).heap[w.heap.size]? = some o := by simp
  refine ⟨R.os, R.tape, R.output, Nat.le_trans R.low (by simp), ?_, ?_, ?_, fun k p hk => by have := R.owned k p hk; simp; omega⟩
  · intro c o' hc
    obtain ⟨a1, a2, a3⟩ := R.fr c o' hc
    have hlt := lt_of_get a1
    exact ⟨(push_get w o c hlt).trans a1, by rw [Heap.set_ne _ _ _ _ (by omega)]; exact a2, a3⟩
  · intro c o' hc
    obtain ⟨a1, a2, a3⟩ := R.ro c o' hc
    have hlt := lt_of_get a1
    exact ⟨(push_get w o c hlt).trans a1, by rw [Heap.set_ne _ _ _ _ (by omega)]; exact a2, a3⟩
  · intro c o' hc
    by_cases hcb : c = w.heap.size
    · subst hcb
      rw [Heap.set_same] at hc
      cases hc
      refine ⟨f3, ?_⟩
      cases o with
      | cells cs e fr =>
        obtain ⟨lo, hi⟩ := fr
        simp only [absO]
        split
        · rename_i hlh
          refine ⟨by simp, cs, (lo, hi), hget, rfl, .inl hlh, ?_⟩
          intro i v hi' f hf
          simp only [List.getElem?_map, Array.getElem?_toList, hi', Option.map_some] at hf
          cases hf
          rfl
        · exact hget
      | _ => exact hget
    · rw [Heap.set_ne _ _ _ _ hcb] at hc
      obtain ⟨a1, a2⟩ := R.obj c o' hc
      exact ⟨a1, a2.keep (push_get w o c a2.lt) (fun k i hk => ⟨hk, push_get w o k (R.owned k _ hk)⟩)⟩
theorem RelO.of_heap_eq {B : RO} {F : Fr} {h : Heap} {own : Nat → Option (Nat × Nat)} {w w' : World} (R : RelO B F h own w) (h0 : w'.heap = w.heap) (h1 : w'.os = w.os) (h2 : w'.tape = w.tape) (h3 : w'.output = w.output) : RelO B F h own w' := by
  have hk : ∀ c : Nat, w'.heap[c]? = w.heap[c]? := fun c => by rw [h0]
  exact ⟨h1.trans R.os, h2.trans R.tape, h3.trans R.output, by rw [h0]; exact R.low, fun c o hc => ⟨(hk c).trans (R.fr c o hc).1, (R.fr c o hc).2⟩, fun c o hc => ⟨(hk c).trans (R.ro c o hc).1, (R.ro c o hc).2⟩,
    fun c o hc => ⟨(R.obj c o hc).1, (R.obj c o hc).2.keep (hk c) (fun k i h' => ⟨h', hk k⟩)⟩, fun k p hk' => by rw [h0]; exact R.owned k p hk'⟩
theorem frozen_false {fr : Nat × Nat} {n i : Nat} {t : TypeId} (h : OkFr fr n t) (hi : i < n ∨ t ≠ 5) : (decide (fr.1 ≤ i) && decide (i < fr.2)) = false := by
  rcases h with h | ⟨h1, h2, h3⟩
  · simp; omega
  · rcases hi with hi | hi
    · simp; omega
    · exact absurd h3 hi
theorem RelO.cell {B : RO} {F : Fr} {h : Heap} {own : Nat → Option (Nat × Nat)} {w : World} (R : RelO B F h own w) {a : Addr} {v : Value} (hv : cellH B h a = some v) : w.cell? a = some v := by
  obtain ⟨ab, ao, asp⟩ := a
  unfold cellH at hv
  split at hv
  · cases hv
  · rename_i hs
    dsimp only at hv hs
    have hs' : asp.isSome = false := by simpa using hs
    split at hv
    · rename_i t fs n hb
      obtain ⟨_, _, cs, fr, h1, h2, h3, h4⟩ := R.obj _ _ hb
      split at hv
      · rename_i u hf
        cases hv
        have hi : ao < cs.size := by
          have := (List.getElem?_eq_some_iff.1 hf).1
          omega
        have := h4 ao cs[ao] (Array.getElem?_eq_getElem hi) _ hf
        simp only [World.cell?, h1, hs']
        simp only [RepF] at this
        simp [hi, this]
      · cases hv
    · rename_i c e fr hb
      have h1 := (R.obj _ _ hb).2
      simp only [RepO] at h1
      simp only [World.cell?, h1, hs']
      simpa using hv
    · cases hv
    · rename_i hb
      split at hv
      · rename_i c e fr hB
        have h1 := (R.ro _ _ hB).1
        simp only [World.cell?, h1, hs']
        simpa using hv
      · cases hv
theorem modify_get (w : World) (b : Nat) (g : Obj → Obj) (c : Nat) (hc : c ≠ b) : (w.heap.modify b g)[c]? = w.heap[c]? := by
  rw [Array.getElem?_modify]; simp [Ne.symm hc]
theorem RelO.store {B : RO} {F : Fr} {h h' : Heap} {own : Nat → Option (Nat × Nat)} {w : World} (R : RelO B F h own w) {a : Addr} {v : Value} (hv : storeH h a v = some h') :
    (∃ u, w.cell? a = some u) ∧ w.frozen? a = false ∧ RelO B F h' own (w.setCell a v) := by
  obtain ⟨ab, ao, asp⟩ := a
  unfold storeH at hv
  split at hv
  · cases hv
  · rename_i hs
    dsimp only at hv hs
    have hs' : asp.isSome = false := by simpa using hs
    split at hv
    · rename_i t fs n hb
      obtain ⟨hob, hle, cs, fr, h1, h2, h3, h4⟩ := R.obj _ _ hb
      have hbw := lt_of_get h1
      have key : ∀ fs' : List Fld, ao < cs.size → fs'.length ≤ n → (∀ i f, fs'[i]? = some f → i = ao ∧ f = .plain v ∨ i ≠ ao ∧ fs[i]? = some f) →
          (∃ u, w.cell? ⟨ab, ao, asp⟩ = some u) ∧ w.frozen? ⟨ab, ao, asp⟩ = false ∧ RelO B F (h.set ab (.vec t fs' n)) own (w.setCell ⟨ab, ao, asp⟩ v) := by
        intro fs' hlt hle' hfs
        have hw : (w.setCell ⟨ab, ao, asp⟩ v).heap[ab]? = some (.cells (cs.setIfInBounds ao v) t fr) := by
          simp only [World.setCell, Array.getElem?_modify, if_true, h1, Option.map_some, hs']
          simp
        refine ⟨⟨cs[ao], by simp [World.cell?, h1, hs', hlt]⟩, ?_, ?_⟩
        · obtain ⟨lo, hi⟩ := fr
          simp only [World.frozen?, h1]
          exact frozen_false h3 (.inl (by omega))
        · refine R.change (by simp [hb]) rfl rfl rfl (by simp [World.setCell]) (fun c hc _ => by simp only [World.setCell]; exact modify_get w ab _ c hc) ⟨hle', _, fr, hw, by simpa using h2, h3, ?_⟩
          intro i u hu f hf
          rcases hfs i f hf with ⟨rfl, rfl⟩ | ⟨hne, hf'⟩
          · rw [Array.getElem?_setIfInBounds_self_of_lt (by omega)] at hu
            cases hu; rfl
          · rw [Array.getElem?_setIfInBounds_ne (Ne.symm hne)] at hu
            exact (h4 i u hu f hf').keep (fun k hk => ⟨hk, by
              simp only [World.setCell]; exact modify_get w ab _ k (fun e => by rw [e, hob] at hk; cases hk)⟩)
      split at hv
      · rename_i hlt
        split at hv
        · rename_i u hf
          cases hv
          refine key _ (by omega) (by simpa using hle) ?_
          intro i f hi
          rw [List.getElem?_set] at hi
          split at hi
          · rename_i e
            subst e
            simp at hi
            exact .inl ⟨rfl, hi.symm⟩
          · rename_i e
            exact .inr ⟨Ne.symm e, hi⟩
        · cases hv
      · rename_i hlt
        split at hv
        · rename_i hh
          obtain ⟨e1, e2⟩ := hh
          cases hv
          refine key _ (by omega) (by simp; omega) ?_
          intro i f hi
          rw [List.getElem?_append] at hi
          split at hi
          · rename_i hi'
            exact .inr ⟨by omega, hi⟩
          · rename_i hi'
            have : i - fs.length = 0 := by
              have := (List.getElem?_eq_some_iff.1 hi).1
              simp at this; omega
            rw [this] at hi
            simp at hi
            exact .inl ⟨by omega, hi.symm⟩
        · cases hv
    · cases hv
theorem RelO.shape {B : RO} {F : Fr} {h : Heap} {own : Nat → Option (Nat × Nat)} {w : World} (R : RelO B F h own w) {r : Nat} {s : Option (TypeId × Nat)} (hv : shapeH B h r = some s) : w.shape? r = s := by
  unfold shapeH at hv
  split at hv
  · rename_i t fs n hb
    obtain ⟨_, _, cs, fr, h1, h2, h3, h4⟩ := R.obj _ _ hb
    cases hv
    simp [World.shape?, h1, h2]
  · rename_i c e fr hb
    have h1 := (R.obj _ _ hb).2
    simp only [RepO] at h1
    cases hv
    simp [World.shape?, h1]
  · rename_i o hne hb
    have h1 := (R.obj _ _ hb).2
    simp only [RepO] at h1
    cases hv
    simp only [World.shape?, h1]
    split
    · rename_i heq; cases heq; exact absurd rfl (hne _ _ _)
    · rfl
  · split at hv
    · rename_i c e fr hB
      have h1 := (R.ro _ _ hB).1
      cases hv
      simp [World.shape?, h1]
    · rename_i o hne hB
      have h1 := (R.ro _ _ hB).1
      cases hv
      simp only [World.shape?, h1]
      split
      · rename_i heq; cases heq; exact absurd rfl (hne _ _ _)
      · rfl
    · cases hv
theorem RelO.frozenAt {B : RO} {F : Fr} {h : Heap} {own : Nat → Option (Nat × Nat)} {w : World} (R : RelO B F h own w) {a : Addr} {c : Bool} (hv : frozenH B h a = some c) : w.frozen? a = c := by
  unfold frozenH at hv
  split at hv
  · rename_i t fs n hb
    obtain ⟨_, _, cs, fr, h1, h2, h3, h4⟩ := R.obj _ _ hb
    split at hv
    · rename_i hlt
      cases hv
      obtain ⟨lo, hi⟩ := fr
      simp only [World.frozen?, h1]
      exact frozen_false h3 hlt
    · cases hv
  · rename_i c' e lo hi hb
    have h1 := (R.obj _ _ hb).2
    simp only [RepO] at h1
    cases hv
    simp [World.frozen?, h1]
  · rename_i o hne hb
    have h1 := (R.obj _ _ hb).2
    simp only [RepO] at h1
    cases hv
    simp only [World.frozen?, h1]
    split
    · rename_i heq; cases heq; exact absurd rfl (hne _ _ _ _)
    · rfl
  · split at hv
    · rename_i c' e lo hi hB
      have h1 := (R.ro _ _ hB).1
      cases hv
      simp [World.frozen?, h1]
    · rename_i o hne hB
      have h1 := (R.ro _ _ hB).1
      cases hv
      simp only [World.frozen?, h1]
      split
      · rename_i heq; cases heq; exact absurd rfl (hne _ _ _ _)
      · rfl
    · cases hv
theorem RelO.freeze {B : RO} {F : Fr} {h : Heap} {own : Nat → Option (Nat × Nat)} {w : World} (R : RelO B F h own w) {a : Addr} {n m : Nat} {t : TypeId} {fs : List Fld} (hb : h a.block = some (.vec t fs m)) (hm : m ≤ a.off ∧ t = 5) (hn : 0 < n) :
    RelO B F h own (w.freeze a n) := by
  obtain ⟨hob, hle, cs, fr, h1, h2, h3, h4⟩ := R.obj _ _ hb
  rw [← Heap.set_self h a.block _ hb]
  have hne : ∀ c, c ≠ a.block → (w.freeze a n).heap[c]? = w.heap[c]? := fun c hc => by
    simp only [World.freeze, if_neg (Nat.ne_of_gt hn)]
    exact modify_get w a.block _ c hc
  refine R.change (by simp [hb]) (by simp [World.freeze]; split <;> rfl) (by simp [World.freeze]; split <;> rfl) (by simp [World.freeze]; split <;> rfl) (by simp [World.freeze]; split <;> simp)
    (fun c hc _ => hne c hc) ?_
  obtain ⟨lo, hi⟩ := fr
  refine ⟨hle, cs, (if lo == hi then (a.off, a.off + n) else (min lo a.off, max hi (a.off + n))), ?_, h2, ?_, ?_⟩
  · simp only [World.freeze, if_neg (Nat.ne_of_gt hn), Array.getElem?_modify, if_true, h1, Option.map_some]
  · split
    · exact .inr ⟨hm.1, by simp, hm.2⟩
    · rename_i hne'
      rcases h3 with h3 | ⟨h3, h3', h3''⟩
      · exact absurd h3 (by simpa using hne')
      · have hm1 := hm.1
        refine .inr ⟨?_, ?_, h3''⟩ <;> simp only at h3 h3' ⊢ <;> omega
  · intro i u hu f hf
    exact (h4 i u hu f hf).keep (fun k hk => ⟨hk, hne k (fun e => by rw [e, hob] at hk; cases hk)⟩)
theorem semH_sound {P : Program} {B : RO} {F : Fr} {α : Type} {s : Sem α} {K : α → Heap → Prop} : ∀ {h : Heap} {w : World}, semH P B s h K → Rel B F h w →
    ∃ a w' h', s.run P w = .ok a w' ∧ Rel B F h' w' ∧ K a h' := by
  induction s with
  | pure a => intro h w hs R; exact ⟨a, w, h, rfl, R, hs⟩
  | load m a k ih =>
    rintro h w ⟨v, hv, hs⟩ ⟨own, R⟩
    obtain ⟨x, w', h', hr, R', hK⟩ := ih v hs ⟨own, R⟩
    refine ⟨x, w', h', ?_, R', hK⟩
    simp only [Sem.run, R.cell hv]
    exact hr
  | store m a v k ih =>
    rintro h w ⟨h1, h2, hst, hs⟩ ⟨own, R⟩
    obtain ⟨⟨u, hu⟩, hf, R2⟩ := R.store hst
    obtain ⟨x, w', h', hr, R', hK⟩ := ih hs ⟨own, R2⟩
    refine ⟨x, w', h', ?_, R', hK⟩
    cases v <;> first
      | (simp [isOne] at h1; done)
      | (simp only [Sem.run, hu, hf]; exact hr)
  | new o k ih =>
    rintro h w hs ⟨own, R⟩
    obtain ⟨f1, f2, f3, f4⟩ := R.fresh
    obtain ⟨x, w', h', hr, R', hK⟩ := ih w.heap.size (hs _ f1 f2) ⟨own, R.push o⟩
    exact ⟨x, w', h', hr, R', hK⟩
  | shape r k ih =>
    rintro h w ⟨s, hv, hs⟩ ⟨own, R⟩
    obtain ⟨x, w', h', hr, R', hK⟩ := ih s hs ⟨own, R⟩
    exact ⟨x, w', h', by simp only [Sem.run, R.shape hv]; exact hr, R', hK⟩
  | freeze a n k ih =>
    rintro h w ⟨⟨t, fs, m, hb, hm⟩, hn, hs⟩ ⟨own, R⟩
    obtain ⟨x, w', h', hr, R', hK⟩ := ih hs ⟨own, R.freeze hb hm hn⟩
    exact ⟨x, w', h', hr, R', hK⟩
  | frozen a k ih =>
    rintro h w hs ⟨own, R⟩
    obtain ⟨x, w', h', hr, R', hK⟩ := ih (w.frozen? a) (hs _ (fun c hc => R.frozenAt hc)) ⟨own, R⟩
    exact ⟨x, w', h', by simp only [Sem.run]; exact hr, R', hK⟩
  | getObj r k ih =>
    rintro h w ⟨o, hb, hc, hs⟩ ⟨own, R⟩
    obtain ⟨x, w', h', hr, R', hK⟩ := ih o hs ⟨own, R⟩
    have h1 := (R.obj _ _ hb).2
    simp only [RepO] at h1
    refine ⟨x, w', h', ?_, R', hK⟩
    simp only [Sem.run, h1]
    cases o <;> first
      | (simp [Obj.isCell] at hc; done)
      | exact hr
  | setObj r o k ih =>
    rintro h w ⟨⟨o', hb, hc'⟩, hc, hs⟩ ⟨own, R⟩
    obtain ⟨hob, h1⟩ := R.obj _ _ hb
    simp only [RepO] at h1
    have hlt := lt_of_get h1
    have R2 : RelO B F (h.set r (.raw o)) own { w with heap := w.heap.setIfInBounds r o } :=
      R.change (by simp [hb]) rfl rfl rfl (by simp) (fun c hc _ => by simp only; rw [Array.getElem?_setIfInBounds_ne (Ne.symm hc)])
        (by simp only [RepO]; rw [Array.getElem?_setIfInBounds_self_of_lt hlt])
    obtain ⟨x, w', h', hr, R', hK⟩ := ih hs ⟨own, R2⟩
    refine ⟨x, w', h', ?_, R', hK⟩
    simp only [Sem.run, h1]
    cases o' <;> first
      | (simp [Obj.isCell] at hc'; done)
      | exact hr
  | choose q k ih =>
    rintro h w hs ⟨own, R⟩
    simp only [semH] at hs
    by_cases hf : q.forced = true
    · rw [if_pos hf] at hs
      obtain ⟨x, w', h', hr, R', hK⟩ := ih 0 hs ⟨own, R⟩
      exact ⟨x, w', h', by simp only [Sem.run]; rw [if_pos hf]; exact hr, R', hK⟩
    · rw [if_neg hf] at hs
      obtain ⟨x, w', h', hr, R', hK⟩ := ih _ (hs (w.tape w.drawn q)) ⟨own, R.of_heap_eq (w' := { w with drawn := w.drawn + 1 }) rfl rfl rfl rfl⟩
      exact ⟨x, w', h', by simp only [Sem.run]; rw [if_neg hf]; exact hr, R', hK⟩
  | sys c k ih => intro h w hs; exact hs.elim
  | program k ih =>
    rintro h w hs R
    obtain ⟨x, w', h', hr, R', hK⟩ := ih P hs R
    exact ⟨x, w', h', hr, R', hK⟩
  | mark m k ih =>
    rintro h w hs R
    obtain ⟨x, w', h', hr, R', hK⟩ := ih hs R
    exact ⟨x, w', h', hr, R', hK⟩
  | halt x => intro h w hs; exact hs.elim
end Go.Proofs.YtlehephbflgblaaGreat.H
namespace Go.Proofs.YtlehephbflgblaaGreat.H
open Go
set_option linter.unusedVariables false
abbrev Env := Nat → Value
def upd (e : Env) (d : Nat) (v : Value) : Env := fun t => bif Nat.beq t d then v else e t
def updO (e : Env) (d : Option Nat) (v : Value) : Env := match d with | some d => upd e d v | none => e
theorem upd_same (e : Env) (d : Nat) (v : Value) : upd e d v d = v := by simp [upd]
theorem upd_ne (e : Env) (d t : Nat) (v : Value) (h : t ≠ d) : upd e d v t = e t := by
  have : Nat.beq t d = false := by
    cases hh : Nat.beq t d with
    | false => rfl
    | true => exact absurd (Nat.eq_of_beq_eq_true hh) h
  simp [upd, this]
def evalE (e : Env) : Operand → Value
  | .tmp t => e t
  | .const v => v
  | .global g => .pointer (some ⟨g, 0, none⟩)
  | .func f => .func (.func f) #[] #[]
def env0 (args : Array Value) : Env := fun t => args.getD t undef
structure EnvOK (tm : Array Value) (N : Nat) (e : Env) : Prop where
  size : tm.size = N
  get : ∀ t, tm.getD t undef = e t
theorem EnvOK.put {tm : Array Value} {N : Nat} {e : Env} (h : EnvOK tm N e) {d : Nat} (hd : d < N) (v : Value) : EnvOK (tm.setIfInBounds d v) N (upd e d v) := by
  refine ⟨by simp [h.size], fun t => ?_⟩
  by_cases ht : t = d
  · subst ht
    rw [upd_same]
    simp [Array.getD, h.size, hd]
  · rw [upd_ne _ _ _ _ ht, ← h.get t]
    simp only [Array.getD_eq_getD_getElem?]
    rw [Array.getElem?_setIfInBounds_ne (Ne.symm ht)]
def mark (r : Nat) : Deferred := { target := .collected r, args := #[] }
def frm (b : Frame) (tm : Array Value) (ds : List Nat) (todo : List Item) : Frame := { b with tmps := tm, todo := todo, defers := ds.map mark, mode := .run }
theorem eval_frm (b : Frame) (tm : Array Value) (ds : List Nat) (todo : List Item) {N : Nat} {e : Env} (h : EnvOK tm N e) : (frm b tm ds todo).eval = evalE e := by
  funext x
  cases x with
  | tmp t => exact h.get t
  | const v => rfl
  | global g => rfl
  | func f => rfl
inductive Lv where
  | fall
  | ret
  | exit (id : Nat)
  | begin (k : List Item)
def AtLeave (todo : List Item) : Lv → Prop
  | .fall => todo = []
  | .ret => ∃ k, todo = .code .ret :: k
  | .exit id => ∃ k, todo = .code (.exit id) :: k ∧ exitTo id k = none
  | .begin k => todo = .beginRound :: k
structure Fr.Le (F F' : Fr) : Prop where
  blocks : ∀ b o, F.blocks b = some o → F'.blocks b = some o
  os : F'.os = F.os
  tape : F'.tape = F.tape
  output : F'.output = F.output
  low : F'.low = F.low
theorem Fr.Le.refl (F : Fr) : F.Le F := ⟨fun _ _ h => h, rfl, rfl, rfl, rfl⟩
theorem Fr.Le.trans {F F' F'' : Fr} (h : F.Le F') (k : F'.Le F'') : F.Le F'' := ⟨fun b o hb => k.blocks b o (h.blocks b o hb), k.os.trans h.os, k.tape.trans h.tape, k.output.trans h.output, k.low.trans h.low⟩
theorem RelO.le {B : RO} {F F' : Fr} {h : Heap} {own : Nat → Option (Nat × Nat)} {w : World} (hF : F.Le F') (R : RelO B F' h own w) : RelO B F h own w :=
  ⟨R.os.trans hF.os, R.tape.trans hF.tape, R.output.trans hF.output, hF.low ▸ R.low, fun b o hb => R.fr b o (hF.blocks b o hb), fun b o hb => ⟨(R.ro b o hb).1, (R.ro b o hb).2.1, (R.ro b o hb).2.2.1, by
    cases hc : F.blocks b with
    | none => rfl
    | some o' => have := hF.blocks b o' hc; rw [(R.ro b o hb).2.2.2] at this; cases this⟩, R.obj, R.owned⟩
theorem Rel.le {B : RO} {F F' : Fr} {h : Heap} {w : World} (hF : F.Le F') : Rel B F' h w → Rel B F h w := fun ⟨own, R⟩ => ⟨own, R.le hF⟩
def Fr.add (F : Fr) (r : Nat) (o : Obj) : Fr := { F with blocks := fun b => if b = r then some o else F.blocks b }
theorem Fr.le_add (F : Fr) {r : Nat} (o : Obj) (hr : F.blocks r = none) : F.Le (F.add r o) :=
  ⟨fun b o' hb => by simp only [Fr.add]; rw [if_neg (fun e => by rw [e, hr] at hb; cases hb)]; exact hb, rfl, rfl, rfl, rfl⟩
def MarksOK (F : Fr) (ds : List Nat) : Prop := ds.Nodup ∧ ∀ r ∈ ds, F.blocks r = some (.deferred (some []))
def MarksTo (F : Fr) (ds : List Nat) (F' : Fr) (ds' : List Nat) : Prop := MarksOK F' ds' ∧ ∀ r ∈ ds', r ∈ ds ∨ F.blocks r = none
theorem MarksTo.refl {F : Fr} {ds : List Nat} (h : MarksOK F ds) : MarksTo F ds F ds := ⟨h, fun _ hr => .inl hr⟩
def RoundOK (F : Fr) (b : Frame) (ds : List Nat) : Prop := ∀ l, b.roundOf = some l → ds = [] ∧ ∃ r, F.blocks l = some (.loop r)
def Run (P : Program) (B : RO) (N : Nat) (todo : List Item) (e : Env) (h : Heap) (Φ : Lv → Env → Heap → Prop) : Prop :=
  ∀ (F : Fr) (w : World) (b : Frame) (cs : List Frame) (tm : Array Value) (ds : List Nat), RoundOK F b ds → MarksOK F ds → Rel B F h w → EnvOK tm N e →
    ∃ (F' : Fr) (j : Lv) (todo' : List Item) (tm' : Array Value) (ds' : List Nat) (w' : World) (e' : Env) (h' : Heap),
      Steps P (lone (frm b tm ds todo) cs w) (lone (frm b tm' ds' todo') cs w') ∧ AtLeave todo' j ∧ RoundOK F' b ds' ∧ MarksTo F ds F' ds' ∧ F.Le F' ∧ Rel B F' h' w' ∧ EnvOK tm' N e' ∧ Φ j e' h'
def Spec (P : Program) (B : RO) (f : FuncId) (args : Array Value) (h : Heap) (Post : Value → Heap → Prop) : Prop :=
  ∀ (F : Fr) (w : World), Rel B F h w → Calls P f args w fun ed w' => ∃ v h', ed = .returned v ∧ Rel B F h' w' ∧ Post v h'
def RoundSpec (P : Program) (B : RO) (l : Nat) (f : FuncId) (tmps : Array Value) (assign body : Code) (h : Heap) (K : Value → Heap → Prop) : Prop :=
  ∀ (F : Fr) (w : World) (c : Frame) (cs : List Frame), Rel B F h w →
    ∃ v w' h', Steps P (lone (Frame.round l f tmps assign body .normal) (c :: cs) w) (lone (c.finish v) cs w') ∧ Rel B F h' w' ∧ K v h'
def After (P : Program) (B : RO) : Next → Heap → (Value → Heap → Prop) → Prop
  | .value v, h, K => K v h
  | .skip, h, K => K undef h
  | .enter f args, h, K => Spec P B f args h K
  | .round l f tmps assign body, h, K => RoundSpec P B l f tmps assign body h K
  | _, _, _ => False
theorem Spec.mono {P : Program} {B : RO} {f : FuncId} {args : Array Value} {h : Heap} {Q Q' : Value → Heap → Prop} (hs : Spec P B f args h Q) (hq : ∀ v h', Q v h' → Q' v h') : Spec P B f args h Q' :=
  fun F w R cs => let ⟨e, w', fr, ⟨v, h', a, b, c⟩, r⟩ := hs F w R cs; ⟨e, w', fr, ⟨v, h', a, b, hq _ _ c⟩, r⟩
def Ent (B : RO) (h h' : Heap) : Prop := (∀ b, h b = none → h' b = none) ∧ ∀ F w, Rel B F h w → Rel B F h' w
theorem Ent.refl (B : RO) (h : Heap) : Ent B h h := ⟨fun _ e => e, fun _ _ r => r⟩
theorem Ent.trans {B : RO} {h h' h'' : Heap} (a : Ent B h h') (b : Ent B h' h'') : Ent B h h'' := ⟨fun c e => b.1 c (a.1 c e), fun F w r => b.2 F w (a.2 F w r)⟩
def Fin (B : RO) (h : Heap) (K : Heap → Prop) : Prop := ∃ h', Ent B h h' ∧ K h'
theorem Fin.of {B : RO} {h : Heap} {K : Heap → Prop} (k : K h) : Fin B h K := ⟨h, Ent.refl B h, k⟩
theorem Spec.ent {P : Program} {B : RO} {f : FuncId} {args : Array Value} {h h' : Heap} {Q : Value → Heap → Prop} (he : Ent B h h') (hs : Spec P B f args h' Q) : Spec P B f args h Q :=
  fun F w R => hs F w (he.2 F w R)
theorem Spec.fin {P : Program} {B : RO} {f : FuncId} {args : Array Value} {h : Heap} {Q : Value → Heap → Prop} (hs : Spec P B f args h (fun v h' => Fin B h' (Q v))) : Spec P B f args h Q :=
  fun F w R cs => let ⟨e, w', fr, ⟨v, h', a, b, h'', hent, hq⟩, r⟩ := hs F w R cs; ⟨e, w', fr, ⟨v, h'', a, hent.2 F w' b, hq⟩, r⟩
theorem Run.ent {P : Program} {B : RO} {N : Nat} {todo : List Item} {e : Env} {h h' : Heap} {Φ : Lv → Env → Heap → Prop} (he : Ent B h h') (hs : Run P B N todo e h' Φ) : Run P B N todo e h Φ :=
  fun F w b cs tm ds r1 r2 R => hs F w b cs tm ds r1 r2 (he.2 F w R)
theorem Run.of_fin {P : Program} {B : RO} {N : Nat} {todo : List Item} {e : Env} {h : Heap} {Φ : Lv → Env → Heap → Prop} (hs : Fin B h (fun h' => Run P B N todo e h' Φ)) : Run P B N todo e h Φ :=
  let ⟨_, he, hr⟩ := hs; hr.ent he
section steps
variable {P : Program} {b : Frame} {tm : Array Value} {ds : List Nat} {k : List Item} {cs : List Frame} {w : World}
theorem step_skip : step P (lone (frm b tm ds (.code .skip :: k)) cs w) = .next (lone (frm b tm ds k) cs w) := step_lone_go (by simp [stepG, stepG.exec, frm])
theorem step_label {l : Nat} : step P (lone (frm b tm ds (.code (.label l) :: k)) cs w) = .next (lone (frm b tm ds k) cs w) := step_lone_go (by simp [stepG, stepG.exec, frm])
theorem step_inBlock {id : Nat} : step P (lone (frm b tm ds (.inBlock id :: k)) cs w) = .next (lone (frm b tm ds k) cs w) := step_lone_go (by simp [stepG, stepG.exec, frm])
theorem step_inScope {c : Code} : step P (lone (frm b tm ds (.inScope c :: k)) cs w) = .next (lone (frm b tm ds k) cs w) := step_lone_go (by simp [stepG, stepG.exec, frm])
theorem step_scope {c : Code} : step P (lone (frm b tm ds (.code (.scope c) :: k)) cs w) = .next (lone (frm b tm ds (.code c :: .inScope c :: k)) cs w) := step_lone_go (by simp [stepG, stepG.exec, frm])
theorem step_seq {x y : Code} : step P (lone (frm b tm ds (.code (.seq x y) :: k)) cs w) = .next (lone (frm b tm ds (.code x :: .code y :: k)) cs w) := step_lone_go (by simp [stepG, stepG.exec, frm])
theorem step_block {id : Nat} {c : Code} : step P (lone (frm b tm ds (.code (.block id c) :: k)) cs w) = .next (lone (frm b tm ds (.code c :: .inBlock id :: k)) cs w) := step_lone_go (by simp [stepG, stepG.exec, frm])
theorem step_loop {c : Code} : step P (lone (frm b tm ds (.code (.loop c) :: k)) cs w) = .next (lone (frm b tm ds (.code c :: .inLoop c :: k)) cs w) := step_lone_go (by simp [stepG, stepG.exec, frm])
theorem step_inLoop {c : Code} : step P (lone (frm b tm ds (.inLoop c :: k)) cs w) = .next (lone (frm b tm ds (.code c :: .inLoop c :: k)) cs w) := step_lone_go (by simp [stepG, stepG.exec, frm])
theorem step_exit {id : Nat} {k' : List Item} (h : exitTo id k = some k') : step P (lone (frm b tm ds (.code (.exit id) :: k)) cs w) = .next (lone (frm b tm ds k') cs w) := step_lone_go (by simp [stepG, stepG.exec, frm, h])
theorem step_cond {c : Operand} {x y : Code} {t : Bool} (h : (frm b tm ds (.code (.cond c x y) :: k)).eval c = .bool t) :
    step P (lone (frm b tm ds (.code (.cond c x y) :: k)) cs w) = .next (lone (frm b tm ds (.code (if t then x else y) :: k)) cs w) :=
  step_lone_go (by
    simp only [frm] at h
    simp [stepG, stepG.exec, frm, h])
theorem step_region {id : Nat} {ops : Array Oper} : step P (lone (frm b tm ds (.code (.region id ops false) :: k)) cs w) = .next (lone (frm b tm ds (.inRegion ops (List.range ops.size) :: k)) cs w) := step_lone_go (by simp [stepG, stepG.exec, frm])
theorem step_region_draw {id : Nat} {ops : Array Oper} : step P (lone (frm b tm ds (.code (.region id ops true) :: k)) cs w) =
    .next (lone (frm b tm ds (.inRegion ops (Region.schedule (P.follows .mixedOrders) ops (w.tape w.drawn (.order b.fn id))) :: k)) cs { w with drawn := w.drawn + 1 }) :=
  step_lone_go (by simp [stepG, stepG.exec, frm, choose, Sem.run, Question.forced, Question.cut])
theorem step_region_end {ops : Array Oper} : step P (lone (frm b tm ds (.inRegion ops [] :: k)) cs w) = .next (lone (frm b tm ds k) cs w) := step_lone_go (by simp [stepG, stepG.exec, frm])
theorem finish_frm (ops : Array Oper) (i : Nat) (rest : List Nat) (v : Value) : (frm b tm ds (.inRegion ops (i :: rest) :: k)).finish v =
    frm b (match (ops[i]?).bind (·.dst) with | some d => tm.setIfInBounds d v | none => tm) ds (.inRegion ops rest :: k) := by
  simp only [Frame.finish, frm]
  cases (ops[i]?).bind (·.dst) <;> rfl
theorem step_op_skip {ops : Array Oper} {i : Nat} {rest : List Nat} (h : ((ops[i]?).map (Region.wanted · (yielded ops tm))).getD false = false) :
    step P (lone (frm b tm ds (.inRegion ops (i :: rest) :: k)) cs w) = .next (lone ((frm b tm ds (.inRegion ops (i :: rest) :: k)).finish undef) cs w) :=
  step_lone_go (by
    have h' := h
    simp only [frm] at *
    simp [stepG, stepG.exec, h'])
theorem stepG_op {ops : Array Oper} {i : Nat} {rest : List Nat} {o : Oper} (ho : ops[i]? = some o) (hw : Region.wanted o (yielded ops tm) = true) (hd : ∀ c, o.op ≠ .defer c) :
    stepG P true { frame := frm b tm ds (.inRegion ops (i :: rest) :: k), callers := cs, status := .running, dying := none } w =
      stepG.apply P true (frm b tm ds (.inRegion ops (i :: rest) :: k)) cs none (execOp (frm b tm ds (.inRegion ops (i :: rest) :: k)).eval o) w := by
  simp only [stepG, stepG.exec, frm, ho, Option.map_some, hw, Option.getD_some, if_true, stepG.oper, Frame.oper?]
  split
  · rename_i l c _ hc; exact absurd hc (hd c)
  · rfl
theorem step_op_value {ops : Array Oper} {i : Nat} {rest : List Nat} {o : Oper} {v : Value} {w' : World} (ho : ops[i]? = some o) (hw : Region.wanted o (yielded ops tm) = true) (hd : ∀ c, o.op ≠ .defer c)
    (hr : (execOp (frm b tm ds (.inRegion ops (i :: rest) :: k)).eval o).run P w = .ok (.value v) w') :
    step P (lone (frm b tm ds (.inRegion ops (i :: rest) :: k)) cs w) = .next (lone ((frm b tm ds (.inRegion ops (i :: rest) :: k)).finish v) cs w') :=
  step_lone_go (by rw [stepG_op ho hw hd]; simp [stepG.apply, Sem.runT_eq, hr, GStep.bare_after])
theorem step_op_none {ops : Array Oper} {i : Nat} {rest : List Nat} {o : Oper} {w' : World} (ho : ops[i]? = some o) (hw : Region.wanted o (yielded ops tm) = true) (hd : ∀ c, o.op ≠ .defer c)
    (hr : (execOp (frm b tm ds (.inRegion ops (i :: rest) :: k)).eval o).run P w = .ok .skip w') :
    step P (lone (frm b tm ds (.inRegion ops (i :: rest) :: k)) cs w) = .next (lone ((frm b tm ds (.inRegion ops (i :: rest) :: k)).finish undef) cs w') :=
  step_lone_go (by rw [stepG_op ho hw hd]; simp [stepG.apply, Sem.runT_eq, hr, GStep.bare_after])
theorem step_op_enter {ops : Array Oper} {i : Nat} {rest : List Nat} {o : Oper} {f : FuncId} {args : Array Value} {w' : World} (ho : ops[i]? = some o) (hw : Region.wanted o (yielded ops tm) = true) (hd : ∀ c, o.op ≠ .defer c)
    (hr : (execOp (frm b tm ds (.inRegion ops (i :: rest) :: k)).eval o).run P w = .ok (.enter f args) w') :
    step P (lone (frm b tm ds (.inRegion ops (i :: rest) :: k)) cs w) = .next (lone (Frame.enter P f args .normal) (frm b tm ds (.inRegion ops (i :: rest) :: k) :: cs) w') :=
  step_lone_go (by
    rw [stepG_op ho hw hd]
    have ht : (frm b tm ds (.inRegion ops (i :: rest) :: k)).todo = .inRegion ops (i :: rest) :: k := rfl
    simp [stepG.apply, Sem.runT_eq, hr, GStep.bare_after, ht])
theorem step_op_round {ops : Array Oper} {i : Nat} {rest : List Nat} {o : Oper} {l : Nat} {f : FuncId} {tmps : Array Value} {assign body : Code} {w' : World} (ho : ops[i]? = some o) (hw : Region.wanted o (yielded ops tm) = true) (hd : ∀ c, o.op ≠ .defer c)
    (hr : (execOp (frm b tm ds (.inRegion ops (i :: rest) :: k)).eval o).run P w = .ok (.round l f tmps assign body) w') :
    step P (lone (frm b tm ds (.inRegion ops (i :: rest) :: k)) cs w) = .next (lone (Frame.round l f tmps assign body .normal) (frm b tm ds (.inRegion ops (i :: rest) :: k) :: cs) w') :=
  step_lone_go (by rw [stepG_op ho hw hd]; simp [stepG.apply, Sem.runT_eq, hr, GStep.bare_after])
end steps
section rules
variable {P : Program} {B : RO} {N : Nat} {e : Env} {h : Heap} {Φ : Lv → Env → Heap → Prop} {k : List Item}
theorem Run.silent {todo todo' : List Item} (hs : ∀ (b : Frame) (tm : Array Value) (ds : List Nat) (cs : List Frame) (w : World), EnvOK tm N e → step P (lone (frm b tm ds todo) cs w) = .next (lone (frm b tm ds todo') cs w))
    (hr : Run P B N todo' e h Φ) : Run P B N todo e h Φ := by
  intro F w b cs tm ds r1 r2 R he
  obtain ⟨F', j, todo'', tm', ds', w', e', h', s, rest⟩ := hr F w b cs tm ds r1 r2 R he
  exact ⟨F', j, todo'', tm', ds', w', e', h', .head (hs b tm ds cs w he) s, rest⟩
theorem Run.skip (hr : Run P B N k e h Φ) : Run P B N (.code .skip :: k) e h Φ := hr.silent (fun _ _ _ _ _ _ => step_skip)
theorem Run.label {l : Nat} (hr : Run P B N k e h Φ) : Run P B N (.code (.label l) :: k) e h Φ := hr.silent (fun _ _ _ _ _ _ => step_label)
theorem Run.inBlock {id : Nat} (hr : Run P B N k e h Φ) : Run P B N (.inBlock id :: k) e h Φ := hr.silent (fun _ _ _ _ _ _ => step_inBlock)
theorem Run.inScope {c : Code} (hr : Run P B N k e h Φ) : Run P B N (.inScope c :: k) e h Φ := hr.silent (fun _ _ _ _ _ _ => step_inScope)
theorem Run.scope {c : Code} (hr : Run P B N (.code c :: .inScope c :: k) e h Φ) : Run P B N (.code (.scope c) :: k) e h Φ := hr.silent (fun _ _ _ _ _ _ => step_scope)
theorem Run.seq {x y : Code} (hr : Run P B N (.code x :: .code y :: k) e h Φ) : Run P B N (.code (.seq x y) :: k) e h Φ := hr.silent (fun _ _ _ _ _ _ => step_seq)
theorem Run.block {id : Nat} {c : Code} (hr : Run P B N (.code c :: .inBlock id :: k) e h Φ) : Run P B N (.code (.block id c) :: k) e h Φ := hr.silent (fun _ _ _ _ _ _ => step_block)
theorem Run.exit {id : Nat} {k' : List Item} (hk : exitTo id k = some k') (hr : Run P B N k' e h Φ) : Run P B N (.code (.exit id) :: k) e h Φ := hr.silent (fun _ _ _ _ _ _ => step_exit hk)
theorem Run.cond {c : Operand} {x y : Code} {t : Bool} (hc : evalE e c = .bool t) (hr : Run P B N (.code (if t then x else y) :: k) e h Φ) : Run P B N (.code (.cond c x y) :: k) e h Φ :=
  hr.silent (fun _ _ _ _ _ he => step_cond (by rw [eval_frm _ _ _ _ he]; exact hc))
theorem Run.fall (hr : Φ .fall e h) : Run P B N [] e h Φ := fun F w b cs tm ds r1 r2 R he => ⟨F, .fall, [], tm, ds, w, e, h, .refl _ _, rfl, r1, .refl r2, .refl F, R, he, hr⟩
theorem Run.ret (hr : Φ .ret e h) : Run P B N (.code .ret :: k) e h Φ := fun F w b cs tm ds r1 r2 R he => ⟨F, .ret, _, tm, ds, w, e, h, .refl _ _, ⟨k, rfl⟩, r1, .refl r2, .refl F, R, he, hr⟩
theorem Run.out {id : Nat} (hk : exitTo id k = none) (hr : Φ (.exit id) e h) : Run P B N (.code (.exit id) :: k) e h Φ := fun F w b cs tm ds r1 r2 R he => ⟨F, .exit id, _, tm, ds, w, e, h, .refl _ _, ⟨k, rfl, hk⟩, r1, .refl r2, .refl F, R, he, hr⟩
theorem Run.begin (hr : Φ (.begin k) e h) : Run P B N (.beginRound :: k) e h Φ := fun F w b cs tm ds r1 r2 R he => ⟨F, .begin k, _, tm, ds, w, e, h, .refl _ _, rfl, r1, .refl r2, .refl F, R, he, hr⟩
theorem Run.mono {Φ' : Lv → Env → Heap → Prop} {todo : List Item} (hr : Run P B N todo e h Φ) (hq : ∀ j e h, Φ j e h → Φ' j e h) : Run P B N todo e h Φ' := by
  intro F w b cs tm ds r1 r2 R he
  obtain ⟨F', j, todo'', tm', ds', w', e', h', s1, s2, s3, s4, s5, s6, s7, s8⟩ := hr F w b cs tm ds r1 r2 R he
  exact ⟨F', j, todo'', tm', ds', w', e', h', s1, s2, s3, s4, s5, s6, s7, hq _ _ _ s8⟩
theorem Run.inLoop {c : Code} (hr : Run P B N (.code c :: .inLoop c :: k) e h Φ) : Run P B N (.inLoop c :: k) e h Φ := hr.silent (fun _ _ _ _ _ _ => step_inLoop)
theorem Run.loop {σ : Type} {c : Code} (J : σ → Env → Heap → Prop) (μ : σ → Nat) (x0 : σ) (h0 : J x0 e h)
    (hstep : ∀ x e h, J x e h → (∀ x' e' h', J x' e' h' → μ x' < μ x → Run P B N (.inLoop c :: k) e' h' Φ) → Run P B N (.code c :: .inLoop c :: k) e h Φ) : Run P B N (.code (.loop c) :: k) e h Φ := by
  have key : ∀ n x e h, μ x = n → J x e h → Run P B N (.code c :: .inLoop c :: k) e h Φ := by
    intro n
    induction n using Nat.strongRecOn with
    | _ n ih =>
      intro x e h hn hJ
      exact hstep x e h hJ (fun x' e' h' hJ' hlt => Run.inLoop (ih (μ x') (hn ▸ hlt) x' e' h' rfl hJ'))
  exact (key _ x0 e h rfl h0).silent (fun _ _ _ _ _ _ => step_loop)
theorem Run.region {id : Nat} {ops : Array Oper} (hr : Run P B N (.inRegion ops (List.range ops.size) :: k) e h Φ) : Run P B N (.code (.region id ops false) :: k) e h Φ := hr.silent (fun _ _ _ _ _ _ => step_region)
theorem Run.region_draw {id : Nat} {ops : Array Oper} (hr : ∀ t, Run P B N (.inRegion ops (Region.schedule (P.follows .mixedOrders) ops t) :: k) e h Φ) : Run P B N (.code (.region id ops true) :: k) e h Φ := by
  intro F w b cs tm ds r1 r2 R he
  obtain ⟨own, R⟩ := R
  obtain ⟨F', j, todo'', tm', ds', w', e', h', s, rest⟩ := hr _ F { w with drawn := w.drawn + 1 } b cs tm ds r1 r2 ⟨own, R.of_heap_eq rfl rfl rfl rfl⟩ he
  exact ⟨F', j, todo'', tm', ds', w', e', h', .head step_region_draw s, rest⟩
theorem Run.region_end {ops : Array Oper} (hr : Run P B N k e h Φ) : Run P B N (.inRegion ops [] :: k) e h Φ := hr.silent (fun _ _ _ _ _ _ => step_region_end)
def yieldE (ops : Array Oper) (e : Env) (j : Nat) : Option Bool :=
  match (ops[j]?).bind (·.dst) with
  | some d => match e d with
    | .bool b => some b
    | _ => none
  | none => none
theorem yielded_eq {ops : Array Oper} {tm : Array Value} {e : Env} (he : EnvOK tm N e) (j : Nat) : yielded ops tm j = yieldE ops e j := by
  unfold yielded yieldE
  cases hd : (ops[j]?).bind (·.dst) with
  | none => rfl
  | some d =>
    simp only [Option.bind_some]
    rw [← he.get d]
    by_cases hlt : d < tm.size
    · have h1 : tm[d]? = some tm[d] := Array.getElem?_eq_getElem hlt
      have h2 : tm.getD d undef = tm[d] := by simp [Array.getD, hlt]
      rw [h1, h2]
      cases tm[d] <;> rfl
    · have h1 : tm[d]? = none := Array.getElem?_eq_none (Nat.le_of_not_lt hlt)
      have h2 : tm.getD d undef = undef := by simp [Array.getD, hlt]
      rw [h1, h2]
      rfl
def dstOK (N : Nat) (o : Oper) : Bool := match o.dst with | some d => d < N | none => true
def noDefer (o : Oper) : Bool := match o.op with | .defer _ => false | _ => true
theorem RoundSpec.mono {l : Nat} {f : FuncId} {tmps : Array Value} {assign body : Code} {K K' : Value → Heap → Prop} (hs : RoundSpec P B l f tmps assign body h K) (hq : ∀ v h', K v h' → K' v h') : RoundSpec P B l f tmps assign body h K' :=
  fun F w c cs R => let ⟨v, w', h', a, b, d⟩ := hs F w c cs R; ⟨v, w', h', a, b, hq _ _ d⟩
theorem After.mono {nx : Next} {K K' : Value → Heap → Prop} (hq : ∀ v h', K v h' → K' v h') (hs : After P B nx h K) : After P B nx h K' := by
  cases nx <;> first
    | exact hq _ _ hs
    | exact Spec.mono hs hq
    | exact RoundSpec.mono hs hq
    | exact hs
theorem Run.op {ops : Array Oper} {i : Nat} {idx : List Nat} {o : Oper} (ho : ops[i]? = some o) (hd : dstOK N o = true) (hnd : noDefer o = true)
    (hr : (Region.wanted o (yieldE ops e) = true ∧ semH P B (execOp (evalE e) o) h (fun nx h' => After P B nx h' (fun v h'' => Run P B N (.inRegion ops idx :: k) (updO e o.dst v) h'' Φ))) ∨
     (Region.wanted o (yieldE ops e) = false ∧ Run P B N (.inRegion ops idx :: k) (updO e o.dst undef) h Φ)) : Run P B N (.inRegion ops (i :: idx) :: k) e h Φ := by
  have hfin : ∀ (tm : Array Value) (v : Value) (e : Env), EnvOK tm N e → EnvOK (match (ops[i]?).bind (·.dst) with | some d => tm.setIfInBounds d v | none => tm) N (updO e o.dst v) := by
    intro tm v e he
    simp only [ho, Option.bind_some]
    unfold dstOK at hd
    cases hdst : o.dst with
    | none => exact he
    | some d => rw [hdst] at hd; exact he.put (by simpa using hd) v
  have hdf : ∀ c, o.op ≠ .defer c := fun c hc => by simp [noDefer, hc] at hnd
  intro F w b cs tm ds r1 r2 R he
  have hy : (yielded ops tm) = (yieldE ops e) := funext (yielded_eq he)
  rcases hr with ⟨hw, hsem⟩ | ⟨hw, hr⟩
  · rw [← hy] at hw
    obtain ⟨nx, w1, h1, hrun, R1, hA⟩ := semH_sound hsem R
    have hev := eval_frm b tm ds (.inRegion ops (i :: idx) :: k) he
    rw [← hev] at hrun
    cases nx <;> try exact hA.elim
    case value v =>
      obtain ⟨F', j, todo'', tm', ds', w', e', h', s, rest'⟩ := hA F w1 b cs _ ds r1 r2 R1 (hfin tm v e he)
      exact ⟨F', j, todo'', tm', ds', w', e', h', .head ((step_op_value ho hw hdf hrun).trans (by rw [finish_frm])) s, rest'⟩
    case skip =>
      obtain ⟨F', j, todo'', tm', ds', w', e', h', s, rest'⟩ := hA F w1 b cs _ ds r1 r2 R1 (hfin tm undef e he)
      exact ⟨F', j, todo'', tm', ds', w', e', h', .head ((step_op_none ho hw hdf hrun).trans (by rw [finish_frm])) s, rest'⟩
    case enter f args =>
      obtain ⟨ed, w2, fr, ⟨v, h2, rfl, R2, hK⟩, hsteps, hfn, hleave⟩ := hA F w1 R1 (frm b tm ds (.inRegion ops (i :: idx) :: k) :: cs)
      obtain ⟨F', j, todo'', tm', ds', w', e', h', s, rest'⟩ := hK F w2 b cs _ ds r1 r2 R2 (hfin tm v e he)
      exact ⟨F', j, todo'', tm', ds', w', e', h', .head (step_op_enter ho hw hdf hrun) (Steps.trans hsteps (.head ((step_leave_returned hleave).trans (by rw [finish_frm])) s)), rest'⟩
    case round l f tmps assign body =>
      obtain ⟨v, w2, h2, hsteps, R2, hK⟩ := hA F w1 (frm b tm ds (.inRegion ops (i :: idx) :: k)) cs R1
      obtain ⟨F', j, todo'', tm', ds', w', e', h', s, rest'⟩ := hK F w2 b cs _ ds r1 r2 R2 (hfin tm v e he)
      rw [finish_frm] at hsteps
      exact ⟨F', j, todo'', tm', ds', w', e', h', .head (step_op_round ho hw hdf hrun) (Steps.trans hsteps s), rest'⟩
  · rw [← hy] at hw
    obtain ⟨F', j, todo'', tm', ds', w', e', h', s, rest'⟩ := hr F w b cs _ ds r1 r2 R (hfin tm undef e he)
    exact ⟨F', j, todo'', tm', ds', w', e', h', .head ((step_op_skip (by simp [ho, hw])).trans (by rw [finish_frm])) s, rest'⟩
def RunL (P : Program) (B : RO) (N : Nat) (ops : Array Oper) : List Oper → List Item → Env → Heap → (Lv → Env → Heap → Prop) → Prop
  | [], k, e, h, Φ => Run P B N k e h Φ
  | o :: rest, k, e, h, Φ =>
    dstOK N o = true ∧ noDefer o = true ∧
    ((Region.wanted o (yieldE ops e) = true ∧ semH P B (execOp (evalE e) o) h (fun nx h' => After P B nx h' (fun v h'' => RunL P B N ops rest k (updO e o.dst v) h'' Φ))) ∨
     (Region.wanted o (yieldE ops e) = false ∧ RunL P B N ops rest k (updO e o.dst undef) h Φ))
theorem RunL.sound {ops : Array Oper} : ∀ {l : List Oper} {idx : List Nat} {e : Env} {h : Heap}, idx.map (ops[·]?) = l.map some → RunL P B N ops l k e h Φ → Run P B N (.inRegion ops idx :: k) e h Φ := by
  intro l
  induction l with
  | nil =>
    intro idx e h hi hr
    have : idx = [] := by cases idx <;> simp_all
    subst this
    exact Run.region_end hr
  | cons o rest ih =>
    intro idx e h hi hr
    cases idx with
    | nil => simp at hi
    | cons i idx =>
      simp only [List.map_cons, List.cons.injEq] at hi
      obtain ⟨ho, hi⟩ := hi
      obtain ⟨hd, hnd, hr⟩ := hr
      refine Run.op ho hd hnd ?_
      rcases hr with ⟨hw, hsem⟩ | ⟨hw, hr⟩
      · exact .inl ⟨hw, semH_mono (fun nx h' ha => ha.mono (fun v h'' hk => ih hi hk)) hsem⟩
      · exact .inr ⟨hw, ih hi hr⟩
theorem range_map (l : List Oper) : (List.range l.toArray.size).map (l.toArray[·]?) = l.map some := by
  apply List.ext_getElem?
  intro i
  simp only [List.size_toArray, List.getElem?_map, List.getElem?_toArray]
  by_cases hi : i < l.length
  · simp [hi]
  · simp [hi]
theorem Run.ops {id : Nat} {l : List Oper} (hr : RunL P B N l.toArray l k e h Φ) : Run P B N (.code (.region id l.toArray false) :: k) e h Φ :=
  Run.region (RunL.sound (range_map l) hr)
end rules
end Go.Proofs.YtlehephbflgblaaGreat.H
namespace Go.Proofs.YtlehephbflgblaaGreat.H
open Go
set_option linter.unusedVariables false
section ends
variable {P : Program} {b : Frame} {tm : Array Value} {ds : List Nat} {k : List Item} {cs : List Frame} {w : World}
def done (b : Frame) (tm : Array Value) (dl : List Deferred) (todo : List Item) : Frame := { b with tmps := tm, todo := todo, defers := dl, mode := .returning }
theorem step_leave_fall (hr : b.roundOf = none) : step P (lone (frm b tm ds []) cs w) = .next (lone (done b tm (ds.map mark) []) cs w) :=
  step_lone_go (by simp [stepG, stepG.exec, frm, done, hr])
theorem step_leave_ret (hr : b.roundOf = none) : step P (lone (frm b tm ds (.code .ret :: k)) cs w) = .next (lone (done b tm (ds.map mark) (.code .ret :: k)) cs w) :=
  step_lone_go (by simp [stepG, stepG.exec, frm, done, hr])
theorem step_mark {r : Nat} {dl : List Deferred} (hw : w.heap[r]? = some (.deferred (some []))) :
    step P (lone (done b tm (mark r :: dl) k) cs w) = .next (lone (done b tm dl k) cs { w with heap := w.heap.setIfInBounds r (.deferred none) }) := by
  refine step_lone_go ?_
  have : (Instr.takeDeferred r).run P w = .ok [] { w with heap := w.heap.setIfInBounds r (.deferred none) } := by
    show Sem.run P ((getObj r).bind _) w = _
    simp only [getObj, Sem.bind, Sem.run, hw]
    show Sem.run P ((setObj r _).bind _) w = _
    simp only [setObj, Sem.bind, Sem.run, hw]
    rfl
  simp [stepG, unwind, done, mark, Sem.runT_eq, this, GStep.bare_after]
end ends
theorem unmark {P : Program} {B : RO} {b : Frame} {tm : Array Value} {k : List Item} {cs : List Frame} : ∀ (ds : List Nat) (F F' : Fr) (h : Heap) (w : World), MarksOK F' ds → (∀ r ∈ ds, F.blocks r = none) → F.Le F' → Rel B F' h w →
    ∃ w', Steps P (lone (done b tm (ds.map mark) k) cs w) (lone (done b tm [] k) cs w') ∧ Rel B F h w' := by
  intro ds
  induction ds with
  | nil => intro F F' h w _ _ hle R; exact ⟨w, .refl _ _, R.le hle⟩
  | cons r ds ih =>
    rintro F F' h w ⟨hnd, hm⟩ hn hle ⟨own, R⟩
    have hr := hm r (by simp)
    obtain ⟨a1, a2, a3⟩ := R.fr r _ hr
    rw [List.nodup_cons] at hnd
    have R2 : RelO B { F' with blocks := fun c => if c = r then none else F'.blocks c } h own { w with heap := w.heap.setIfInBounds r (.deferred none) } := by
      have hg : ∀ c, c ≠ r → (w.heap.setIfInBounds r (.deferred none))[c]? = w.heap[c]? := fun c hc => Array.getElem?_setIfInBounds_ne (Ne.symm hc)
      refine ⟨R.os, R.tape, R.output, by simpa using R.low, ?_, ?_, ?_, fun k p hk => by simpa using R.owned k p hk⟩
      · intro c o hc
        simp only at hc
        split at hc
        · cases hc
        · rename_i hne
          obtain ⟨b1, b2, b3⟩ := R.fr c o hc
          exact ⟨(hg c hne).trans b1, b2, b3⟩
      · intro c o hc
        obtain ⟨b1, b2, b3, b4⟩ := R.ro c o hc
        have hne : c ≠ r := fun e => by rw [e, hr] at b4; cases b4
        exact ⟨(hg c hne).trans b1, b2, b3, by simp only [if_neg hne]; exact b4⟩
      · intro c o hc
        obtain ⟨b1, b2⟩ := R.obj c o hc
        exact ⟨b1, b2.keep (hg c (fun e => by subst e; rw [a2] at hc; cases hc)) (fun k i hk => ⟨hk, hg k (fun e => by subst e; rw [a3] at hk; cases hk)⟩)⟩
    obtain ⟨w', hs, R'⟩ := ih F { F' with blocks := fun c => if c = r then none else F'.blocks c } h _ ⟨hnd.2, fun r' hr' => by
        have hne : r' ≠ r := fun e => hnd.1 (e ▸ hr')
        simp only [if_neg hne]
        exact hm r' (by simp [hr'])⟩ (fun r' hr' => hn r' (by simp [hr'])) ⟨fun c o hc => by
          have hne : c ≠ r := fun e => by rw [e, hn r (by simp)] at hc; cases hc
          simp only [if_neg hne]
          exact hle.blocks c o hc, hle.os, hle.tape, hle.output, hle.low⟩ ⟨own, R2⟩
    exact ⟨w', .head (step_mark a1) hs, R'⟩
def quietS {α : Type} : Sem α → Prop
  | .pure _ => True
  | .load _ _ k => ∀ v, quietS (k v)
  | .shape _ k => ∀ v, quietS (k v)
  | .frozen _ k => ∀ v, quietS (k v)
  | .getObj _ k => ∀ v, quietS (k v)
  | .program k => ∀ v, quietS (k v)
  | .mark _ k => quietS k
  | .halt _ => True
  | _ => False
theorem quietS_bind {α β : Type} {s : Sem α} {f : α → Sem β} (hs : quietS s) (hf : ∀ a, quietS (f a)) : quietS (s >>= f) := by
  show quietS (s.bind f)
  induction s with
  | pure a => exact hf a
  | load m a k ih => exact fun v => ih v (hs v)
  | shape r k ih => exact fun v => ih v (hs v)
  | frozen r k ih => exact fun v => ih v (hs v)
  | getObj r k ih => exact fun v => ih v (hs v)
  | program k ih => exact fun v => ih v (hs v)
  | mark m k ih => exact ih hs
  | halt x => trivial
  | _ => exact hs.elim
theorem quietS_run {P : Program} {α : Type} {s : Sem α} : ∀ {w w' : World} {a : α}, quietS s → s.run P w = .ok a w' → w' = w := by
  induction s with
  | pure a => intro w w' x _ h; cases h; rfl
  | load m a k ih =>
    intro w w' x hq h
    simp only [Sem.run] at h
    split at h
    · exact ih _ (hq _) h
    · split at h
      · exact ih _ (hq _) h
      · cases h
  | shape r k ih => intro w w' x hq h; exact ih _ (hq _) h
  | frozen r k ih => intro w w' x hq h; exact ih _ (hq _) h
  | getObj r k ih =>
    intro w w' x hq h
    simp only [Sem.run] at h
    split at h
    · cases h
    · exact ih _ (hq _) h
    · cases h
  | program k ih => intro w w' x hq h; exact ih _ (hq _) h
  | mark m k ih => intro w w' x hq h; exact ih hq h
  | halt x => intro w w' x _ h; cases h
  | store m a v k ih => intro w w' x hq; exact hq.elim
  | new o k ih => intro w w' x hq; exact hq.elim
  | freeze a n k ih => intro w w' x hq; exact hq.elim
  | setObj r o k ih => intro w w' x hq; exact hq.elim
  | choose q k ih => intro w w' x hq; exact hq.elim
  | sys c k ih => intro w w' x hq; exact hq.elim
theorem quiet_loadCells (a : Addr) : ∀ (n i : Nat) (acc : Array Value), quietS (loadCellsFrom a i n acc) := by
  intro n
  induction n with
  | zero => intro i acc; trivial
  | succ n ih => intro i acc; exact quietS_bind (fun v => trivial) (fun v => ih _ _)
theorem quiet_underlying (t : TypeId) : quietS (underlying t) := quietS_bind (fun _ => trivial) (fun p => by cases p.underlying t <;> trivial)
theorem quiet_sizeOf (t : TypeId) : quietS (sizeOf t) := quietS_bind (quietS_bind (fun _ => trivial) (fun p => by cases p.info? t <;> trivial)) (fun _ => trivial)
theorem quiet_loadVar (t : TypeId) (a : Addr) : quietS (loadVar t a) := by
  unfold loadVar
  refine quietS_bind (quietS_bind (quiet_underlying t) (fun d => by cases d <;> trivial)) (fun b => ?_)
  cases b
  · exact fun v => trivial
  · exact quietS_bind (quiet_sizeOf t) fun n => quietS_bind (quiet_loadCells a n 0 #[]) (fun _ => trivial)
def loadH (P : Program) (B : RO) (h : Heap) (t : TypeId) (A : Addr) (v : Value) : Prop := semH P B (loadVar t A) h (fun v' h' => v' = v ∧ h' = h)
def resH (P : Program) (B : RO) (h : Heap) (e : Env) : List ResultVar → (List Value → Prop) → Prop
  | [], K => K []
  | .tmp t :: rs, K => resH P B h e rs (fun vs => K (e t :: vs))
  | .cell a t :: rs, K => ∃ A v, e a = .pointer (some A) ∧ loadH P B h t A v ∧ resH P B h e rs (fun vs => K (v :: vs))
def resSem (tm : Array Value) : ResultVar → Sem Value
  | .tmp t => pure (tm.getD t undef)
  | .cell a t => do loadVar t (← asAddr (tm.getD a undef))
def pack : List Value → Value
  | [v] => v
  | vs => .tuple vs.toArray
theorem pack_eq (vs : List Value) : (if h : vs.toArray.size = 1 then vs.toArray[0] else Value.tuple vs.toArray) = pack vs := by
  match vs with
  | [] => rfl
  | [v] => rfl
  | _ :: _ :: _ => simp [pack]
theorem resH_run {P : Program} {B : RO} {F : Fr} {h : Heap} {e : Env} {w : World} {tm : Array Value} {N : Nat} (he : EnvOK tm N e) (R : Rel B F h w) : ∀ (rs : List ResultVar) (K : List Value → Prop), resH P B h e rs K →
    ∃ vs, (rs.mapM (resSem tm)).run P w = Result.ok vs w ∧ K vs := by
  intro rs
  induction rs with
  | nil => intro K hK; exact ⟨[], rfl, hK⟩
  | cons r rs ih =>
    intro K hK
    cases r with
    | tmp t =>
      obtain ⟨vs, h1, h2⟩ := ih _ hK
      refine ⟨e t :: vs, ?_, h2⟩
      rw [List.mapM_cons]
      simp only [resSem, he.get, pure_bind]
      rw [Sem.run_bind, h1]
      rfl
    | cell a t =>
      obtain ⟨A, v, ha, hl, hK⟩ := hK
      obtain ⟨vs, h1, h2⟩ := ih _ hK
      obtain ⟨v', w', h', hr, _, rfl, _⟩ := semH_sound hl R
      have hw := quietS_run (quiet_loadVar t A) hr
      subst hw
      refine ⟨v' :: vs, ?_, h2⟩
      rw [List.mapM_cons]
      simp only [resSem, he.get, ha]
      have : (asAddr (.pointer (some A)) : Sem Addr) = pure A := rfl
      rw [this]
      simp only [pure_bind]
      rw [Sem.run_bind, hr]
      simp only [Result.andThen]
      rw [Sem.run_bind, h1]
      rfl
theorem results_resH {P : Program} {B : RO} {F : Fr} {h : Heap} {e : Env} {w : World} {tm : Array Value} {N : Nat} (he : EnvOK tm N e) (R : Rel B F h w) {fn : Func} {rs : List ResultVar} (hrs : fn.results = rs.toArray) {K : List Value → Prop}
    (hK : resH P B h e rs K) : ∃ vs, (results fn tm).run P w = .ok (pack vs) w ∧ K vs := by
  obtain ⟨vs, h1, h2⟩ := resH_run he R rs K hK
  refine ⟨vs, ?_, h2⟩
  have hun : results fn tm = (do let vs ← fn.results.mapM (resSem tm); pure (if h : vs.size = 1 then vs[0] else .tuple vs)) := rfl
  rw [hun, hrs, List.mapM_toArray, Sem.run_bind, ← bind_pure_comp, Sem.run_bind, h1]
  simp only [Result.andThen]
  exact congrArg (fun v => Result.ok v w) (pack_eq vs)
theorem Spec.of_run {P : Program} {B : RO} {f : FuncId} {fn : Func} {c : Code} {rs : List ResultVar} {N : Nat} {args : Array Value} {h : Heap} {Post : Value → Heap → Prop} (hf : P.funcs[f]? = some fn) (hc : fn.body = some c) (hrs : fn.results = rs.toArray) (hN : fn.ntmps = N) (hn : args.size ≤ N)
    (hr : Run P B N [.code c] (env0 args) h (fun j e h' => (j = .fall ∨ j = .ret) ∧ resH P B h' e rs (fun vs => Fin B h' (Post (pack vs))))) :
    Spec P B f args h Post := by
  subst hN
  intro F w R cs
  let b : Frame := { (default : Frame) with fn := f, kind := .normal, roundOf := none }
  have hent : Frame.enter P f args .normal = frm b (args ++ Array.replicate (fn.ntmps - args.size) undef) [] [.code c] := by
    simp [Frame.enter, frm, b, hf, hc]
  have he : EnvOK (args ++ Array.replicate (fn.ntmps - args.size) undef) fn.ntmps (env0 args) := by
    refine ⟨by simp; omega, fun t => ?_⟩
    simp only [env0, Array.getD_eq_getD_getElem?]
    by_cases ht : t < args.size
    · rw [Array.getElem?_append_left ht]
    · rw [Array.getElem?_append_right (by omega)]
      have h1 : args[t]? = none := Array.getElem?_eq_none (by omega)
      rw [h1]
      simp only [Array.getElem?_replicate]
      split <;> rfl
  obtain ⟨F', j, todo', tm', ds', w', e', h', s1, s2, s3, s4, s5, R6, s7, hj, hres⟩ := hr F w b cs _ [] (fun l hl => by simp [b] at hl) ⟨by simp, by simp⟩ R he
  have hb : b.roundOf = none := rfl
  have hleave : ∃ k, Steps P (lone (frm b tm' ds' todo') cs w') (lone (done b tm' (ds'.map mark) k) cs w') := by
    rcases hj with rfl | rfl
    · exact ⟨[], by rw [show todo' = [] from s2]; exact .one (step_leave_fall hb)⟩
    · obtain ⟨k, hk⟩ := s2
      exact ⟨_, by rw [hk]; exact .one (step_leave_ret hb)⟩
  obtain ⟨k, hk⟩ := hleave
  have hnew : ∀ r ∈ ds', F.blocks r = none := fun r hr' => (s4.2 r hr').resolve_left (by simp)
  obtain ⟨w2, hu, R2⟩ := unmark (P := P) (b := b) (tm := tm') (k := k) (cs := cs) ds' F F' h' w' s4.1 hnew s5 R6
  obtain ⟨vs, hrun, h4, hent4, hP⟩ := results_resH s7 R2 hrs hres
  refine ⟨.returned (pack vs), w2, done b tm' [] k, ⟨_, h4, rfl, hent4.2 F w2 R2, hP⟩, ?_, rfl, ?_⟩
  · show Steps P _ _
    rw [hent]
    exact Steps.trans s1 (Steps.trans hk hu)
  · exact ⟨rfl, rfl, rfl, fn, hf, hrun⟩
theorem RelO.hide {B : RO} {F : Fr} {h : Heap} {own : Nat → Option (Nat × Nat)} {w : World} {r : Nat} {o : Obj} (R : RelO B F (h.set r (.raw o)) own w) (hr : h r = none) (hB : B r = none) : RelO B (F.add r o) h own w := by
  obtain ⟨a1, a2⟩ := R.obj r (.raw o) (Heap.set_same _ _ _)
  refine ⟨R.os, R.tape, R.output, R.low, ?_, ?_, ?_, R.owned⟩
  · intro c o' hc
    simp only [Fr.add] at hc
    split at hc
    · rename_i e
      subst e
      cases hc
      exact ⟨a2, hr, a1⟩
    · rename_i hne
      obtain ⟨b1, b2, b3⟩ := R.fr c o' hc
      exact ⟨b1, by rwa [Heap.set_ne _ _ _ _ hne] at b2, b3⟩
  · intro c o' hc
    obtain ⟨b1, b2, b3, b4⟩ := R.ro c o' hc
    have hne : c ≠ r := fun e => by rw [e, hB] at hc; cases hc
    exact ⟨b1, by rwa [Heap.set_ne _ _ _ _ hne] at b2, b3, by simp only [Fr.add, if_neg hne]; exact b4⟩
  · intro c o' hc
    have hne : c ≠ r := fun e => by rw [e, hr] at hc; cases hc
    exact R.obj c o' (by rw [Heap.set_ne _ _ _ _ hne]; exact hc)
theorem RelO.unhide {B : RO} {F F' : Fr} {h : Heap} {own : Nat → Option (Nat × Nat)} {w : World} {r : Nat} {o : Obj} (R : RelO B F' h own w) (hle : F.Le F') (hr : F'.blocks r = some o) (hF : F.blocks r = none) : RelO B F (h.set r (.raw o)) own w := by
  obtain ⟨a1, a2, a3⟩ := R.fr r o hr
  have R' := R.le hle
  refine ⟨R'.os, R'.tape, R'.output, R'.low, ?_, ?_, ?_, R'.owned⟩
  · intro c o' hc
    have hne : c ≠ r := fun e => by rw [e, hF] at hc; cases hc
    obtain ⟨b1, b2, b3⟩ := R'.fr c o' hc
    exact ⟨b1, by rw [Heap.set_ne _ _ _ _ hne]; exact b2, b3⟩
  · intro c o' hc
    obtain ⟨b1, b2, b3, b4⟩ := R.ro c o' hc
    have hne : c ≠ r := fun e => by rw [e, hr] at b4; cases b4
    exact ⟨b1, by rw [Heap.set_ne _ _ _ _ hne]; exact b2, b3, (R'.ro c o' hc).2.2.2⟩
  · intro c o' hc
    by_cases hne : c = r
    · subst hne
      rw [Heap.set_same] at hc
      cases hc
      exact ⟨a3, a1⟩
    · rw [Heap.set_ne _ _ _ _ hne] at hc
      exact R.obj c o' hc
theorem RelO.forget {B : RO} {F : Fr} {h h' : Heap} {own : Nat → Option (Nat × Nat)} {w : World} (R : RelO B F h own w) (hh : ∀ c o, h' c = some o → h c = some o) : RelO B F h' own w := by
  have hn : ∀ c, h c = none → h' c = none := fun c hc => by
    cases h1 : h' c with
    | none => rfl
    | some o => rw [hh c o h1] at hc; cases hc
  exact ⟨R.os, R.tape, R.output, R.low, fun c o hc => ⟨(R.fr c o hc).1, hn c (R.fr c o hc).2.1, (R.fr c o hc).2.2⟩, fun c o hc => ⟨(R.ro c o hc).1, hn c (R.ro c o hc).2.1, (R.ro c o hc).2.2⟩, fun c o hc => R.obj c o (hh c o hc), R.owned⟩
theorem Ent.forget {B : RO} {h h' : Heap} (hh : ∀ c o, h' c = some o → h c = some o) : Ent B h h' := ⟨fun c e => (by
    cases e' : h' c with
    | none => rfl
    | some o => rw [hh c o e'] at e; cases e), fun F w ⟨own, R⟩ => ⟨own, R.forget hh⟩⟩
theorem Ent.del (B : RO) (h : Heap) (b : Nat) : Ent B h (h.del b) := Ent.forget fun c o hc => by
  simp only [Heap.del] at hc
  split at hc
  · cases hc
  · exact hc
end Go.Proofs.YtlehephbflgblaaGreat.H
namespace Go.Proofs.YtlehephbflgblaaGreat.H
open Go
set_option linter.unusedVariables false
theorem RelO.rehide {B : RO} {F : Fr} {h : Heap} {own : Nat → Option (Nat × Nat)} {w : World} {l : Nat} {o : Obj} (R : RelO B F h own w) (hl : F.blocks l = some o) (o' : Obj) :
    RelO B (F.add l o') h own { w with heap := w.heap.setIfInBounds l o' } := by
  obtain ⟨a1, a2, a3⟩ := R.fr l o hl
  have hg : ∀ c, c ≠ l → (w.heap.setIfInBounds l o')[c]? = w.heap[c]? := fun c hc => Array.getElem?_setIfInBounds_ne (Ne.symm hc)
  refine ⟨R.os, R.tape, R.output, by simpa [Fr.add] using R.low, ?_, ?_, ?_, fun k p hk => by simpa using R.owned k p hk⟩
  · intro c o'' hc
    simp only [Fr.add] at hc
    split at hc
    · rename_i e
      subst e
      cases hc
      exact ⟨Array.getElem?_setIfInBounds_self_of_lt (lt_of_get a1), a2, a3⟩
    · rename_i hne
      obtain ⟨b1, b2, b3⟩ := R.fr c o'' hc
      exact ⟨(hg c hne).trans b1, b2, b3⟩
  · intro c o'' hc
    obtain ⟨b1, b2, b3, b4⟩ := R.ro c o'' hc
    have hne : c ≠ l := fun e => by rw [e, hl] at b4; cases b4
    exact ⟨(hg c hne).trans b1, b2, b3, by simp only [Fr.add, if_neg hne]; exact b4⟩
  · intro c o'' hc
    obtain ⟨b1, b2⟩ := R.obj c o'' hc
    exact ⟨b1, b2.keep (hg c (fun e => by subst e; rw [a2] at hc; cases hc)) (fun k i hk => ⟨hk, hg k (fun e => by subst e; rw [a3] at hk; cases hk)⟩)⟩
section rounds
variable {P : Program} {b : Frame} {tm : Array Value} {ds : List Nat} {k : List Item} {cs : List Frame} {w : World} {l : Nat} {r : Loop}
theorem run_getLoop (hw : w.heap[l]? = some (.loop r)) : (Instr.getLoop l).run P w = .ok r w := by
  show Sem.run P ((getObj l).bind _) w = _
  simp only [getObj, Sem.bind, Sem.run, hw]
  rfl
theorem run_setObj_loop (hw : w.heap[l]? = some (.loop r)) (o : Obj) : (setObj l o).run P w = .ok () { w with heap := w.heap.setIfInBounds l o } := by
  simp only [setObj, Sem.run, hw]
theorem run_beginRound (hw : w.heap[l]? = some (.loop r)) (hs : r.state = .ready) : (Instr.beginRound l).run P w = .ok () { w with heap := w.heap.setIfInBounds l (.loop { r with state := .busy }) } := by
  unfold Instr.beginRound
  rw [Sem.run_bind, run_getLoop hw]
  simp only [Result.andThen]
  rw [Sem.run_bind, run_setObj_loop hw]
  simp only [Result.andThen, hs]
  rfl
theorem run_endRound (hw : w.heap[l]? = some (.loop r)) (j : Option Code) : (Instr.endRound l j).run P w = .ok (.bool j.isNone) { w with heap := w.heap.setIfInBounds l (.loop { r with state := if j.isNone then .ready else .done, pending := j }) } := by
  unfold Instr.endRound
  rw [Sem.run_bind, run_getLoop hw]
  simp only [Result.andThen]
  rw [Sem.run_bind, run_setObj_loop hw]
  rfl
theorem run_endLoop (hw : w.heap[l]? = some (.loop r)) (hs : r.state ≠ .busy) : (Instr.endLoop l).run P w = .ok r.pending { w with heap := w.heap.setIfInBounds l (.loop { r with state := .exhausted }) } := by
  unfold Instr.endLoop
  rw [Sem.run_bind, run_getLoop hw]
  have : (r.state == .busy) = false := by cases hb : r.state <;> simp_all
  simp only [Result.andThen, this, Bool.false_eq_true, if_false]
  rw [Sem.run_bind]
  simp only [pure, Sem.run, Result.andThen]
  rw [run_setObj_loop hw]
theorem step_beginRound {w' : World} (hro : b.roundOf = some l) (hr : (Instr.beginRound l).run P w = .ok () w') :
    step P (lone (frm b tm ds (.beginRound :: k)) cs w) = .next (lone (frm b tm ds k) cs w') := by
  refine step_lone_go ?_
  simp [stepG, stepG.exec, frm, hro, stepG.apply, Sem.runT_eq, hr, Result.andThen, GStep.bare_after, Frame.finish]
def jumpOf : Lv → Option (Option Code)
  | .fall => some none
  | .ret => some (some .ret)
  | .exit id => some (some (.exit id))
  | .begin _ => none
theorem step_round_leave {lv : Lv} {j : Option Code} {todo : List Item} {c : Frame} {v : Value} {w' : World} (hro : b.roundOf = some l) (hk : b.kind = .normal) (hl : AtLeave todo lv) (hj : jumpOf lv = some j) (hr : (Instr.endRound l j).run P w = .ok v w') :
    step P (lone (frm b tm ds todo) (c :: cs) w) = .next (lone (c.finish v) cs w') := by
  refine step_lone_go ?_
  cases lv with
  | fall =>
    cases hj
    rw [show todo = [] from hl]
    simp [stepG, stepG.exec, frm, hro, hk, Sem.runT_eq, hr, doReturn, GStep.bare_after]
  | ret =>
    cases hj
    obtain ⟨k, rfl⟩ := hl
    simp [stepG, stepG.exec, frm, hro, hk, Sem.runT_eq, hr, doReturn, GStep.bare_after]
  | exit id =>
    cases hj
    obtain ⟨k, rfl, hex⟩ := hl
    simp [stepG, stepG.exec, frm, hro, hk, hex, Sem.runT_eq, hr, doReturn, GStep.bare_after]
  | begin k => cases hj
end rounds
theorem RoundSpec.of_run {P : Program} {B : RO} {l : Nat} {f : FuncId} {tmps : Array Value} {assign body : Code} {N : Nat} {e : Env} {h : Heap} {rec : Loop} {K : Value → Heap → Prop} (hl : h l = none) (hB : B l = none) (hst : rec.state = .ready) (he : EnvOK tmps N e)
    (hrun : Run P B N [.code assign, .beginRound, .code body] e h (fun lv e1 h1 => lv = .begin [.code body] ∧ Run P B N [.code body] e1 h1 (fun lv2 e2 h2 =>
      ∃ j, jumpOf lv2 = some j ∧ (h2 l = none → K (.bool j.isNone) (h2.set l (.raw (.loop { rec with state := if j.isNone then .ready else .done, pending := j }))))))) :
    RoundSpec P B l f tmps assign body (h.set l (.raw (.loop rec))) K := by
  rintro F w c cs ⟨own, R⟩
  have hFl : F.blocks l = none := by
    cases hc : F.blocks l with
    | none => rfl
    | some o => have := (R.fr l o hc).2.1; rw [Heap.set_same] at this; cases this
  have R1 := R.hide hl hB
  let b : Frame := { (default : Frame) with fn := f, kind := .normal, roundOf := some l }
  have hro : b.roundOf = some l := rfl
  have hent : Frame.round l f tmps assign body .normal = frm b tmps [] [.code assign, .beginRound, .code body] := by simp [Frame.round, frm, b]
  have hadd : ∀ (G : Fr) (o : Obj), (G.add l o).blocks l = some o := fun G o => by simp [Fr.add]
  obtain ⟨F1, j1, todo1, tm1, ds1, w1, e1, h1, s1, s2, s3, s4, s5, ⟨own1, R6⟩, s7, rfl, hbody⟩ := hrun (F.add l (.loop rec)) w b (c :: cs) tmps [] (fun l' hl' => by cases hl'; exact ⟨rfl, rec, hadd _ _⟩) ⟨by simp, by simp⟩ ⟨own, R1⟩ he
  obtain ⟨rfl, r1, _⟩ := s3 l hro
  rw [show todo1 = .beginRound :: [.code body] from s2] at s1
  have hF1 := s5.blocks l _ (hadd F (.loop rec))
  have hw1 := (R6.fr l _ hF1).1
  have st1 := step_beginRound (P := P) (b := b) (tm := tm1) (ds := []) (k := [.code body]) (cs := c :: cs) hro (run_beginRound (P := P) hw1 hst)
  have R7 := R6.rehide hF1 (.loop { rec with state := .busy })
  obtain ⟨F2, j2, todo2, tm2, ds2, w2, e2, h2, t1, t2, t3, t4, t5, ⟨own2, R8⟩, t7, j, hj, hK⟩ := hbody (F1.add l (.loop { rec with state := .busy })) _ b (c :: cs) tm1 [] (fun l' hl' => by cases hl'; exact ⟨rfl, _, hadd _ _⟩) ⟨by simp, by simp⟩ ⟨own1, R7⟩ s7
  obtain ⟨rfl, r2, _⟩ := t3 l hro
  have hF2 := t5.blocks l _ (hadd F1 (.loop { rec with state := .busy }))
  have hw2 := (R8.fr l _ hF2).1
  have st2 := step_round_leave (P := P) (b := b) (tm := tm2) (ds := []) (cs := cs) (c := c) hro rfl t2 hj (run_endRound (P := P) hw2 j)
  have R9 := R8.rehide hF2 (.loop { rec with state := if j.isNone then .ready else .done, pending := j })
  have hle : F.Le (F2.add l (.loop { rec with state := if j.isNone then .ready else .done, pending := j })) := by
    refine ⟨fun c' o hc => ?_, ?_, ?_, ?_, ?_⟩
    · have hne : c' ≠ l := fun e => by rw [e, hFl] at hc; cases hc
      have h1' := s5.blocks c' o (by simp only [Fr.add, if_neg hne]; exact hc)
      have h2' := t5.blocks c' o (by simp only [Fr.add, if_neg hne]; exact h1')
      simp only [Fr.add, if_neg hne]; exact h2'
    · exact t5.os.trans s5.os
    · exact t5.tape.trans s5.tape
    · exact t5.output.trans s5.output
    · exact t5.low.trans s5.low
  refine ⟨_, _, _, ?_, ⟨own2, R9.unhide hle (hadd _ _) hFl⟩, hK (R8.fr l _ hF2).2.1⟩
  rw [hent]
  exact Steps.trans s1 (.head st1 (Steps.trans t1 (.one st2)))
def Goes (P : Program) (g : FuncId) : Prop := ∃ fn, P.funcs[g]? = some fn ∧ (fn.name == "runtime.NumGoroutine") = false ∧ fn.body.isNone = false
theorem run_callFunc {P : Program} {g : FuncId} (hg : Goes P g) (args : Array Value) (w : World) : (callFunc g args).run P w = .ok (.enter g args) w := by
  obtain ⟨fn, h1, h2, h3⟩ := hg
  show Sem.run P ((program).bind _) w = _
  simp only [program, Sem.bind, Sem.run, h1, h2, h3, Bool.false_eq_true, if_false]
  rfl
theorem semH_callFunc {P : Program} {B : RO} {g : FuncId} (hg : Goes P g) {args : Array Value} {h : Heap} {K : Next → Heap → Prop} (hk : K (.enter g args) h) : semH P B (callFunc g args) h K := by
  obtain ⟨fn, h1, h2, h3⟩ := hg
  show semH P B ((program).bind _) h K
  simp only [program, Sem.bind, semH, h1, h2, h3, Bool.false_eq_true, if_false]
  exact hk
def GoesX (P : Program) (g : FuncId) (e : Array Value → Sem Value) : Prop := ∃ fn, P.funcs[g]? = some fn ∧ (fn.name == "runtime.NumGoroutine") = false ∧ fn.body.isNone = true ∧ Extern.findNext fn = none ∧ Extern.find fn = some e
theorem semH_callX {P : Program} {B : RO} {g : FuncId} {e : Array Value → Sem Value} (hg : GoesX P g e) {args : Array Value} {h : Heap} {K : Next → Heap → Prop} (hk : semH P B (e args) h (fun v h' => K (.value v) h')) : semH P B (callFunc g args) h K := by
  obtain ⟨fn, h1, h2, h3, h4, h5⟩ := hg
  show semH P B ((program).bind _) h K
  simp only [program, Sem.bind, semH, h1, h2, h3, h4, h5, Bool.false_eq_true, if_false, if_true]
  show semH P B (Sem.mark _ _) h K
  show semH P B (e args >>= fun v => pure (.value v)) h K
  rw [semH_bind]
  exact hk
section rangeFunc
variable {P : Program} {B : RO} {N : Nat} {e : Env} {h : Heap} {Φ : Lv → Env → Heap → Prop} {k : List Item}
theorem step_rangeFunc {b : Frame} {tm : Array Value} {ds : List Nat} {cs : List Frame} {w : World} {f : Operand} {ps : Array Tmp} {assign body : Code} {l : Nat} {mk : List Nat} {w1 : World} {g : FuncId} {first captured : Array Value}
    (he : (Instr.enterLoop b.fn tm ps assign body b.roundOf).run P w = .ok (l, mk.map mark) w1) (hf : (frm b tm ds k).eval f = .func (.func g) first captured) (hg : Goes P g) :
    step P (lone (frm b tm ds (.code (.rangeFunc f ps assign body) :: k)) cs w) =
      .next (lone (Frame.enter P g (first ++ #[.func (.yield l) #[] #[]] ++ captured) .normal) (frm b tm (mk ++ ds) (.inRangeFunc l :: k) :: cs) w1) := by
  refine step_lone_go ?_
  have hrun : ∀ ρ : Operand → Value, ρ f = .func (.func g) first captured → ρ (.const (.func (.yield l) #[] #[])) = .func (.yield l) #[] #[] →
      (do let d ← resolve ρ { callee := .value f, args := #[.const (.func (.yield l) #[] #[])], argTypes := #[] } 0; invoke d.target d.args).run P w1 =
      .ok (.enter g (first ++ #[.func (.yield l) #[] #[]] ++ captured)) w1 := by
    intro ρ h1 h2
    rw [Sem.run_bind]
    have : resolve ρ { callee := .value f, args := #[.const (.func (.yield l) #[] #[])], argTypes := #[] } 0 = pure { target := .fn (.func g) captured, args := first ++ #[.func (.yield l) #[] #[]] } := by
      simp only [resolve, h1, Deferred.ofValue, List.map_toArray, List.map_cons, List.map_nil, h2]
    rw [this]
    simp only [pure, Sem.run, Result.andThen, invoke]
    exact run_callFunc hg _ _
  have hd : (frm b tm ds (.code (.rangeFunc f ps assign body) :: k)).defers = ds.map mark := rfl
  have hfn : (frm b tm ds (.code (.rangeFunc f ps assign body) :: k)).fn = b.fn := rfl
  have htm : (frm b tm ds (.code (.rangeFunc f ps assign body) :: k)).tmps = tm := rfl
  have hro : (frm b tm ds (.code (.rangeFunc f ps assign body) :: k)).roundOf = b.roundOf := rfl
  have htd : (frm b tm ds (.code (.rangeFunc f ps assign body) :: k)).todo = .code (.rangeFunc f ps assign body) :: k := rfl
  have hmd : (frm b tm ds (.code (.rangeFunc f ps assign body) :: k)).mode = .run := rfl
  simp only [stepG, hmd, stepG.exec, htd, hfn, htm, hro, Sem.runT_eq, he, hd, GStep.bare_after, stepG.apply, if_true]
  rw [hrun _ (by cases f <;> exact hf) rfl]
  simp [frm]
theorem run_enterLoop_none (fn : FuncId) (tm : Array Value) (ps : Array Tmp) (assign body : Code) (w : World) : (Instr.enterLoop fn tm ps assign body none).run P w =
    .ok (w.heap.size + 1, [w.heap.size].map mark) { w with heap := (w.heap.push (.deferred (some []))).push (.loop { state := .ready, pending := none, fn, tmps := tm, params := ps, assign, body, defers := w.heap.size }) } := by
  show Sem.run P ((newObj _).bind _) w = _
  simp only [newObj, Sem.bind, Sem.run]
  show Sem.run P ((newObj _).bind _) _ = _
  simp only [newObj, Sem.bind, Sem.run, Array.size_push]
  rfl
theorem run_enterLoop_some {l0 : Nat} {r0 : Loop} {w : World} (hw : w.heap[l0]? = some (.loop r0)) (fn : FuncId) (tm : Array Value) (ps : Array Tmp) (assign body : Code) : (Instr.enterLoop fn tm ps assign body (some l0)).run P w =
    .ok (w.heap.size, ([] : List Nat).map mark) { w with heap := w.heap.push (.loop { state := .ready, pending := none, fn, tmps := tm, params := ps, assign, body, defers := r0.defers }) } := by
  unfold Instr.enterLoop
  rw [Sem.run_bind, run_getLoop hw]
  rfl
theorem step_endRangeFunc {b : Frame} {tm : Array Value} {ds : List Nat} {cs : List Frame} {w w' : World} {l : Nat} {j : Option Code} (hr : (Instr.endLoop l).run P w = .ok j w') :
    step P (lone (frm b tm ds (.endRangeFunc l :: k)) cs w) = .next (lone (frm b tm ds ((j.map Item.code).toList ++ k)) cs w') :=
  step_lone_go (by simp [stepG, stepG.exec, frm, Sem.runT_eq, hr, GStep.bare_after])
theorem Run.rangeFunc {f : Operand} {ps : Array Tmp} {assign body : Code} {g : FuncId} {first captured : Array Value} (hf : evalE e f = .func (.func g) first captured) (hg : Goes P g)
    (hr : ∀ (l : Nat) (fnid : FuncId) (tm : Array Value) (r : Nat), EnvOK tm N e → h l = none → B l = none →
      Spec P B g (first ++ #[.func (.yield l) #[] #[]] ++ captured) (h.set l (.raw (.loop { state := .ready, pending := none, fn := fnid, tmps := tm, params := ps, assign, body, defers := r })))
        (fun v h1 => ∃ rec hh, hh l = none ∧ h1 = hh.set l (.raw (.loop rec)) ∧ rec.state ≠ .busy ∧ Run P B N ((rec.pending.map Item.code).toList ++ k) e hh Φ)) :
    Run P B N (.code (.rangeFunc f ps assign body) :: k) e h Φ := by
  rintro F w b cs tm ds r1 r2 ⟨own, R⟩ he
  obtain ⟨l, mk, w1, F1, rd, hent, hF1, hmk, hro1, R1, hlh, hBl⟩ : ∃ (l : Nat) (mk : List Nat) (w1 : World) (F1 : Fr) (rd : Nat), (Instr.enterLoop b.fn tm ps assign body b.roundOf).run P w = .ok (l, mk.map mark) w1 ∧ F.Le F1 ∧ MarksTo F ds F1 (mk ++ ds) ∧ RoundOK F1 b (mk ++ ds) ∧
      RelO B F1 (h.set l (.raw (.loop { state := .ready, pending := none, fn := b.fn, tmps := tm, params := ps, assign, body, defers := rd }))) own w1 ∧ h l = none ∧ B l = none := by
    cases hro : b.roundOf with
    | none =>
      obtain ⟨f1, f2, f3, f4⟩ := R.fresh
      have Ra := (R.push (.deferred (some []))).hide f1 f2
      obtain ⟨g1, g2, g3, g4⟩ := Ra.fresh
      have Rb := Ra.push (.loop { state := .ready, pending := none, fn := b.fn, tmps := tm, params := ps, assign, body, defers := w.heap.size })
      have hs : (w.heap.push (.deferred (some []))).size = w.heap.size + 1 := by simp
      rw [hs] at g1 g2 Rb
      refine ⟨_, _, _, _, _, run_enterLoop_none b.fn tm ps assign body w, Fr.le_add F _ f4, ⟨⟨?_, ?_⟩, ?_⟩, ?_, Rb, g1, g2⟩
      · refine List.nodup_cons.2 ⟨fun hm => ?_, r2.1⟩
        have := r2.2 _ hm
        rw [f4] at this; cases this
      · intro r hr'
        rcases List.mem_cons.1 hr' with rfl | hr'
        · simp [Fr.add]
        · exact (Fr.le_add F _ f4).blocks r _ (r2.2 r hr')
      · intro r hr'
        rcases List.mem_cons.1 hr' with rfl | hr'
        · exact .inr f4
        · exact .inl hr'
      · intro l' hl'; rw [hro] at hl'; cases hl'
    | some l0 =>
      obtain ⟨rfl, r0, hr0⟩ := r1 l0 hro
      obtain ⟨f1, f2, f3, f4⟩ := R.fresh
      have Rb := R.push (.loop { state := .ready, pending := none, fn := b.fn, tmps := tm, params := ps, assign, body, defers := r0.defers })
      exact ⟨_, _, _, F, _, run_enterLoop_some (R.fr l0 _ hr0).1 b.fn tm ps assign body, Fr.Le.refl F, .refl r2, r1, Rb, f1, f2⟩
  have hev : (frm b tm ds k).eval f = .func (.func g) first captured := by rw [eval_frm _ _ _ _ he]; exact hf
  have st1 := step_rangeFunc (P := P) (k := k) (cs := cs) hent hev hg
  obtain ⟨ed, w2, fr, ⟨v, h1, rfl, ⟨own2, R2⟩, rec, hh, hhl, rfl, hst, hrun⟩, hsteps, hfn, hleave⟩ := hr l b.fn tm rd he hlh hBl F1 w1 ⟨own, R1⟩ (frm b tm (mk ++ ds) (.inRangeFunc l :: k) :: cs)
  obtain ⟨a1, a2⟩ := R2.obj l _ (Heap.set_same _ _ _)
  have hfin : (frm b tm (mk ++ ds) (.inRangeFunc l :: k)).finish v = frm b tm (mk ++ ds) (.endRangeFunc l :: k) := by simp [Frame.finish, frm]
  have st2 : step P (lone fr (frm b tm (mk ++ ds) (.inRangeFunc l :: k) :: cs) w2) = .next (lone (frm b tm (mk ++ ds) (.endRangeFunc l :: k)) cs w2) := (step_leave_returned hleave).trans (by rw [hfin])
  have st3 := step_endRangeFunc (P := P) (k := k) (b := b) (tm := tm) (ds := mk ++ ds) (cs := cs) (run_endLoop (P := P) (w := w2) a2 hst)
  have R3 : RelO B F1 hh own2 { w2 with heap := w2.heap.setIfInBounds l (.loop { rec with state := .exhausted }) } := by
    refine RelO.forget (h := hh.set l (.raw (.loop { rec with state := .exhausted }))) ?_ (fun c o hc => by
      rw [Heap.set_ne _ _ _ _ (fun e => by rw [e, hhl] at hc; cases hc)]; exact hc)
    have := R2.change (w' := { w2 with heap := w2.heap.setIfInBounds l (.loop { rec with state := .exhausted }) }) (b := l) (o := .raw (.loop { rec with state := .exhausted })) (by simp [Heap.set_same]) rfl rfl rfl (by simp)
      (fun c hc _ => by simp only; exact Array.getElem?_setIfInBounds_ne (Ne.symm hc)) (by simp only [RepO]; exact Array.getElem?_setIfInBounds_self_of_lt (lt_of_get a2))
    rwa [Heap.set_set] at this
  obtain ⟨F', j, todo', tm', ds', w', e', h', s1, s2, s3, s4, s5, s6⟩ := hrun F1 _ b cs tm (mk ++ ds) hro1 hmk.1 ⟨own2, R3⟩ he
  refine ⟨F', j, todo', tm', ds', w', e', h', .head st1 (Steps.trans hsteps (.head st2 (.head st3 s1))), s2, s3, ⟨s4.1, ?_⟩, hF1.trans s5, s6⟩
  intro r hr'
  rcases s4.2 r hr' with h0 | h0
  · exact hmk.2 r h0
  · right
    cases hc : F.blocks r with
    | none => rfl
    | some o => rw [hF1.blocks r o hc] at h0; cases h0
end rangeFunc
def Opened (B : RO) (h : Heap) (b : Nat) (t : TypeId) (fs : List Fld) (n i : Nat) (e : TypeId) (sz : Nat) (xs : List Value) (v : Value) (h' : Heap) : Prop :=
  (v = .slice none 0 0 ∧ xs = [] ∧ h' = h.set b (.vec t (fs.set i (.plain v)) n)) ∨
  ∃ k m c nn, h k = none ∧ B k = none ∧ k ≠ b ∧ v = .slice (some ⟨k, 0, none⟩) m c ∧ m * sz = xs.length ∧ m ≤ c ∧ c * sz ≤ nn ∧ xs.length ≤ nn ∧
    h' = (h.set b (.vec t (fs.set i (.plain v)) n)).set k (.vec e (xs.map .plain) nn)
theorem Rel.opened {B : RO} {F : Fr} {h : Heap} {w : World} (R : Rel B F h w) {b : Nat} {t : TypeId} {fs : List Fld} {n i : Nat} {e : TypeId} {sz : Nat} {xs : List Value} (hb : h b = some (.vec t fs n)) (hi : fs[i]? = some (.own e sz xs)) :
    ∃ v h', Opened B h b t fs n i e sz xs v h' ∧ Rel B F h' w := by
  obtain ⟨own, R⟩ := R
  obtain ⟨hob, hle, cs, fr, h1, h2, h3, h4⟩ := R.obj _ _ hb
  have hil := (List.getElem?_eq_some_iff.1 hi).1
  have hlt : i < cs.size := by omega
  have hown := h4 i cs[i] (Array.getElem?_eq_getElem hlt) _ hi
  have hblk : ∀ (own' : Nat → Option (Nat × Nat)), (∀ k j, j ≠ i → own k = some (b, j) → own' k = some (b, j)) → RepO w own' b (.vec t (fs.set i (.plain cs[i])) n) := by
    intro own' hk
    refine ⟨by simpa using hle, cs, fr, h1, h2, h3, ?_⟩
    intro j v hv f hf
    rw [List.getElem?_set] at hf
    split at hf
    · rename_i e'
      subst e'
      rw [Array.getElem?_eq_getElem hlt] at hv
      simp only [Option.some.injEq] at hf
      cases hv
      subst hf
      rfl
    · rename_i e'
      exact (h4 j v hv f hf).keep (fun k hk' => ⟨hk k j (Ne.symm e') hk', rfl⟩)
  rcases hown with ⟨hv, hx⟩ | ⟨k, m, c, nn, hv, hk, hm, hmc, hc, hxn, hvec⟩
  · rw [hv] at hblk
    refine ⟨.slice none 0 0, _, .inl ⟨rfl, hx, rfl⟩, own, ?_⟩
    exact R.change (by simp [hb]) rfl rfl rfl (Nat.le_refl _) (fun _ _ _ => rfl) (hblk own (fun k j _ hk => hk))
  · rw [hv] at hblk
    have hkb : k ≠ b := fun e' => by rw [e', hob] at hk; cases hk
    have hkh : h k = none := by
      cases hc' : h k with
      | none => rfl
      | some o => have := (R.obj k o hc').1; rw [hk] at this; cases this
    have hkB : B k = none := by
      cases hc' : B k with
      | none => rfl
      | some o => have := (R.ro k o hc').2.2.1; rw [hk] at this; cases this
    refine ⟨_, _, .inr ⟨k, m, c, nn, hkh, hkB, hkb, rfl, hm, hmc, hc, hxn, rfl⟩, fun c' => if c' = k then none else own c', ?_⟩
    have hne : ∀ c' o, h c' = some o → c' ≠ k := fun c' o hc' e' => by rw [e', hkh] at hc'; cases hc'
    refine ⟨R.os, R.tape, R.output, R.low, ?_, ?_, ?_, ?_⟩
    · intro c' o hc'
      obtain ⟨b1, b2, b3⟩ := R.fr c' o hc'
      have hck : c' ≠ k := fun e' => by rw [e', hk] at b3; cases b3
      have hcb : c' ≠ b := fun e' => by rw [e', hb] at b2; cases b2
      exact ⟨b1, by rw [Heap.set_ne _ _ _ _ hck, Heap.set_ne _ _ _ _ hcb]; exact b2, by simp only [if_neg hck]; exact b3⟩
    · intro c' o hc'
      obtain ⟨b1, b2, b3, b4⟩ := R.ro c' o hc'
      have hck : c' ≠ k := fun e' => by rw [e', hk] at b3; cases b3
      have hcb : c' ≠ b := fun e' => by rw [e', hb] at b2; cases b2
      exact ⟨b1, by rw [Heap.set_ne _ _ _ _ hck, Heap.set_ne _ _ _ _ hcb]; exact b2, by simp only [if_neg hck]; exact b3, b4⟩
    · intro c' o hc'
      by_cases hck : c' = k
      · subst hck
        rw [Heap.set_same] at hc'
        cases hc'
        refine ⟨by simp, by simpa using hxn, hvec.imp rfl ?_⟩
        intro j u hu f hf
        rw [List.getElem?_map] at hf
        cases hx : xs[j]? with
        | none => rw [hx] at hf; cases hf
        | some x => rw [hx] at hf; cases hf; exact hu x hx
      · rw [Heap.set_ne _ _ _ _ hck] at hc'
        by_cases hcb : c' = b
        · subst hcb
          rw [Heap.set_same] at hc'
          cases hc'
          refine ⟨by simp only [if_neg hck]; exact hob, hblk _ ?_⟩
          intro k' j hj hk'
          have : k' ≠ k := fun e' => by rw [e', hk] at hk'; cases hk'; exact hj rfl
          simp only [if_neg this]; exact hk'
        · rw [Heap.set_ne _ _ _ _ hcb] at hc'
          obtain ⟨b1, b2⟩ := R.obj c' o hc'
          refine ⟨by simp only [if_neg hck]; exact b1, b2.keep rfl (fun k' j hk' => ⟨?_, rfl⟩)⟩
          have : k' ≠ k := fun e' => by rw [e', hk] at hk'; cases hk'; exact hcb rfl
          simp only [if_neg this]; exact hk'
    · intro k' p hk'
      split at hk'
      · cases hk'
      · exact R.owned k' p hk'
theorem Ent.close {B : RO} {h : Heap} {b k : Nat} {t : TypeId} {fs : List Fld} {n i m c nn : Nat} {e : TypeId} {sz : Nat} {xs : List Value} (hb : h b = some (.vec t fs n)) (hi : fs[i]? = some (.plain (.slice (some ⟨k, 0, none⟩) m c)))
    (hk : h k = some (.vec e (xs.map .plain) nn)) (hne : k ≠ b) (hm : m * sz = xs.length) (hmc : m ≤ c) (hc : c * sz ≤ nn) : Ent B h ((h.del k).set b (.vec t (fs.set i (.own e sz xs)) n)) := by
  refine ⟨fun c' e' => ?_, ?_⟩
  · have hcb : c' ≠ b := fun x => by rw [x, hb] at e'; cases e'
    rw [Heap.set_ne _ _ _ _ hcb]
    by_cases hck : c' = k
    · rw [hck, Heap.del_same]
    · rw [Heap.del_ne _ _ _ hck]; exact e'
  rintro F w ⟨own, R⟩
  obtain ⟨hob, hle, cs, fr, h1, h2, h3, h4⟩ := R.obj _ _ hb
  obtain ⟨hok, hxn, hvec⟩ := R.obj _ _ hk
  have hil := (List.getElem?_eq_some_iff.1 hi).1
  have hlt : i < cs.size := by omega
  have hkl := hvec.lt
  refine ⟨fun c' => if c' = k then some (b, i) else own c', R.os, R.tape, R.output, R.low, ?_, ?_, ?_, ?_⟩
  · intro c' o hc'
    obtain ⟨b1, b2, b3⟩ := R.fr c' o hc'
    have hck : c' ≠ k := fun e' => by rw [e', hk] at b2; cases b2
    have hcb : c' ≠ b := fun e' => by rw [e', hb] at b2; cases b2
    exact ⟨b1, by rw [Heap.set_ne _ _ _ _ hcb, Heap.del_ne _ _ _ hck]; exact b2, by simp only [if_neg hck]; exact b3⟩
  · intro c' o hc'
    obtain ⟨b1, b2, b3, b4⟩ := R.ro c' o hc'
    have hck : c' ≠ k := fun e' => by rw [e', hk] at b2; cases b2
    have hcb : c' ≠ b := fun e' => by rw [e', hb] at b2; cases b2
    exact ⟨b1, by rw [Heap.set_ne _ _ _ _ hcb, Heap.del_ne _ _ _ hck]; exact b2, by simp only [if_neg hck]; exact b3, b4⟩
  · have hkeep : ∀ k' p, own k' = some p → (fun c' => if c' = k then some (b, i) else own c') k' = some p := by
      intro k' p hk'
      have : k' ≠ k := fun e' => by rw [e', hok] at hk'; cases hk'
      simp only [if_neg this]; exact hk'
    intro c' o hc'
    by_cases hcb : c' = b
    · subst hcb
      rw [Heap.set_same] at hc'
      cases hc'
      refine ⟨by simp only [if_neg (Ne.symm hne)]; exact hob, by simpa using hle, cs, fr, h1, h2, h3, ?_⟩
      intro j v hv f hf
      rw [List.getElem?_set] at hf
      split at hf
      · rename_i e'
        subst e'
        rw [Array.getElem?_eq_getElem hlt] at hv
        simp only [Option.some.injEq] at hf
        cases hv
        subst hf
        have hv := h4 i cs[i] (Array.getElem?_eq_getElem hlt) _ hi
        simp only [RepF] at hv
        refine .inr ⟨k, m, c, nn, hv, by simp, hm, hmc, hc, by simpa using hxn, hvec.imp rfl ?_⟩
        intro j u hu x hx
        exact hu (.plain x) (by rw [List.getElem?_map, hx]; rfl)
      · rename_i e'
        exact (h4 j v hv f hf).keep (fun k' hk' => ⟨hkeep k' _ hk', rfl⟩)
    · rw [Heap.set_ne _ _ _ _ hcb] at hc'
      by_cases hck : c' = k
      · subst hck
        rw [Heap.del_same] at hc'
        cases hc'
      · rw [Heap.del_ne _ _ _ hck] at hc'
        obtain ⟨b1, b2⟩ := R.obj c' o hc'
        exact ⟨by simp only [if_neg hck]; exact b1, b2.keep rfl (fun k' j hk' => ⟨hkeep k' _ hk', rfl⟩)⟩
  · intro k' p hk'
    split at hk'
    · rename_i e'; rw [e']; exact hkl
    · exact R.owned k' p hk'
theorem Ent.close_nil {B : RO} {h : Heap} {b : Nat} {t : TypeId} {fs : List Fld} {n i : Nat} {e : TypeId} {sz : Nat} (hb : h b = some (.vec t fs n)) (hi : fs[i]? = some (.plain (.slice none 0 0))) : Ent B h (h.set b (.vec t (fs.set i (.own e sz [])) n)) := by
  refine ⟨fun c' e' => by rw [Heap.set_ne _ _ _ _ (fun x => by rw [x, hb] at e'; cases e')]; exact e', ?_⟩
  rintro F w ⟨own, R⟩
  obtain ⟨hob, hle, cs, fr, h1, h2, h3, h4⟩ := R.obj _ _ hb
  have hil := (List.getElem?_eq_some_iff.1 hi).1
  have hlt : i < cs.size := by omega
  refine ⟨own, R.change (by simp [hb]) rfl rfl rfl (Nat.le_refl _) (fun _ _ _ => rfl) ⟨by simpa using hle, cs, fr, h1, h2, h3, ?_⟩⟩
  intro j v hv f hf
  rw [List.getElem?_set] at hf
  split at hf
  · rename_i e'
    subst e'
    rw [Array.getElem?_eq_getElem hlt] at hv
    simp only [Option.some.injEq] at hf
    cases hv
    subst hf
    have hv := h4 i cs[i] (Array.getElem?_eq_getElem hlt) _ hi
    exact .inl ⟨hv, rfl⟩
  · exact h4 j v hv f hf
end Go.Proofs.YtlehephbflgblaaGreat.H
namespace Go.Proofs.YtlehephbflgblaaGreat.H
open Go
set_option linter.unusedVariables false
section
variable {P : Program} {B : RO} {N : Nat} {ops : Array Oper} {k : List Item} {Φ : Lv → Env → Heap → Prop} {C : Heap → Prop}
theorem updO_comm (e : Env) {x y : Option Nat} (v u : Value) (h : ∀ d, x = some d → y ≠ some d) : updO (updO e x v) y u = updO (updO e y u) x v := by
  cases x with
  | none => rfl
  | some d =>
    cases y with
    | none => rfl
    | some c =>
      have hne : d ≠ c := fun he => h d rfl (he ▸ rfl)
      funext t
      simp only [updO]
      by_cases h1 : t = d
      · subst h1
        rw [upd_ne _ _ _ _ hne, upd_same, upd_same]
      · by_cases h2 : t = c
        · subst h2
          rw [upd_same, upd_ne _ _ _ _ h1, upd_same]
        · rw [upd_ne _ _ _ _ h2, upd_ne _ _ _ _ h1, upd_ne _ _ _ _ h1, upd_ne _ _ _ _ h2]
theorem evalE_put {e : Env} {dst : Option Tmp} {v : Value} {x : Operand} (h : ∀ d, dst = some d → x ≠ .tmp d) : evalE (updO e dst v) x = evalE e x := by
  cases dst with
  | none => rfl
  | some d =>
    cases x with
    | tmp t =>
      have hne : t ≠ d := fun e => h d rfl (e ▸ rfl)
      exact upd_ne _ _ _ _ hne
    | _ => rfl
theorem execOp_putE (o : Oper) (hs : ∀ cs b, o.op ≠ .select cs b) (e : Env) (dst : Option Tmp) (v : Value) (h : ∀ d, dst = some d → d ∉ o.looksAt ops) : execOp (evalE (updO e dst v)) o = execOp (evalE e) o :=
  execOp_congr o hs fun x hx => evalE_put fun d hd hxd => h d hd (by
    subst hxd
    exact List.mem_append_left _ (List.mem_filterMap.2 ⟨.tmp d, by simpa using hx, rfl⟩))
theorem wanted_putE (o : Oper) (e : Env) (dst : Option Tmp) (v : Value) (h : ∀ d, dst = some d → d ∉ o.looksAt ops) : Region.wanted o (yieldE ops (updO e dst v)) = Region.wanted o (yieldE ops e) := by
  cases dst with
  | none => rfl
  | some d =>
    unfold Region.wanted
    cases hg : o.guard with
    | none => rfl
    | some p =>
      obtain ⟨g, want⟩ := p
      have hnot := h d rfl
      simp only [Oper.looksAt, hg, List.mem_append, not_or] at hnot
      simp only [yieldE]
      cases hb : (ops[g]?).bind (·.dst) with
      | none => rfl
      | some t =>
        have hne : t ≠ d := fun e' => hnot.2 (by simp [hb, e'])
        simp only [updO]
        rw [upd_ne _ _ _ _ hne]
def OpH (P : Program) (B : RO) (N : Nat) (ops : Array Oper) (i : Nat) (K : Env → Heap → Prop) (e : Env) (h : Heap) : Prop :=
  match ops[i]? with
  | none => False
  | some o => dstOK N o = true ∧ noDefer o = true ∧
    ((Region.wanted o (yieldE ops e) = true ∧ semH P B (execOp (evalE e) o) h (fun nx h' => After P B nx h' (fun v h'' => K (updO e o.dst v) h''))) ∨
     (Region.wanted o (yieldE ops e) = false ∧ K (updO e o.dst undef) h))
theorem OpH.mono {i : Nat} {K K' : Env → Heap → Prop} {e : Env} {h : Heap} (hk : ∀ e h, K e h → K' e h) (hh : OpH P B N ops i K e h) : OpH P B N ops i K' e h := by
  unfold OpH at *
  split
  · rename_i hn; simp only [hn] at hh
  · rename_i o ho
    simp only [ho] at hh
    obtain ⟨h1, h2, h3⟩ := hh
    refine ⟨h1, h2, h3.imp (fun h => ⟨h.1, semH_mono (fun nx h' ha => ha.mono (fun v h'' hk' => hk _ _ hk')) h.2⟩) (fun h => ⟨h.1, hk _ _ h.2⟩)⟩
def needC (z : List Nat) (listed : Array Bool) : Bool := z.all fun z => !listed.getD z true
def RunAny (P : Program) (B : RO) (N : Nat) (ops : Array Oper) (k : List Item) (Φ : Lv → Env → Heap → Prop) (C : Heap → Prop) (z : List Nat) : Nat → Array Bool → Env → Heap → Prop
  | 0, listed, e, h => (needC z listed = true → C h) ∧ Region.ready .any ops listed = [] ∧ Run P B N k e h Φ
  | fuel + 1, listed, e, h => (needC z listed = true → C h) ∧ (Region.ready .any ops listed = [] → Run P B N k e h Φ) ∧ ∀ i ∈ Region.ready .any ops listed, OpH P B N ops i (RunAny P B N ops k Φ C z fuel (listed.setIfInBounds i true)) e h
theorem RunAny.sound {z : List Nat} : ∀ (fuel t : Nat) (listed : Array Bool) (e : Env) (h : Heap), RunAny P B N ops k Φ C z fuel listed e h → Run P B N (.inRegion ops (Region.linearise.go .any ops fuel t listed []) :: k) e h Φ := by
  intro fuel
  induction fuel with
  | zero => intro t listed e h hr; exact Run.region_end hr.2.2
  | succ fuel ih =>
    intro t listed e h hr
    obtain ⟨_, h0, h1⟩ := hr
    simp only [Region.linearise.go]
    change Run P B N (.inRegion ops (match (Region.ready .any ops listed)[t % (Region.ready .any ops listed).length]? with
      | some i => Region.linearise.go .any ops fuel (t / (Region.ready .any ops listed).length) (listed.setIfInBounds i true) [i]
      | none => [].reverse) :: k) e h Φ
    cases hi : (Region.ready .any ops listed)[t % (Region.ready .any ops listed).length]? with
    | none =>
      have hnil : Region.ready .any ops listed = [] := by
        cases hr : Region.ready .any ops listed with
        | nil => rfl
        | cons x xs =>
          rw [hr] at hi
          have hlt : t % (x :: xs).length < (x :: xs).length := Nat.mod_lt _ (by simp)
          simp at hi
          simp at hlt
          omega
      exact Run.region_end (h0 hnil)
    | some i =>
      simp only []
      rw [linearise_go_acc, List.reverse_singleton, List.singleton_append]
      have h2 := h1 i (List.mem_of_getElem? hi)
      unfold OpH at h2
      split at h2
      · exact h2.elim
      · rename_i o ho
        obtain ⟨a1, a2, a3⟩ := h2
        refine Run.op ho a1 a2 (a3.imp (fun hx => ⟨hx.1, semH_mono (fun nx h' ha => ha.mono (fun v h'' hk => ih _ _ _ _ hk)) hx.2⟩) (fun hx => ⟨hx.1, ih _ _ _ _ hx.2⟩))
def QuietAt (P : Program) (B : RO) (o : Oper) (e : Env) (h : Heap) (v : Value) : Prop := semH P B (execOp (evalE e) o) h (fun nx h' => After P B nx h' (fun v' h'' => v' = v ∧ h'' = h))
def YieldsC (P : Program) (B : RO) (N : Nat) (ops : Array Oper) (C : Heap → Prop) (o : Oper) (v : Value) (e : Env) : Prop :=
  dstOK N o = true ∧ noDefer o = true ∧ ((Region.wanted o (yieldE ops e) = true ∧ ∀ h, C h → QuietAt P B o e h v) ∨ (Region.wanted o (yieldE ops e) = false ∧ v = undef))
theorem YieldsC.op {i : Nat} {o : Oper} {v : Value} {e : Env} {h : Heap} (hi : ops[i]? = some o) (hy : YieldsC P B N ops C o v e) (hC : C h) {K : Env → Heap → Prop} (hk : K (updO e o.dst v) h) : OpH P B N ops i K e h := by
  unfold OpH
  simp only [hi]
  obtain ⟨h1, h2, h3⟩ := hy
  refine ⟨h1, h2, ?_⟩
  rcases h3 with ⟨hw, hv⟩ | ⟨hw, rfl⟩
  · exact .inl ⟨hw, semH_mono (fun nx h' ha => ha.mono (fun v' h'' hv' => by obtain ⟨rfl, rfl⟩ := hv'; exact hk)) (hv h hC)⟩
  · exact .inr ⟨hw, hk⟩
theorem OpH.put {j : Nat} {oi oj : Oper} {v : Value} (hj : ops[j]? = some oj) (hap : oi.apart ops oj = true) (hsi : ∀ cs b, oi.op ≠ .select cs b) (hsj : ∀ cs b, oj.op ≠ .select cs b) {K : Env → Heap → Prop} {e : Env} {h : Heap}
    (hy : YieldsC P B N ops C oi v e) (hh : OpH P B N ops j K (updO e oi.dst v) h) : OpH P B N ops j (fun e' h' => YieldsC P B N ops C oi v e' ∧ K (updO e' oi.dst v) h') e h := by
  obtain ⟨h1, h2, h3⟩ := Oper.apart_spec hap
  have keep : ∀ (e : Env), YieldsC P B N ops C oi v e → ∀ u, YieldsC P B N ops C oi v (updO e oj.dst u) := fun e hy u => by
    unfold YieldsC QuietAt at *
    rwa [execOp_putE oi hsi e oj.dst u h3, wanted_putE oi e oj.dst u h3]
  unfold OpH at *
  simp only [hj] at *
  rw [wanted_putE oj e oi.dst v h1, execOp_putE oj hsj e oi.dst v h1] at hh
  obtain ⟨a1, a2, a3⟩ := hh
  refine ⟨a1, a2, a3.imp (fun hx => ⟨hx.1, semH_mono (fun nx h' ha => ha.mono (fun u h'' hk => ⟨keep e hy u, by rw [← updO_comm e v u h2]; exact hk⟩)) hx.2⟩) (fun hx => ⟨hx.1, keep e hy _, by rw [← updO_comm e v undef h2]; exact hx.2⟩)⟩
def waits (ops : Array Oper) : Nat → Nat → Nat → Bool
  | 0, _, _ => false
  | n + 1, z, i => match ops[z]? with
    | none => false
    | some o => (o.after.any fun e => Region.binds .any e && e.on == i) || (o.after.any fun e => Region.binds .any e && waits ops n e.on i)
def lastWaits (ops : Array Oper) (z : List Nat) (i : Nat) : Bool := z.all fun z => z != i && waits ops ops.size z i
def ClosedL (ops : Array Oper) (listed : Array Bool) : Prop := ∀ m om, ops[m]? = some om → listed.getD m true = true → ∀ e ∈ om.after, Region.binds .any e = true → listed.getD e.on true = true
theorem getD_set_true {listed : Array Bool} {j k : Nat} (h : listed.getD k true = true) : (listed.setIfInBounds j true).getD k true = true := by
  by_cases hjk : j = k
  · subst hjk
    rcases Nat.lt_or_ge j listed.size with h' | h'
    · simp [Array.getD, h']
    · simp [Array.getD, Nat.not_lt.2 h']
  · rw [getD_set_ne true hjk]; exact h
theorem ClosedL.set {listed : Array Bool} {j : Nat} (hc : ClosedL ops listed) (hj : j ∈ Region.ready .any ops listed) : ClosedL ops (listed.setIfInBounds j true) := by
  obtain ⟨_, oj, hoj, hall⟩ := mem_ready.1 hj
  have up : ∀ k, listed.getD k true = true ∨ (∃ b, listed[k]? = some b ∧ b = true) → listed.getD k true = true := fun k hk => by
    rcases hk with h | ⟨b, h1, rfl⟩
    · exact h
    · simp [Array.getD_eq_getD_getElem?, h1]
  intro m om hm hl e he hb
  refine getD_set_true ?_
  by_cases hjm : j = m
  · subst hjm
    rw [hoj] at hm; cases hm
    have := hall e he hb
    simp only [Array.getD_eq_getD_getElem?] at this ⊢
    cases hx : listed[e.on]? with
    | none => rfl
    | some b => rw [hx] at this; simpa using this
  · rw [getD_set_ne true hjm] at hl
    exact hc m om hm hl e he hb
theorem waits_listed {listed : Array Bool} (hc : ClosedL ops listed) {i : Nat} : ∀ (n z : Nat) (oz : Oper), ops[z]? = some oz → waits ops n z i = true → (∀ e ∈ oz.after, Region.binds .any e = true → listed.getD e.on true = true) → listed.getD i true = true
  | 0, _, _, _, hw, _ => by cases hw
  | n + 1, z, oz, hz, hw, hall => by
    simp only [waits, hz, Bool.or_eq_true, Array.any_eq_true', Bool.and_eq_true, beq_iff_eq] at hw
    rcases hw with ⟨e, he, hb, rfl⟩ | ⟨e, he, hb, hr⟩
    · exact hall e he hb
    · have hl := hall e he hb
      cases ho : ops[e.on]? with
      | none => cases n <;> simp [waits, ho] at hr
      | some om => exact waits_listed hc n e.on om ho hr (fun e' he' hb' => hc _ om ho hl e' he' hb')
theorem needC_set {z : List Nat} {listed : Array Bool} {j : Nat} (hn : needC z listed = true) (hj : ∀ z' ∈ z, z' ≠ j) : needC z (listed.setIfInBounds j true) = true := by
  unfold needC at *
  rw [List.all_eq_true] at *
  intro z' hz'
  rw [getD_set_ne true (fun e => hj z' hz' e.symm)]
  exact hn z' hz'
theorem RunAny.first {z : List Nat} {i : Nat} {oi : Oper} {v : Value} (hi : ops[i]? = some oi) (hsel : ∀ (j : Nat) (o : Oper) cs b, ops[j]? = some o → o.op ≠ .select cs b) (hz : lastWaits ops z i = true) :
    ∀ (fuel : Nat) (listed : Array Bool) (e : Env) (h : Heap),
      ClosedL ops listed → (∀ j oj, ops[j]? = some oj → j ≠ i → listed.getD j true = false → (∀ e ∈ oj.after, Region.binds .any e = true → e.on ≠ i) → oi.apart ops oj = true) →
      i ∈ Region.ready .any ops listed → YieldsC P B N ops C oi v e → C h → needC z listed = true →
      RunAny P B N ops k Φ C z fuel (listed.setIfInBounds i true) (updO e oi.dst v) h → RunAny P B N ops k Φ C z (fuel + 1) listed e h := by
  intro fuel
  induction fuel with
  | zero =>
    intro listed e h _ _ hr hy hC hn H
    refine ⟨fun _ => hC, fun h0 => (by rw [h0] at hr; cases hr), fun j hj => ?_⟩
    by_cases hji : j = i
    · subst hji; exact hy.op hi hC H
    · have := ready_mono hj hji
      rw [H.2.1] at this
      cases this
  | succ fuel ih =>
    intro listed e h hcl hfree hr hy hC hn H
    refine ⟨fun _ => hC, fun h0 => (by rw [h0] at hr; cases hr), fun j hj => ?_⟩
    by_cases hji : j = i
    · subst hji; exact hy.op hi hC H
    · have h1 := H.2.2 j (ready_mono hj hji)
      obtain ⟨hjun, oj, hoj, hall⟩ := mem_ready.1 hj
      have hnot : ∀ e ∈ oj.after, Region.binds .any e = true → e.on ≠ i := fun e he hb heq => by
        have h1 := hall e he hb
        have h0 := (mem_ready.1 hr).1
        rw [heq] at h1
        rcases Nat.lt_or_ge i listed.size with h' | h'
        · simp [h'] at h0 h1; rw [h0] at h1; cases h1
        · simp [Array.getElem?_eq_none h'] at h1
      have hz' := List.all_eq_true.1 hz
      have hzi : ∀ z' ∈ z, z' ≠ i := fun z' hm => by
        have := hz' z' hm
        simp only [Bool.and_eq_true, bne_iff_ne] at this
        exact this.1
      have hjz : ∀ z' ∈ z, z' ≠ j := by
        intro z' hm he
        subst he
        have := hz' z' hm
        simp only [Bool.and_eq_true, bne_iff_ne] at this
        have hi' := waits_listed hcl _ z' oj hoj this.2 (fun e' he' hb' => by
          have := hall e' he' hb'
          simp only [Array.getD_eq_getD_getElem?] at this ⊢
          cases hx : listed[e'.on]? with
          | none => rfl
          | some b => rw [hx] at this; simpa using this)
        have h0 := (mem_ready.1 hr).1
        rw [hi'] at h0; cases h0
      have hn' : needC z (listed.setIfInBounds j true) = true := needC_set hn hjz
      have hn'' : needC z ((listed.setIfInBounds i true).setIfInBounds j true) = true := needC_set (needC_set hn hzi) hjz
      have h2 := OpH.put hoj (hfree j oj hoj hji hjun hnot) (fun cs b => hsel i oi cs b hi) (fun cs b => hsel j oj cs b hoj) hy h1
      have hfree' : ∀ k ok, ops[k]? = some ok → k ≠ i → (listed.setIfInBounds j true).getD k true = false → (∀ e ∈ ok.after, Region.binds .any e = true → e.on ≠ i) → oi.apart ops ok = true := fun k ok hk hki hun hno => by
        refine hfree k ok hk hki ?_ hno
        by_cases hjk : j = k
        · subst hjk; exact hjun
        · rw [getD_set_ne true hjk] at hun; exact hun
      refine h2.mono (fun e' h' h3 => ?_)
      have hC' : C h' := by
        have := h3.2
        cases fuel with
        | zero => exact this.1 hn''
        | succ fuel => exact this.1 hn''
      refine ih (listed.setIfInBounds j true) e' h' (hcl.set hj) hfree' (ready_mono hr (Ne.symm hji)) h3.1 hC' hn' ?_
      rw [Array.setIfInBounds_comm _ _ hji]
      exact h3.2
inductive Stp where
  | q (i : Nat)
  | x (i : Nat)
def okOrder (ops : Array Oper) (z : List Nat) : List Stp → Array Bool → Bool
  | [], listed => (Region.ready .any ops listed).isEmpty
  | .q i :: l, listed => (Region.ready .any ops listed).contains i && Region.free .any ops listed i && lastWaits ops z i && needC z listed && okOrder ops z l (listed.setIfInBounds i true)
  | .x i :: l, listed => (Region.ready .any ops listed == [i]) && okOrder ops z l (listed.setIfInBounds i true)
def RunO (P : Program) (B : RO) (N : Nat) (ops : Array Oper) (k : List Item) (Φ : Lv → Env → Heap → Prop) (C : Heap → Prop) (z : List Nat) : List Stp → Env → Heap → Prop
  | [], e, h => Run P B N k e h Φ
  | .q i :: l, e, h => ∃ o v, ops[i]? = some o ∧ YieldsC P B N ops C o v e ∧ RunO P B N ops k Φ C z l (updO e o.dst v) h
  | .x i :: l, e, h => OpH P B N ops i (fun e' h' => (z.contains i = false → C h') ∧ RunO P B N ops k Φ C z l e' h') e h
theorem RunO.any {z : List Nat} (hs : Region.noSelect ops = true) : ∀ (l : List Stp) (listed : Array Bool) (e : Env) (h : Heap), ClosedL ops listed → okOrder ops z l listed = true → (needC z listed = true → C h) → RunO P B N ops k Φ C z l e h → RunAny P B N ops k Φ C z l.length listed e h := by
  intro l
  induction l with
  | nil =>
    intro listed e h _ hok hC hr
    exact ⟨hC, by simpa [okOrder] using hok, hr⟩
  | cons s l ih =>
    intro listed e h hcl hok hC hr
    cases s with
    | q i =>
      simp only [okOrder, Bool.and_eq_true] at hok
      obtain ⟨⟨⟨⟨h1, h2⟩, h3⟩, h4⟩, h5⟩ := hok
      obtain ⟨o, v, ho, hy, hr⟩ := hr
      refine RunAny.first ho (Region.noSelect_spec hs) h3 l.length listed e h hcl (Region.free_spec ho h2) (by simpa using h1) hy (hC h4) h4 (ih _ _ _ (hcl.set (by simpa using h1)) h5 (fun _ => hC h4) hr)
    | x i =>
      simp only [okOrder, Bool.and_eq_true, beq_iff_eq] at hok
      obtain ⟨h1, h5⟩ := hok
      refine ⟨hC, fun h0 => (by rw [h0] at h1; cases h1), fun j hj => ?_⟩
      rw [h1] at hj
      obtain rfl : j = i := by simpa using hj
      refine OpH.mono (fun e' h' h3 => ih _ _ _ (hcl.set (by rw [h1]; simp)) h5 (fun hn => h3.1 ?_) h3.2) hr
      have hj' : j ∈ Region.ready .any ops listed := by rw [h1]; simp
      have hlt : j < listed.size := by
        have hun := (mem_ready.1 hj').1
        rcases Nat.lt_or_ge j listed.size with h' | h'
        · exact h'
        · simp [Array.getD, Nat.not_lt.2 h'] at hun
      cases hc : z.contains j with
      | false => rfl
      | true =>
        have hm : j ∈ z := by simpa using hc
        have := List.all_eq_true.1 hn j hm
        simp [Array.getD, hlt] at this
theorem OpH.go {i : Nat} {o : Oper} {K : Env → Heap → Prop} {e : Env} {h : Heap} (ho : ops[i]? = some o) (hd : (dstOK N o && noDefer o) = true) (hw : Region.wanted o (yieldE ops e) = true) (hs : semH P B (execOp (evalE e) o) h (fun nx h' => After P B nx h' (fun v h'' => K (updO e o.dst v) h''))) : OpH P B N ops i K e h := by
  simp only [Bool.and_eq_true] at hd
  unfold OpH
  simp only [ho]
  exact ⟨hd.1, hd.2, .inl ⟨hw, hs⟩⟩
theorem OpH.no {i : Nat} {o : Oper} {K : Env → Heap → Prop} {e : Env} {h : Heap} (ho : ops[i]? = some o) (hd : (dstOK N o && noDefer o) = true) (hw : Region.wanted o (yieldE ops e) = false) (hs : K (updO e o.dst undef) h) : OpH P B N ops i K e h := by
  simp only [Bool.and_eq_true] at hd
  unfold OpH
  simp only [ho]
  exact ⟨hd.1, hd.2, .inr ⟨hw, hs⟩⟩
theorem RunO.quiet {z : List Nat} {i : Nat} {l : List Stp} {o : Oper} {v : Value} {e : Env} {h : Heap} (ho : ops[i]? = some o) (hd : (dstOK N o && noDefer o) = true) (hw : Region.wanted o (yieldE ops e) = true) (hq : ∀ h', C h' → QuietAt P B o e h' v) (hr : RunO P B N ops k Φ C z l (updO e o.dst v) h) : RunO P B N ops k Φ C z (.q i :: l) e h := by
  simp only [Bool.and_eq_true] at hd
  exact ⟨o, v, ho, ⟨hd.1, hd.2, .inl ⟨hw, hq⟩⟩, hr⟩
theorem RunO.skip {z : List Nat} {i : Nat} {l : List Stp} {o : Oper} {e : Env} {h : Heap} (ho : ops[i]? = some o) (hd : (dstOK N o && noDefer o) = true) (hw : Region.wanted o (yieldE ops e) = false) (hr : RunO P B N ops k Φ C z l (updO e o.dst undef) h) : RunO P B N ops k Φ C z (.q i :: l) e h := by
  simp only [Bool.and_eq_true] at hd
  exact ⟨o, undef, ho, ⟨hd.1, hd.2, .inr ⟨hw, rfl⟩⟩, hr⟩
end
end Go.Proofs.YtlehephbflgblaaGreat.H
namespace Go.Proofs.YtlehephbflgblaaGreat.H
open Go
set_option linter.unusedVariables false
def aggB (P : Program) (t : TypeId) : Option Bool := (P.underlying t).map fun | .struct _ | .array _ _ => true | _ => false
def szB (P : Program) (t : TypeId) : Option Nat := (P.info? t).map (·.size)
def fldB (P : Program) (s : TypeId) (f : Nat) : Option Nat := match P.underlying s with
  | some (.struct fs) => match fs[f]? with
    | some fd => match szB P fd.type with
      | some 0 => none
      | some _ => some fd.offset
      | none => none
    | none => none
  | _ => none
def slcB (P : Program) (t : TypeId) : Option (TypeId × Nat × Nat) := match P.underlying t with
  | some (.slice e) => (P.info? e).map fun i => (e, i.size, i.bytes)
  | _ => none
def arrB (P : Program) (t : TypeId) : Option (Nat × TypeId × Nat × Bool) := match P.underlying t with
  | some (.array n e) => match szB P e, aggB P e with
    | some s, some b => some (n, e, s, b)
    | _, _ => none
  | _ => none
def zeroB (P : Program) (t : TypeId) : Option (List Value) := ((P.info? t).bind (·.zero)).map (·.cells.toList)
def isStr (P : Program) (t : TypeId) : Bool := match P.underlying t with | some .string => true | _ => false
def intB (P : Program) (t : TypeId) : Option IntKind := match P.underlying t with | some (.int k) => some k | _ => none
def strPlaces (P : Program) (t : TypeId) : Option (List (Nat × Nat)) := match P.underlying t with
  | some (.struct fs) => fs.toList.mapM fun f => (szB P f.type).map fun n => (f.offset, n)
  | _ => none
def ptrB (P : Program) (t : TypeId) : Bool := match P.underlying t with | some (.pointer e) => true | _ => false
def slT (P : Program) (t : TypeId) : Bool := match P.underlying t with | some (.slice e) => true | _ => false
section
variable {P : Program} {B : RO} {h : Heap}
theorem semH_und {α : Type} {t : TypeId} {d : TypeDesc} {f : TypeDesc → Sem α} {K : α → Heap → Prop} (hd : P.underlying t = some d) : semH P B (underlying t >>= f) h K ↔ semH P B (f d) h K := by
  rw [semH_bind]
  show semH P B ((program).bind _) h _ ↔ _
  simp only [program, Sem.bind, semH, hd]
  exact Iff.rfl
theorem semH_info {α : Type} {t : TypeId} {d : TypeInfo} {f : TypeInfo → Sem α} {K : α → Heap → Prop} (hd : P.info? t = some d) : semH P B (typeInfo t >>= f) h K ↔ semH P B (f d) h K := by
  rw [semH_bind]
  show semH P B ((program).bind _) h _ ↔ _
  simp only [program, Sem.bind, semH, hd]
  exact Iff.rfl
theorem semH_sz {α : Type} {t : TypeId} {n : Nat} {f : Nat → Sem α} {K : α → Heap → Prop} (hd : szB P t = some n) : semH P B (sizeOf t >>= f) h K ↔ semH P B (f n) h K := by
  unfold szB at hd
  cases hi : P.info? t with
  | none => rw [hi] at hd; cases hd
  | some i =>
    rw [hi] at hd
    simp only [Option.map_some, Option.some.injEq] at hd
    subst hd
    rw [semH_bind]
    unfold sizeOf
    rw [semH_info hi]
    exact Iff.rfl
theorem semH_agg {α : Type} {t : TypeId} {b : Bool} {f : Bool → Sem α} {K : α → Heap → Prop} (hd : aggB P t = some b) : semH P B (isAgg t >>= f) h K ↔ semH P B (f b) h K := by
  unfold aggB at hd
  cases hi : P.underlying t with
  | none => rw [hi] at hd; cases hd
  | some d =>
    rw [hi] at hd
    rw [semH_bind]
    unfold isAgg
    rw [semH_und hi]
    cases d <;> simp only [Option.map_some, Option.some.injEq] at hd <;> subst hd <;> exact Iff.rfl
theorem semH_zero {α : Type} {t : TypeId} {zs : List Value} {f : Value → Sem α} {K : α → Heap → Prop} (hd : zeroB P t = some zs) (hk : ∀ v, v.cells.toList = zs → semH P B (f v) h K) : semH P B (zeroValue t >>= f) h K := by
  unfold zeroB at hd
  cases hi : P.info? t with
  | none => rw [hi] at hd; cases hd
  | some d =>
    rw [hi] at hd
    cases hz : d.zero with
    | none => simp [hz] at hd
    | some z =>
      simp [hz] at hd
      rw [semH_bind]
      unfold zeroValue
      rw [semH_info hi]
      simp only [hz]
      exact hk z hd
theorem semH_value {s : Sem Value} {K : Next → Heap → Prop} : semH P B (do pure (.value (← s)) : Sem Next) h K ↔ semH P B s h (fun v h' => K (.value v) h') := by
  rw [semH_bind]; exact Iff.rfl
theorem semH_skip {s : Sem Unit} {K : Next → Heap → Prop} : semH P B (do s; pure .skip : Sem Next) h K ↔ semH P B s h (fun _ h' => K .skip h') := by
  rw [semH_bind]; exact Iff.rfl
def CellsAt (B : RO) (h : Heap) (A : Addr) : Nat → List Value → Prop
  | _, [] => True
  | i, v :: vs => cellH B h (A.add i) = some v ∧ CellsAt B h A (i + 1) vs
def StoresAt (A : Addr) : Heap → Nat → List Value → Heap → Prop
  | h, _, [], h' => h' = h
  | h, i, v :: vs, h' => isOne v = true ∧ ∃ h1, storeH h (A.add i) v = some h1 ∧ StoresAt A h1 (i + 1) vs h'
theorem semH_loadCells {A : Addr} : ∀ (vs : List Value) (i : Nat) (acc : Array Value) {K : Array Value → Heap → Prop}, CellsAt B h A i vs → K (acc ++ vs.toArray) h → semH P B (loadCellsFrom A i vs.length acc) h K := by
  intro vs
  induction vs with
  | nil => intro i acc K _ hk; show K acc h; simpa using hk
  | cons v vs ih =>
    rintro i acc K ⟨h1, h2⟩ hk
    simp only [List.length_cons, loadCellsFrom]
    rw [semH_bind]
    refine ⟨v, h1, ?_⟩
    refine ih (i + 1) (acc.push v) h2 ?_
    simpa using hk
theorem semH_storeCells {A : Addr} : ∀ (vs : List Value) (i : Nat) {h h' : Heap} {K : Unit → Heap → Prop}, StoresAt A h i vs h' → K () h' → semH P B (storeCells A vs i) h K := by
  intro vs
  induction vs with
  | nil => rintro i h h' K rfl hk; exact hk
  | cons v vs ih =>
    rintro i h h' K ⟨h1, h2, h3, h4⟩ hk
    simp only [storeCells]
    rw [semH_bind]
    exact ⟨h1, h2, h3, ih (i + 1) h4 hk⟩
variable {ρ : Operand → Value} {d : Option Nat} {ty : TypeId} {pos : String} {aft : Array Edge} {g : Option (Nat × Bool)} {K : Next → Heap → Prop}
theorem sem_move {x : Operand} (v : Value) (hx : ρ x = v) (k : K (.value v) h) : semH P B (execOp ρ ⟨d, .move x, ty, pos, aft, g⟩) h K := by subst hx; exact k
theorem sem_assign {x : Operand} (v : Value) (hx : ρ x = v) (k : K (.value v) h) : semH P B (execOp ρ ⟨d, .assign x, ty, pos, aft, g⟩) h K := by subst hx; exact k
theorem sem_pick {c x y : Operand} (b : Bool) (v : Value) (hc : ρ c = .bool b) (hv : (if b = true then ρ x else ρ y) = v) (k : K (.value v) h) : semH P B (execOp ρ ⟨d, .pick c x y, ty, pos, aft, g⟩) h K := by
  subst hv
  simp only [execOp, hc]
  exact k
theorem sem_load1 {t : TypeId} {x : Operand} (A : Addr) (v : Value) (hx : ρ x = .pointer (some A)) (ht : aggB P t = some false) (hl : cellH B h A = some v) (k : K (.value v) h) : semH P B (execOp ρ ⟨d, .load t x, ty, pos, aft, g⟩) h K := by
  refine semH_value.2 ?_
  simp only [hx, Instr.loadAt, Instr.sureAddr, pure_bind]
  unfold loadVar
  rw [semH_agg ht]
  exact ⟨v, hl, k⟩
theorem sem_loadN {t : TypeId} {x : Operand} (A : Addr) (vs : List Value) (hx : ρ x = .pointer (some A)) (ht : aggB P t = some true) (hn : szB P t = some vs.length) (hl : CellsAt B h A 0 vs) (k : K (.value (.agg vs.toArray)) h) : semH P B (execOp ρ ⟨d, .load t x, ty, pos, aft, g⟩) h K := by
  refine semH_value.2 ?_
  simp only [hx, Instr.loadAt, Instr.sureAddr, pure_bind]
  unfold loadVar
  rw [semH_agg ht]
  simp only [if_true]
  rw [semH_sz hn]
  rw [semH_bind]
  refine semH_loadCells vs 0 #[] hl ?_
  show K (.value (.agg (#[] ++ vs.toArray))) h
  simpa using k
theorem sem_store1 {t : TypeId} {a x : Operand} (A : Addr) (v : Value) (h' : Heap) (ha : ρ a = .pointer (some A)) (hv : ρ x = v) (ho : isOne v = true) (hn : szB P t = some 1) (hs : storeH h A v = some h') (k : K .skip h') : semH P B (execOp ρ ⟨d, .store t a x, ty, pos, aft, g⟩) h K := by
  subst hv
  refine semH_skip.2 ?_
  simp only [ha, Instr.storeAt, Instr.sureAddr, pure_bind]
  unfold storeVar
  rw [semH_sz hn]
  have hc : (ρ x).cells = #[ρ x] := by
    cases hρ : ρ x <;> first
      | rfl
      | (rw [hρ] at ho; simp [isOne] at ho)
  simp only [hc, List.size_toArray, List.length_cons, List.length_nil, Nat.zero_add, ne_eq, not_true, if_false]
  exact semH_storeCells [ρ x] 0 ⟨ho, h', by simpa [Addr.add] using hs, rfl⟩ k
theorem sem_storeN {t : TypeId} {a x : Operand} (A : Addr) (vs : List Value) (h' : Heap) (ha : ρ a = .pointer (some A)) (hv : ρ x = .agg vs.toArray) (hn : szB P t = some vs.length) (hs : StoresAt A h 0 vs h') (k : K .skip h') : semH P B (execOp ρ ⟨d, .store t a x, ty, pos, aft, g⟩) h K := by
  refine semH_skip.2 ?_
  simp only [ha, Instr.storeAt, Instr.sureAddr, pure_bind, hv]
  unfold storeVar
  rw [semH_sz hn]
  simp only [Value.cells, List.size_toArray, ne_eq, not_true, if_false]
  exact semH_storeCells vs 0 hs k
theorem sem_nilCheck {x : Operand} (A : Addr) (hx : ρ x = .pointer (some A)) (k : K (.value (.pointer (some A))) h) : semH P B (execOp ρ ⟨d, .nilCheck x, ty, pos, aft, g⟩) h K := by
  simp only [execOp, hx]; exact k
theorem sem_nilCheckF {x : Operand} (f : FuncId) (a b : Array Value) (hx : ρ x = .func (.func f) a b) (k : K (.value (.func (.func f) a b)) h) : semH P B (execOp ρ ⟨d, .nilCheck x, ty, pos, aft, g⟩) h K := by
  simp only [execOp, hx]; exact k
theorem sem_fieldAddr {s : TypeId} {x : Operand} {f : Nat} (A : Addr) (off : Nat) (hx : ρ x = .pointer (some A)) (hf : fldB P s f = some off) (k : K (.value (.pointer (some (A.add off)))) h) : semH P B (execOp ρ ⟨d, .fieldAddr s x f, ty, pos, aft, g⟩) h K := by
  unfold fldB at hf
  split at hf
  · rename_i fs hu
    split at hf
    · rename_i fd hfd
      split at hf
      · cases hf
      · rename_i n hn0 hn
        cases hf
        refine semH_value.2 ?_
        simp only [hx, Instr.fieldAt]
        rw [semH_und hu]
        simp only [hfd, Instr.sureAddr, pure_bind]
        unfold fieldPlace
        rw [semH_bind, semH_sz hn]
        have : n ≠ 0 := hn0
        simp only [this, if_false]
        exact k
      · cases hf
    · cases hf
  · cases hf
theorem sem_indexAddrS {t : TypeId} {x ix : Operand} {e sz bz : Nat} (A : Addr) (len cap : Nat) (kk : IntKind) (i : Int) (hx : ρ x = .slice (some A) len cap) (hi : ρ ix = .int kk i) (ht : slcB P t = some (e, sz, bz)) (h0 : 0 ≤ i) (h1 : i < len) (k : K (.value (.pointer (some (A.add (i.toNat * sz))))) h) :
    semH P B (execOp ρ ⟨d, .indexAddr t x ix, ty, pos, aft, g⟩) h K := by
  unfold slcB at ht
  split at ht
  · rename_i e' hu
    cases hin : P.info? e' with
    | none => rw [hin] at ht; cases ht
    | some inf =>
      rw [hin] at ht
      simp only [Option.map_some, Option.some.injEq, Prod.mk.injEq] at ht
      obtain ⟨rfl, rfl, rfl⟩ := ht
      refine semH_value.2 ?_
      simp only [hx, hi, Instr.indexAt, asIntOf, pure_bind]
      rw [semH_und hu]
      dsimp only
      rw [semH_und hu]
      simp only [h0, h1, and_self, if_true]
      rw [semH_sz (n := inf.size) (by simp [szB, hin])]
      exact k
  · cases ht
theorem sem_indexAddrA {t : TypeId} {x ix : Operand} {n e sz : Nat} {b : Bool} (A : Addr) (kk : IntKind) (i : Int) (hx : ρ x = .pointer (some A)) (hi : ρ ix = .int kk i) (ht : arrB P t = some (n, e, sz, b)) (h0 : 0 ≤ i) (h1 : i < n) (k : K (.value (.pointer (some (A.add (i.toNat * sz))))) h) :
    semH P B (execOp ρ ⟨d, .indexAddr t x ix, ty, pos, aft, g⟩) h K := by
  unfold arrB at ht
  split at ht
  · rename_i n' e' hu
    split at ht
    · rename_i s' b' hs hb
      simp only [Option.some.injEq, Prod.mk.injEq] at ht
      obtain ⟨rfl, rfl, rfl, rfl⟩ := ht
      refine semH_value.2 ?_
      simp only [hx, hi, Instr.indexAt, asIntOf, pure_bind]
      rw [semH_und hu]
      simp only [Instr.sureAddr, pure_bind]
      rw [semH_und hu]
      simp only [h0, h1, and_self, if_true]
      rw [semH_sz hs]
      exact k
    · cases ht
  · cases ht
theorem semH_part {α : Type} {t : TypeId} {b : Bool} {n off : Nat} {cs : Array Value} {f : Value → Sem α} {K : α → Heap → Prop} (v : Value) (hb : aggB P t = some b) (hn : szB P t = some n)
    (hv : (if b = true then some (.agg (cs.extract off (off + n))) else cs[off]?) = some v) (k : semH P B (f v) h K) : semH P B (part t cs off >>= f) h K := by
  rw [semH_bind]
  unfold part
  rw [semH_agg hb]
  cases b with
  | true =>
    simp only [if_true, Option.some.injEq] at hv ⊢
    rw [semH_sz hn]
    subst hv
    exact k
  | false =>
    simp only [Bool.false_eq_true, if_false] at hv ⊢
    rw [hv]
    exact k
theorem sem_indexStr {t : TypeId} {x ix : Operand} (s : ByteArray) (kk : IntKind) (i : Int) (hx : ρ x = .string s) (hi : ρ ix = .int kk i) (ht : isStr P t = true) (h0 : 0 ≤ i) (h1 : i.toNat < s.size) (k : K (.value (.int .u8 (s[i.toNat]).toNat)) h) :
    semH P B (execOp ρ ⟨d, .index t x ix, ty, pos, aft, g⟩) h K := by
  unfold isStr at ht
  split at ht
  · rename_i hu
    refine semH_value.2 ?_
    simp only [hx, hi, Instr.index, asIntOf, pure_bind]
    rw [semH_und hu]
    simp only [h0, if_true]
    have : s[i.toNat]? = some s[i.toNat] := getElem?_pos s i.toNat h1
    rw [this]
    exact k
  · cases ht
theorem sem_indexArr {t : TypeId} {x ix : Operand} {n e sz : Nat} {b : Bool} (cs : Array Value) (v : Value) (kk : IntKind) (i : Int) (hx : ρ x = .agg cs) (hi : ρ ix = .int kk i) (ht : arrB P t = some (n, e, sz, b)) (h0 : 0 ≤ i) (h1 : i < n)
    (hv : (if b = true then some (.agg (cs.extract (i.toNat * sz) (i.toNat * sz + sz))) else cs[i.toNat * sz]?) = some v) (k : K (.value v) h) :
    semH P B (execOp ρ ⟨d, .index t x ix, ty, pos, aft, g⟩) h K := by
  unfold arrB at ht
  split at ht
  · rename_i n' e' hu
    split at ht
    · rename_i s' b' hs hb
      simp only [Option.some.injEq, Prod.mk.injEq] at ht
      obtain ⟨rfl, rfl, rfl, rfl⟩ := ht
      refine semH_value.2 ?_
      simp only [hx, hi, Instr.index, asIntOf, pure_bind]
      rw [semH_und hu]
      simp only [h0, h1, and_self, if_true]
      rw [semH_sz hs]
      have := semH_part (P := P) (B := B) (h := h) (f := (fun v => (pure v : Sem Value))) (K := fun v h' => K (.value v) h') v hb hs hv k
      rwa [bind_pure] at this
    · cases ht
  · cases ht
theorem sem_extract {x : Operand} {i : Nat} (vs : Array Value) (v : Value) (hx : ρ x = .tuple vs) (hv : vs[i]? = some v) (k : K (.value v) h) : semH P B (execOp ρ ⟨d, .extract x i, ty, pos, aft, g⟩) h K := by
  refine semH_value.2 ?_
  simp only [hx, Instr.extract, hv]; exact k
theorem sem_makeFunc {fn : Fn} {first captured : Array Operand} (vf vc : Array Value) (h1 : first.map ρ = vf) (h2 : captured.map ρ = vc) (k : K (.value (.func fn vf vc)) h) : semH P B (execOp ρ ⟨d, .makeFunc fn first captured, ty, pos, aft, g⟩) h K := by
  subst h1 h2; exact k
theorem sem_not {t : TypeId} {x : Operand} (b : Bool) (hx : ρ x = .bool b) (k : K (.value (.bool (!b))) h) : semH P B (execOp ρ ⟨d, .unOp .not t x, ty, pos, aft, g⟩) h K := by
  refine semH_value.2 ?_
  simp only [hx, Op.unary]; exact k
theorem sem_neg {t : TypeId} {x : Operand} (kk : IntKind) (n : Int) (hx : ρ x = .int kk n) (k : K (.value (.int kk (kk.wrap (0 - n)))) h) : semH P B (execOp ρ ⟨d, .unOp .neg t x, ty, pos, aft, g⟩) h K := by
  refine semH_value.2 ?_
  simp only [hx, Op.unary, Op.intArith]; exact k
theorem sem_xorU {t : TypeId} {x : Operand} (kk : IntKind) (n : Int) (hx : ρ x = .int kk n) (v : Value) (hv : semH P B (Op.intBits .xor kk (if kk.signed then -1 else kk.max) n) h (fun v' h' => v' = v ∧ h' = h)) (k : K (.value v) h) : semH P B (execOp ρ ⟨d, .unOp .xor t x, ty, pos, aft, g⟩) h K := by
  refine semH_value.2 ?_
  simp only [hx, Op.unary]; exact semH_mono (fun v' h' hh => by obtain ⟨rfl, rfl⟩ := hh; exact k) hv
def binI (op : BinOp) (k : IntKind) (a b : Int) : Option Value := match op with
  | .add => some (.int k (k.wrap (a + b)))
  | .sub => some (.int k (k.wrap (a - b)))
  | .mul => some (.int k (k.wrap (a * b)))
  | .quo => if b = 0 then none else some (.int k (k.wrap (a.tdiv b)))
  | .rem => if b = 0 then none else some (.int k (a.tmod b))
  | .and => some (.int k (k.wrap ((BitVec.ofInt k.bits a &&& BitVec.ofInt k.bits b).toNat : Int)))
  | .or => some (.int k (k.wrap ((BitVec.ofInt k.bits a ||| BitVec.ofInt k.bits b).toNat : Int)))
  | .xor => some (.int k (k.wrap ((BitVec.ofInt k.bits a ^^^ BitVec.ofInt k.bits b).toNat : Int)))
  | .andNot => some (.int k (k.wrap ((BitVec.ofInt k.bits a &&& ~~~ BitVec.ofInt k.bits b).toNat : Int)))
  | .eql => some (.bool (a == b))
  | .neq => some (.bool (a != b))
  | .lss => some (.bool (decide (a < b)))
  | .leq => some (.bool (decide (a ≤ b)))
  | .gtr => some (.bool (decide (a > b)))
  | .geq => some (.bool (decide (a ≥ b)))
  | _ => none
theorem semH_eqGuard {op : BinOp} {t : TypeId} {x y : Operand} {a b : Value} {α : Type} {f : Unit → Sem α} {K : α → Heap → Prop} (hne : (∀ cs, a ≠ .agg cs) ∧ a ≠ .nilIface) (k : semH P B (f ()) h K) : semH P B (eqGuard op t x y a b >>= f) h K := by
  have : eqGuard op t x y a b = pure () := by
    unfold eqGuard
    cases op <;> simp <;> cases a <;> first
      | rfl
      | (cases b <;> first | rfl | exact absurd rfl (hne.1 _) | exact absurd rfl hne.2)
  rw [this]
  exact k
theorem sem_binI {op : BinOp} {t t' : TypeId} {x y : Operand} (kk : IntKind) (a b : Int) (v : Value) (hx : ρ x = .int kk a) (hy : ρ y = .int kk b) (hv : binI op kk a b = some v) (k : K (.value v) h) : semH P B (execOp ρ ⟨d, .binOp op t x y t', ty, pos, aft, g⟩) h K := by
  refine semH_value.2 ?_
  simp only [hx, hy]
  refine semH_eqGuard ⟨fun cs => by simp, by simp⟩ ?_
  cases op <;> simp only [binI] at hv <;> first
    | (cases hv; done)
    | (cases hv; simp only [binOp, ne_eq, not_true, if_false, Op.intArith, Op.intBits, Op.intCmp]; exact k)
    | (split at hv
       · cases hv
       · rename_i hb; cases hv; simp only [binOp, ne_eq, not_true, if_false, Op.intDiv, if_neg hb]; exact k)
theorem sem_shr {t t' : TypeId} {x y : Operand} (kk yk : IntKind) (a b : Int) (hx : ρ x = .int kk a) (hy : ρ y = .int yk b) (hb : ¬ b < 0) (k : K (.value (.int kk (a.fdiv (2 ^ (min b.toNat kk.bits))))) h) : semH P B (execOp ρ ⟨d, .binOp .shr t x y t', ty, pos, aft, g⟩) h K := by
  refine semH_value.2 ?_
  simp only [hx, hy]
  refine semH_eqGuard ⟨fun cs => by simp, by simp⟩ ?_
  simp only [binOp, Op.shift, if_neg hb]; exact k
theorem sem_shl {t t' : TypeId} {x y : Operand} (kk yk : IntKind) (a b : Int) (hx : ρ x = .int kk a) (hy : ρ y = .int yk b) (hb : ¬ b < 0) (k : K (.value (.int kk (kk.wrap (a * 2 ^ (min b.toNat kk.bits))))) h) : semH P B (execOp ρ ⟨d, .binOp .shl t x y t', ty, pos, aft, g⟩) h K := by
  refine semH_value.2 ?_
  simp only [hx, hy]
  refine semH_eqGuard ⟨fun cs => by simp, by simp⟩ ?_
  simp only [binOp, Op.shift, if_neg hb]; exact k
theorem sem_strAdd {t t' : TypeId} {x y : Operand} (a b : ByteArray) (hx : ρ x = .string a) (hy : ρ y = .string b) (hb : a.size + b.size ≤ 4611686018427387904) (k : K (.value (.string (a ++ b))) h) : semH P B (execOp ρ ⟨d, .binOp .add t x y t', ty, pos, aft, g⟩) h K := by
  refine semH_value.2 ?_
  simp only [hx, hy]
  refine semH_eqGuard ⟨fun cs => by simp, by simp⟩ ?_
  have hm : IntKind.i64.max = 9223372036854775807 := by decide
  have : ¬ (((a.size + b.size : Nat) : Int) > IntKind.i64.max) := by rw [hm]; omega
  simp only [binOp, Op.stringOp, if_neg this]; exact k
theorem toList_beq (a b : ByteArray) : (a.toList == b.toList) = decide (a = b) := by
  have h1 : ∀ a : ByteArray, a.toList = a.data.toList := fun a => Go.ByteArray.toList_eq a
  rw [h1, h1]
  by_cases h : a = b
  · subst h; simp
  · have : a.data.toList ≠ b.data.toList := fun e => h (by
      cases a; cases b; simp only [ByteArray.mk.injEq]; exact Array.toList_inj.1 e)
    simp only [this, h, decide_false, beq_eq_false_iff_ne, ne_eq, not_false_eq_true]
theorem sem_strEq {t t' : TypeId} {x y : Operand} (a b : ByteArray) (hx : ρ x = .string a) (hy : ρ y = .string b) (k : K (.value (.bool (decide (a = b)))) h) : semH P B (execOp ρ ⟨d, .binOp .eql t x y t', ty, pos, aft, g⟩) h K := by
  refine semH_value.2 ?_
  simp only [hx, hy]
  refine semH_eqGuard ⟨fun cs => by simp, by simp⟩ ?_
  simp only [binOp, Op.stringOp, toList_beq]; exact k
theorem sem_strNe {t t' : TypeId} {x y : Operand} (a b : ByteArray) (hx : ρ x = .string a) (hy : ρ y = .string b) (k : K (.value (.bool (!decide (a = b)))) h) : semH P B (execOp ρ ⟨d, .binOp .neq t x y t', ty, pos, aft, g⟩) h K := by
  refine semH_value.2 ?_
  simp only [hx, hy]
  refine semH_eqGuard ⟨fun cs => by simp, by simp⟩ ?_
  simp only [binOp, Op.stringOp, toList_beq]; exact k
end
end Go.Proofs.YtlehephbflgblaaGreat.H
namespace Go.Proofs.YtlehephbflgblaaGreat.H
open Go
set_option linter.unusedVariables false
section
variable {P : Program} {B : RO} {h : Heap} {ρ : Operand → Value} {d : Option Nat} {ty : TypeId} {pos : String} {aft : Array Edge} {g : Option (Nat × Bool)} {K : Next → Heap → Prop}
theorem sem_callC {fo : Operand} {args : Array Operand} {tys : Array TypeId} {f : FuncId} (first captured vs ws : Array Value) (hg : Goes P f) (hf : ρ fo = .func (.func f) first captured) (ha : args.map ρ = vs) (hw : first ++ vs ++ captured = ws) (k : K (.enter f ws) h) :
    semH P B (execOp ρ ⟨d, .call ⟨.value fo, args, tys⟩, ty, pos, aft, g⟩) h K := by
  subst ha hw
  show semH P B (do let d ← resolve ρ ⟨.value fo, args, tys⟩ ty; invoke d.target d.args) h K
  have : resolve ρ ⟨.value fo, args, tys⟩ ty = pure { target := .fn (.func f) captured, args := first ++ args.map ρ } := by
    simp only [resolve, hf, Deferred.ofValue]
  rw [this, pure_bind]
  exact semH_callFunc hg k
theorem sem_call {f : FuncId} {args : Array Operand} {tys : Array TypeId} (vs : Array Value) (hg : Goes P f) (hf : ρ (.func f) = .func (.func f) #[] #[]) (ha : args.map ρ = vs) (k : K (.enter f vs) h) :
    semH P B (execOp ρ ⟨d, .call ⟨.value (.func f), args, tys⟩, ty, pos, aft, g⟩) h K :=
  sem_callC #[] #[] vs vs hg hf ha (by simp) k
theorem sem_callX {f : FuncId} {e : Array Value → Sem Value} {args : Array Operand} {tys : Array TypeId} (vs : Array Value) (hg : GoesX P f e) (hf : ρ (.func f) = .func (.func f) #[] #[]) (ha : args.map ρ = vs) (hs : semH P B (e vs) h (fun v h' => K (.value v) h')) :
    semH P B (execOp ρ ⟨d, .call ⟨.value (.func f), args, tys⟩, ty, pos, aft, g⟩) h K := by
  subst ha
  show semH P B (do let d ← resolve ρ ⟨.value (.func f), args, tys⟩ ty; invoke d.target d.args) h K
  have : resolve ρ ⟨.value (.func f), args, tys⟩ ty = pure { target := .fn (.func f) #[], args := #[] ++ args.map ρ } := by
    simp only [resolve, hf, Deferred.ofValue]
  rw [this, pure_bind]
  show semH P B (callFunc f (#[] ++ args.map ρ ++ #[])) h K
  rw [Array.empty_append, Array.append_empty]
  exact semH_callX hg hs
def plains (vs : List Value) : List Fld := vs.map .plain
theorem plains_length (vs : List Value) : (plains vs).length = vs.length := by simp [plains]
theorem plains_get (vs : List Value) (i : Nat) : (plains vs)[i]? = vs[i]?.map .plain := by simp [plains]
theorem plains_set (vs : List Value) (i : Nat) (v : Value) : (plains vs).set i (.plain v) = plains (vs.set i v) := by simp [plains, List.map_set]
theorem semH_newRow {t : TypeId} {cs : Array Value} {α : Type} {f : Addr → Sem α} {K : α → Heap → Prop} (k : ∀ b, h b = none → B b = none → semH P B (f ⟨b, 0, none⟩) (h.set b (.vec t (plains cs.toList) cs.size)) K) : semH P B (newRow t cs >>= f) h K := by
  rw [semH_bind]
  show semH P B ((newObj _).bind _) h _
  simp only [newObj, Sem.bind]
  intro b h1 h2
  exact k b h1 h2
theorem sem_box1 {t : TypeId} {x : Operand} (v : Value) (hx : ρ x = v) (ho : isOne v = true) (k : ∀ b, h b = none → B b = none → K (.value (.pointer (some ⟨b, 0, none⟩))) (h.set b (.vec t [.plain v] 1))) :
    semH P B (execOp ρ ⟨d, .box t x, ty, pos, aft, g⟩) h K := by
  subst hx
  refine semH_value.2 ?_
  simp only [Instr.box, newVar]
  have hc : (ρ x).cells = #[ρ x] := by
    cases hρ : ρ x <;> first
      | rfl
      | (rw [hρ] at ho; simp [isOne] at ho)
  rw [hc]
  exact semH_newRow k
theorem sem_boxN {t : TypeId} {x : Operand} (vs : List Value) (hx : ρ x = .agg vs.toArray) (k : ∀ b, h b = none → B b = none → K (.value (.pointer (some ⟨b, 0, none⟩))) (h.set b (.vec t (plains vs) vs.length))) :
    semH P B (execOp ρ ⟨d, .box t x, ty, pos, aft, g⟩) h K := by
  refine semH_value.2 ?_
  simp only [Instr.box, newVar, hx, Value.cells]
  exact semH_newRow (fun b h1 h2 => by have := k b h1 h2; simpa [semH_pure] using this)
theorem sem_alloc {t : TypeId} (zs : List Value) (hz : zeroB P t = some zs) (k : ∀ b, h b = none → B b = none → K (.value (.pointer (some ⟨b, 0, none⟩))) (h.set b (.vec t (plains zs) zs.length))) :
    semH P B (execOp ρ ⟨d, .alloc t, ty, pos, aft, g⟩) h K := by
  refine semH_value.2 ?_
  unfold Instr.alloc
  refine semH_zero hz fun v hv => ?_
  subst hv
  simp only [newVar]
  exact semH_newRow (fun b h1 h2 => by have := k b h1 h2; simpa [semH_pure] using this)
theorem sem_buildS {t : TypeId} {parts : Array (Nat × Operand)} {zs : List Value} {pl : List (Nat × Nat)} (vs : List (Nat × Value)) (cs : List Value) (hz : zeroB P t = some zs) (hp : strPlaces P t = some pl) (hv : parts.map (fun p => (p.1, ρ p.2)) = vs.toArray)
    (hc : Instr.fill (fun i => pl[i]?) zs.toArray vs = some cs.toArray) (k : K (.value (.agg cs.toArray)) h) : semH P B (execOp ρ ⟨d, .build t parts, ty, pos, aft, g⟩) h K := by
  refine semH_value.2 ?_
  have e : (parts.map fun x => match x with | (i, x) => (i, ρ x)) = vs.toArray := hv
  show semH P B (Instr.build t (parts.map fun x => match x with | (i, x) => (i, ρ x))) h _
  rw [e]
  unfold Instr.build
  refine semH_zero hz fun v hv' => ?_
  unfold strPlaces at hp
  split at hp
  · rename_i fs hu
    rw [semH_und hu]
    dsimp only
    have hm : ∀ (l : List Field) (pl : List (Nat × Nat)), l.mapM (fun f => (szB P f.type).map fun n => (f.offset, n)) = some pl → ∀ (K : List (Nat × Nat) → Heap → Prop), K pl h → semH P B (l.mapM (fun f => do pure (f.offset, ← sizeOf f.type))) h K := by
      intro l
      induction l with
      | nil => intro pl hl K hk; simp at hl; subst hl; exact hk
      | cons f l ih =>
        intro pl hl K hk
        rw [List.mapM_cons] at hl
        cases hs : szB P f.type with
        | none => simp [hs] at hl
        | some n =>
          cases hr : l.mapM (fun f => (szB P f.type).map fun n => (f.offset, n)) with
          | none => simp [hs, hr] at hl
          | some r =>
            simp [hs, hr] at hl
            subst hl
            rw [List.mapM_cons, semH_bind, semH_sz hs, semH_pure, semH_bind]
            exact ih r hr _ hk
    rw [semH_bind]
    have e2 : (fs.mapM fun f => (do pure (f.offset, ← sizeOf f.type) : Sem (Nat × Nat))) = List.toArray <$> fs.toList.mapM (fun f => (do pure (f.offset, ← sizeOf f.type) : Sem (Nat × Nat))) := by
      rw [← List.mapM_toArray]
    rw [e2, ← bind_pure_comp, semH_bind]
    refine hm _ _ hp _ ?_
    rw [semH_pure]
    have e3 : (fun i : Nat => pl.toArray[i]?) = (fun i : Nat => pl[i]?) := by funext i; simp
    have e4 : v.cells = zs.toArray := by rw [← hv']
    rw [e3, e4, hc]
    exact k
  · cases hp
theorem sem_buildA {t : TypeId} {parts : Array (Nat × Operand)} {zs : List Value} {n e sz : Nat} {b : Bool} (vs : List (Nat × Value)) (cs : List Value) (hz : zeroB P t = some zs) (hp : arrB P t = some (n, e, sz, b)) (hv : parts.map (fun p => (p.1, ρ p.2)) = vs.toArray)
    (hc : Instr.fill (fun i => some (i * sz, sz)) zs.toArray vs = some cs.toArray) (k : K (.value (.agg cs.toArray)) h) : semH P B (execOp ρ ⟨d, .build t parts, ty, pos, aft, g⟩) h K := by
  refine semH_value.2 ?_
  have e : (parts.map fun x => match x with | (i, x) => (i, ρ x)) = vs.toArray := hv
  show semH P B (Instr.build t (parts.map fun x => match x with | (i, x) => (i, ρ x))) h _
  rw [e]
  unfold Instr.build
  refine semH_zero hz fun v hv' => ?_
  have e4 : v.cells = zs.toArray := by rw [← hv']
  unfold arrB at hp
  split at hp
  · rename_i n' e' hu
    split at hp
    · rename_i s' b' hs hb
      simp only [Option.some.injEq, Prod.mk.injEq] at hp
      obtain ⟨rfl, rfl, rfl, rfl⟩ := hp
      rw [semH_und hu]
      dsimp only
      rw [semH_sz hs, e4, hc]
      exact k
    · cases hp
  · cases hp
theorem sem_buildSlice {t : TypeId} {len : Nat} {parts : Array (Nat × Operand)} {zs : List Value} {e sz bz : Nat} (vs : List (Nat × Value)) (cs : List Value) (ht : slcB P t = some (e, sz, bz)) (hz : zeroB P e = some zs) (hl : len * sz ≤ 16777216) (hl0 : len * sz ≠ 0) (hv : parts.map (fun p => (p.1, ρ p.2)) = vs.toArray)
    (hc : Instr.fill (fun i => some (i * sz, sz)) ((Array.range (len * sz)).map (zs.toArray[· % zs.length]!)) vs = some cs.toArray) (k : ∀ b, h b = none → B b = none → K (.value (.slice (some ⟨b, 0, none⟩) len len)) (h.set b (.vec e (plains cs) cs.length))) :
    semH P B (execOp ρ ⟨d, .buildSlice t len parts, ty, pos, aft, g⟩) h K := by
  refine semH_value.2 ?_
  have e0 : (parts.map fun x => match x with | (i, x) => (i, ρ x)) = vs.toArray := hv
  show semH P B (Instr.buildSlice t len (parts.map fun x => match x with | (i, x) => (i, ρ x))) h _
  rw [e0]
  unfold slcB at ht
  split at ht
  · rename_i e' hu
    cases hin : P.info? e' with
    | none => rw [hin] at ht; cases ht
    | some inf =>
      rw [hin] at ht
      simp only [Option.map_some, Option.some.injEq, Prod.mk.injEq] at ht
      obtain ⟨rfl, rfl, rfl⟩ := ht
      unfold Instr.buildSlice
      rw [semH_und hu]
      dsimp only
      rw [semH_sz (n := inf.size) (by simp [szB, hin])]
      rw [if_neg (by show ¬ (len * inf.size > 2 ^ 24); omega), pure_bind, if_neg hl0]
      refine semH_zero hz fun v hv' => ?_
      have e4 : v.cells = zs.toArray := by rw [← hv']
      simp only [pure_bind, e4, List.size_toArray]
      rw [hc]
      exact semH_newRow (fun b h1 h2 => by have := k b h1 h2; simpa [semH_pure] using this)
  · cases ht
theorem sliceBounds_eq {isS : Bool} {len cap l hh : Nat} {low high : Option Value} (hl : match low with | some v => ∃ kk, v = .int kk (l : Int) | none => l = 0) (hhi : match high with | some v => ∃ kk, v = .int kk (hh : Int) | none => hh = len) (h1 : l ≤ hh) (h2 : hh ≤ cap) :
    Instr.sliceBounds isS len cap low high none = pure (l, hh, cap) := by
  unfold Instr.sliceBounds
  cases high with
  | none =>
    simp only at hhi
    subst hhi
    cases low with
    | none => simp only at hl; subst hl; rfl
    | some v =>
      obtain ⟨kk, rfl⟩ := hl
      simp only [pure_bind, Instr.sliceBound, asIntOf]
      rw [if_pos ⟨by omega, by omega⟩]
      simp
  | some v =>
    obtain ⟨kk, rfl⟩ := hhi
    simp only [pure_bind, Instr.sliceBound, asIntOf]
    rw [if_pos ⟨by omega, by omega⟩]
    cases low with
    | none => simp only at hl; subst hl; simp
    | some v =>
      obtain ⟨kk, rfl⟩ := hl
      simp only [pure_bind, Int.toNat_natCast]
      rw [if_pos ⟨by omega, by omega⟩]
      simp
theorem sem_sliceStr {t : TypeId} {x : Operand} {lo hi : Option Operand} (s : ByteArray) (l hh : Nat) (hx : ρ x = .string s) (ht : isStr P t = true) (hl : match lo with | some v => ∃ kk, ρ v = .int kk (l : Int) | none => l = 0) (hhi : match hi with | some v => ∃ kk, ρ v = .int kk (hh : Int) | none => hh = s.size) (h1 : l ≤ hh) (h2 : hh ≤ s.size)
    (k : K (.value (.string (s.extract l hh))) h) : semH P B (execOp ρ ⟨d, .slice t x lo hi none, ty, pos, aft, g⟩) h K := by
  unfold isStr at ht
  split at ht
  · rename_i hu
    refine semH_value.2 ?_
    simp only [hx, Instr.sliceAt]
    rw [semH_und hu]
    simp only [Instr.slice]
    rw [semH_und hu]
    have hb := sliceBounds_eq (isS := false) (len := s.size) (cap := s.size) (l := l) (hh := hh) (low := lo.map ρ) (high := hi.map ρ) (by cases lo <;> simpa using hl) (by cases hi <;> simpa using hhi) h1 h2
    simp only [Option.map_none, Option.isSome_none, Bool.false_eq_true, if_false, hb, pure_bind]
    exact k
  · cases ht
theorem sem_sliceSl {t : TypeId} {x : Operand} {lo hi : Option Operand} {e sz bz : Nat} (a : Option Addr) (len cap l hh : Nat) (hx : ρ x = .slice a len cap) (ht : slcB P t = some (e, sz, bz)) (hl : match lo with | some v => ∃ kk, ρ v = .int kk (l : Int) | none => l = 0) (hhi : match hi with | some v => ∃ kk, ρ v = .int kk (hh : Int) | none => hh = len)
    (h1 : l ≤ hh) (h2 : hh ≤ cap) (k : K (.value (.slice (if cap = l then a else a.map (·.add (l * sz))) (hh - l) (cap - l))) h) : semH P B (execOp ρ ⟨d, .slice t x lo hi none, ty, pos, aft, g⟩) h K := by
  unfold slcB at ht
  split at ht
  · rename_i e' hu
    cases hin : P.info? e' with
    | none => rw [hin] at ht; cases ht
    | some inf =>
      rw [hin] at ht
      simp only [Option.map_some, Option.some.injEq, Prod.mk.injEq] at ht
      obtain ⟨rfl, rfl, rfl⟩ := ht
      refine semH_value.2 ?_
      simp only [hx, Instr.sliceAt]
      rw [semH_und hu]
      simp only [Instr.slice]
      rw [semH_und hu]
      have hb := sliceBounds_eq (isS := true) (len := len) (cap := cap) (l := l) (hh := hh) (low := lo.map ρ) (high := hi.map ρ) (by cases lo <;> simpa using hl) (by cases hi <;> simpa using hhi) h1 h2
      simp only [Option.map_none, hb, pure_bind]
      rw [semH_sz (n := inf.size) (by simp [szB, hin])]
      exact k
  · cases ht
theorem exec_builtin {b : Builtin} {args : Array Operand} {tys : Array TypeId} (vs : Array Value) (ha : args.map ρ = vs) :
    execOp ρ ⟨d, .call ⟨.builtin b, args, tys⟩, ty, pos, aft, g⟩ = builtin b tys ty (args.map fun | .const _ => true | _ => false) vs := by subst ha; rfl
theorem sem_lenStr {x : Operand} {t : TypeId} (s : ByteArray) (hx : ρ x = .string s) (ht : isStr P t = true) (k : K (.value (.int .i64 s.size)) h) : semH P B (execOp ρ ⟨d, .call ⟨.builtin .len, #[x], #[t]⟩, ty, pos, aft, g⟩) h K := by
  unfold isStr at ht
  split at ht
  · rename_i hu
    rw [exec_builtin #[ρ x] (by simp)]
    show semH P B (do pure (.value (← Builtin.len_ #[t] ty #[ρ x]))) h K
    rw [semH_value, hx]
    simp only [Builtin.len_, List.getElem?_toArray, List.getElem?_cons_zero]
    rw [semH_und hu]
    exact k
  · cases ht
theorem sem_lenSl {x : Operand} {t : TypeId} (a : Option Addr) (n c : Nat) (hx : ρ x = .slice a n c) (ht : slT P t = true) (k : K (.value (.int .i64 n)) h) : semH P B (execOp ρ ⟨d, .call ⟨.builtin .len, #[x], #[t]⟩, ty, pos, aft, g⟩) h K := by
  unfold slT at ht
  split at ht
  · rename_i e hu
    rw [exec_builtin #[ρ x] (by simp)]
    show semH P B (do pure (.value (← Builtin.len_ #[t] ty #[ρ x]))) h K
    rw [semH_value, hx]
    simp only [Builtin.len_, List.getElem?_toArray, List.getElem?_cons_zero]
    rw [semH_und hu]
    exact k
  · cases ht
theorem sem_max {x y : Operand} {ts : Array TypeId} (kk : IntKind) (a b : Int) (hx : ρ x = .int kk a) (hy : ρ y = .int kk b) (k : K (.value (.int kk (if b > a then b else a))) h) : semH P B (execOp ρ ⟨d, .call ⟨.builtin .max, #[x, y], ts⟩, ty, pos, aft, g⟩) h K := by
  rw [exec_builtin #[ρ x, ρ y] (by simp)]
  show semH P B (do pure (.value (← Builtin.max_ ts ty #[ρ x, ρ y]))) h K
  rw [semH_value, hx, hy]
  exact k
theorem sem_min {x y : Operand} {ts : Array TypeId} (kk : IntKind) (a b : Int) (hx : ρ x = .int kk a) (hy : ρ y = .int kk b) (k : K (.value (.int kk (if b < a then b else a))) h) : semH P B (execOp ρ ⟨d, .call ⟨.builtin .min, #[x, y], ts⟩, ty, pos, aft, g⟩) h K := by
  rw [exec_builtin #[ρ x, ρ y] (by simp)]
  show semH P B (do pure (.value (← Builtin.min_ ts ty #[ρ x, ρ y]))) h K
  rw [semH_value, hx, hy]
  exact k
theorem sem_convI {s t : TypeId} {x : Operand} (k1 k2 : IntKind) (n : Int) (hx : ρ x = .int k1 n) (hs : intB P s = some k1) (ht : intB P t = some k2) (k : K (.value (.int k2 (k2.wrap n))) h) : semH P B (execOp ρ ⟨d, .convert s t x, ty, pos, aft, g⟩) h K := by
  unfold intB at hs ht
  split at hs
  · rename_i ks hus
    cases hs
    split at ht
    · rename_i kt hut
      cases ht
      refine semH_value.2 ?_
      simp only [hx, convert]
      rw [semH_und hus, semH_und hut]
      exact k
    · cases ht
  · cases hs
end
end Go.Proofs.YtlehephbflgblaaGreat.H
namespace Go.Proofs.YtlehephbflgblaaGreat.H
open Go
set_option linter.unusedVariables false
section
variable {P : Program} {B : RO} {h : Heap}
theorem add_at (k o i : Nat) : (⟨k, o, none⟩ : Addr).add i = ⟨k, o + i, none⟩ := by
  unfold Addr.add
  split
  · rename_i e; subst e; rfl
  · rfl
def SlRow (h : Heap) (v : Value) (e : TypeId) (sz : Nat) (xs : List Value) : Prop :=
  (v = .slice none 0 0 ∧ xs = []) ∨
  ∃ k m c nn js, v = .slice (some ⟨k, 0, none⟩) m c ∧ h k = some (.vec e (plains (xs ++ js)) nn) ∧ m * sz = xs.length ∧ m ≤ c ∧ c * sz ≤ nn
theorem CellsAt.of_vec {k o nn : Nat} {t : TypeId} {fs : List Fld} : ∀ (ys : List Value) (i : Nat), h k = some (.vec t fs nn) → (∀ j y, ys[j]? = some y → fs[o + i + j]? = some (.plain y)) → CellsAt B h ⟨k, o, none⟩ i ys := by
  intro ys
  induction ys with
  | nil => intro i _ _; trivial
  | cons y ys ih =>
    intro i hk hy
    refine ⟨?_, ih (i + 1) hk (fun j y' hj => by have := hy (j + 1) y' (by simpa using hj); rwa [show o + (i + 1) + j = o + i + (j + 1) by omega])⟩
    rw [add_at]
    have := hy 0 y (by simp)
    simp only [cellH, hk, Option.isSome_none, Bool.false_eq_true, if_false]
    rw [show o + i = o + i + 0 by omega, this]
theorem plains_get_some {xs : List Value} {i : Nat} {y : Value} (hx : xs[i]? = some y) : (plains xs)[i]? = some (.plain y) := by rw [plains_get, hx]; rfl
theorem StoresAt.over {k nn : Nat} {t : TypeId} : ∀ (ys : List Value) (h : Heap) (o i : Nat) (fs gs : List Value), (∀ y ∈ ys, isOne y = true) → h k = some (.vec t (plains (fs ++ gs)) nn) → fs.length = o + i → o + i + ys.length ≤ nn →
    ∃ h', StoresAt ⟨k, o, none⟩ h i ys h' ∧ (ys = [] → h' = h) ∧ (ys ≠ [] → h' = h.set k (.vec t (plains (fs ++ ys ++ gs.drop ys.length)) nn)) := by
  intro ys
  induction ys with
  | nil => intro h o i fs gs _ _ _ _; exact ⟨h, rfl, fun _ => rfl, fun e => absurd rfl e⟩
  | cons y ys ih =>
    intro h o i fs gs ho hk hl hn
    simp only [List.length_cons] at hn
    have hst : storeH h ((⟨k, o, none⟩ : Addr).add i) y = some (h.set k (.vec t (plains ((fs ++ [y]) ++ gs.drop 1)) nn)) := by
      rw [add_at]
      simp only [storeH, hk, Option.isSome_none, Bool.false_eq_true, if_false, plains_length, List.length_append]
      cases gs with
      | nil =>
        rw [if_neg (by simp; omega), if_pos (by simp; omega)]
        simp [plains]
      | cons g gs =>
        rw [if_pos (by simp; omega)]
        have : (plains (fs ++ g :: gs))[o + i]? = some (.plain g) := plains_get_some (by rw [← hl]; simp)
        rw [this]
        simp only [Option.some.injEq]
        rw [plains_set, ← hl]
        simp
    obtain ⟨h', h1, h2, h3⟩ := ih (h.set k (.vec t (plains ((fs ++ [y]) ++ gs.drop 1)) nn)) o (i + 1) (fs ++ [y]) (gs.drop 1) (fun y' hy' => ho y' (by simp [hy'])) (Heap.set_same _ _ _) (by simp; omega) (by omega)
    refine ⟨h', ⟨ho y (by simp), _, hst, h1⟩, (fun e => absurd e (by simp)), fun _ => ?_⟩
    by_cases hys : ys = []
    · subst hys
      rw [h2 rfl]
      simp
    · rw [h3 hys, Heap.set_set]
      congr 3
      simp
def Src (B : RO) (h : Heap) (x : Value) (sz n : Nat) (ys : List Value) : Prop :=
  ys.length = n * sz ∧ (∀ y ∈ ys, isOne y = true) ∧
  ((∃ A c, x = .slice (some A) n c ∧ CellsAt B h A 0 ys) ∨ (∃ c, x = .slice none n c ∧ n = 0) ∨ (∃ s : ByteArray, x = .string s ∧ n = s.size ∧ ys = s.data.toList.map fun b => .int .u8 b.toNat))
def Appd (B : RO) (h : Heap) (v : Value) (e : TypeId) (sz : Nat) (xs ys : List Value) (v' : Value) (h' : Heap) : Prop :=
  (ys = [] ∧ v' = v ∧ h' = h) ∨
  ∃ k m n c nn js, n ≠ 0 ∧ v' = .slice (some ⟨k, 0, none⟩) (m + n) c ∧ h' = h.set k (.vec e (plains (xs ++ ys ++ js)) nn) ∧ m * sz = xs.length ∧ n * sz = ys.length ∧ m + n ≤ c ∧ c * sz ≤ nn ∧
    ((v = .slice (some ⟨k, 0, none⟩) m c ∧ ∃ is, h k = some (.vec e (plains (xs ++ is)) nn)) ∨ (h k = none ∧ B k = none))
theorem nextcap_le (need cap : Nat) (hc : cap < need) : Builtin.nextslicecap need cap ≤ 2 * need + 200 := by
  unfold Builtin.nextslicecap
  split
  · omega
  · split
    · omega
    · have key : ∀ r c, c ≤ 2 * need + 200 → Builtin.growBy need r c ≤ 2 * need + 200 := by
        intro r
        induction r with
        | zero => intro c hc; exact hc
        | succ r ih =>
          intro c hc
          unfold Builtin.growBy
          split
          · exact hc
          · exact ih _ (by omega)
      exact key 4 cap (by omega)
theorem semH_askRoom {n : Nat} {α : Type} {f : Unit → Sem α} {K : α → Heap → Prop} (k : semH P B (f ()) h K) : semH P B (askRoom n >>= f) h K := by
  rw [semH_bind]
  unfold askRoom
  split
  · exact k
  · exact k
theorem semH_choose {q : Question} {α : Type} {f : Nat → Sem α} {K : α → Heap → Prop} (hq : q.forced = false) (k : ∀ n, semH P B (f (q.cut n)) h K) : semH P B (choose q >>= f) h K := by
  rw [semH_bind]
  show semH P B (.choose q .pure) h _
  simp only [semH, hq, Bool.false_eq_true, if_false]
  exact k
theorem semH_firstCells {x : Value} {sz n : Nat} {ys : List Value} (hs : Src B h x sz n ys) {α : Type} {f : Array Value → Sem α} {K : α → Heap → Prop} (k : semH P B (f ys.toArray) h K) : semH P B (Builtin.firstCells sz n x >>= f) h K := by
  obtain ⟨hl, _, hs⟩ := hs
  rcases hs with ⟨A, c, rfl, hc⟩ | ⟨c, rfl, rfl⟩ | ⟨s, rfl, rfl, rfl⟩
  · rw [semH_bind]
    show semH P B (loadCellsFrom A 0 (n * sz) #[]) h _
    rw [← hl]
    refine semH_loadCells ys 0 #[] hc ?_
    simpa using k
  · have : ys = [] := by simpa using hl
    subst this
    exact k
  · have e : Builtin.firstCells sz s.size (.string s) = pure ((s.data.toList.map fun b => (.int .u8 b.toNat : Value)).toArray) := by
      have : (s.extract 0 s.size) = s := ByteArray.extract_zero_size
      simp only [Builtin.firstCells, this]
      congr 1
      apply Array.toList_inj.1
      simp
    rw [e, pure_bind]
    exact k
theorem zeroCells_size (zs : Array Value) (n : Nat) : (Builtin.zeroCells zs n).size = n * zs.size := by simp [Builtin.zeroCells]
theorem semH_append {t tx ty e : TypeId} {sz bz : Nat} {v x : Value} {xs ys zs : List Value} {n : Nat} {K : Value → Heap → Prop} (ht : slcB P t = some (e, sz, bz)) (hz : zeroB P e = some zs) (hzs : zs.length = sz) (hsz : 0 < sz) (hbz : 0 < bz) (hux : (P.underlying tx).isSome = true) (hix : intB P tx = none)
    (hv : SlRow h v e sz xs) (hx : Src B h x sz n ys) (hb : (xs.length + ys.length) * bz ≤ 1099511627776) (hk : ∀ v' h', Appd B h v e sz xs ys v' h' → K v' h') : semH P B (Builtin.append_ #[t, tx] ty #[v, x]) h K := by
  have hn : Builtin.lenOf x = pure n := by
    obtain ⟨_, _, hs⟩ := hx
    rcases hs with ⟨A, c, rfl, hc⟩ | ⟨c, rfl, rfl⟩ | ⟨s, rfl, rfl, rfl⟩ <;> rfl
  unfold slcB at ht
  split at ht
  · rename_i e' hu
    cases hin : P.info? e' with
    | none => rw [hin] at ht; cases ht
    | some inf =>
      rw [hin] at ht
      simp only [Option.map_some, Option.some.injEq, Prod.mk.injEq] at ht
      obtain ⟨rfl, rfl, rfl⟩ := ht
      obtain ⟨base, m, c, hvs, hm, hmc⟩ : ∃ base m c, v = .slice base m c ∧ m * inf.size = xs.length ∧ m ≤ c := by
        rcases hv with ⟨rfl, rfl⟩ | ⟨k, m, c, nn, js, rfl, _, h2, h3, _⟩
        · exact ⟨none, 0, 0, rfl, by simp, Nat.le_refl _⟩
        · exact ⟨_, m, c, rfl, h2, h3⟩
      have hyl := hx.1
      unfold Builtin.append_
      subst hvs
      simp only [List.getElem?_toArray, List.getElem?_cons_zero, List.getElem?_cons_succ]
      rw [semH_und hu]
      dsimp only
      rw [semH_sz (n := inf.size) (by simp [szB, hin])]
      obtain ⟨dx, hdx⟩ := Option.isSome_iff_exists.1 hux
      rw [semH_und hdx]
      split
      · exfalso
        simp [intB, hdx] at hix
      simp only [pure_bind, Bool.false_eq_true, if_false, hn, Bool.not_false, if_true]
      by_cases hroom : m + n ≤ c
      · rw [if_pos hroom]
        refine semH_firstCells hx ?_
        by_cases hy0 : n = 0
        · subst hy0
          have hy0' : ys = [] := by simpa using hyl
          subst hy0'
          cases base with
          | none => exact hk _ _ (.inl ⟨rfl, by simp, rfl⟩)
          | some a =>
            simp only [storeCells, pure_bind]
            exact hk _ _ (.inl ⟨rfl, by simp, rfl⟩)
        · rcases hv with ⟨h1, _⟩ | ⟨k, m', c', nn, js, h1, h2, h3, h4, h5⟩
          · cases h1
            omega
          · cases h1
            simp only
            have hcn : (m + n) * inf.size ≤ nn := Nat.le_trans (Nat.mul_le_mul_right _ hroom) h5
            rw [Nat.add_mul, hm, ← hyl] at hcn
            obtain ⟨h', s1, s2, s3⟩ := StoresAt.over ys h (m * inf.size) 0 xs js hx.2.1 h2 (by omega) (by omega)
            have hyne : ys ≠ [] := by
              intro e0
              rw [e0] at hyl
              have : 0 < n * inf.size := Nat.mul_pos (by omega) hsz
              simp at hyl
              omega
            rw [semH_bind, add_at, Nat.zero_add]
            refine semH_storeCells ys 0 s1 ?_
            exact hk _ _ (.inr ⟨k, m, n, c, nn, _, hy0, rfl, s3 hyne, hm, hyl.symm, hroom, h5, .inl ⟨rfl, js, h2⟩⟩)
      · rw [if_neg hroom]
        have hxl : m ≤ xs.length := by rw [← hm]; exact Nat.le_mul_of_pos_right _ hsz
        have hyl' : n ≤ ys.length := by rw [hyl]; exact Nat.le_mul_of_pos_right _ hsz
        have hn0 : n ≠ 0 := by omega
        have hsmall : (m + n) * inf.bytes ≤ 1099511627776 := Nat.le_trans (Nat.mul_le_mul_right _ (by omega)) hb
        have hcap : Builtin.nextslicecap (m + n) c * inf.bytes ≤ 281474976710656 := by
          have h1 := nextcap_le (m + n) c (by omega)
          have h2 : Builtin.nextslicecap (m + n) c * inf.bytes ≤ (2 * (m + n) + 200) * inf.bytes := Nat.mul_le_mul_right _ h1
          have h3 : inf.bytes ≤ (m + n) * inf.bytes := Nat.le_mul_of_pos_left _ (by omega)
          have h4 : (2 * (m + n) + 200) * inf.bytes = 2 * ((m + n) * inf.bytes) + 200 * inf.bytes := by rw [Nat.add_mul, Nat.mul_assoc]
          omega
        have hmax : ¬ (((m + n : Nat) : Int) > IntKind.i64.max ∧ (False ∨ inf.bytes = 0)) := by
          rintro ⟨h1, h2 | h2⟩
          · exact h2
          · omega
        rw [semH_info hin, if_neg (by simpa using hmax), semH_info hin, if_neg (by show ¬ (_ > 2 ^ 48); omega)]
        refine semH_choose rfl fun q => ?_
        have hcut : m + n ≤ (Question.appendCap (m + n) c e').cut q := by simp [Question.cut]
        generalize (Question.appendCap (m + n) c e').cut q = nc at hcut
        rw [semH_info hin]
        refine semH_askRoom ?_
        have hold : ∀ {α : Type} {f : Array Value → Sem α} {K : α → Heap → Prop}, semH P B (f xs.toArray) h K → semH P B (Builtin.firstCells inf.size m (.slice base m c) >>= f) h K := by
          intro α f K k
          rcases hv with ⟨h1, h2⟩ | ⟨k', m', c', nn, js, h1, h2, h3, h4, h5⟩
          · cases h1
            subst h2
            exact k
          · cases h1
            rw [semH_bind]
            show semH P B (loadCellsFrom ⟨k', 0, none⟩ 0 (m * inf.size) #[]) h _
            rw [h3]
            refine semH_loadCells xs 0 #[] (CellsAt.of_vec xs 0 h2 (fun j y hj => ?_)) ?_
            · simp only [Nat.zero_add]
              exact plains_get_some (by rw [List.getElem?_append_left (List.getElem?_eq_some_iff.1 hj).1]; exact hj)
            · simpa using k
        refine hold ?_
        refine semH_firstCells hx ?_
        refine semH_zero hz fun z hzc => ?_
        have hzc' : z.cells.size = inf.size := by rw [← hzs, ← hzc]; simp
        refine semH_newRow fun b hb1 hb2 => ?_
        have e1 : (xs.toArray ++ ys.toArray ++ Builtin.zeroCells z.cells (nc - (m + n))).toList = xs ++ ys ++ (Builtin.zeroCells z.cells (nc - (m + n))).toList := by simp
        have e2 : (xs.toArray ++ ys.toArray ++ Builtin.zeroCells z.cells (nc - (m + n))).size = xs.length + ys.length + (nc - (m + n)) * inf.size := by simp [zeroCells_size, hzc']
        have e3 : nc * inf.size ≤ xs.length + ys.length + (nc - (m + n)) * inf.size := by
          rw [← hm, hyl, ← Nat.add_mul, ← Nat.add_mul]
          exact Nat.mul_le_mul_right _ (by omega)
        rw [e1, e2]
        exact hk _ _ (.inr ⟨b, m, n, nc, xs.length + ys.length + (nc - (m + n)) * inf.size, (Builtin.zeroCells z.cells (nc - (m + n))).toList, hn0, rfl, rfl, hm, hyl.symm, hcut, e3, .inr ⟨hb1, hb2⟩⟩)
  · cases ht
theorem SlRow.nil (h : Heap) (e : TypeId) (sz : Nat) : SlRow h (.slice none 0 0) e sz [] := .inl ⟨rfl, rfl⟩
theorem Appd.row {v v' : Value} {e : TypeId} {sz : Nat} {xs ys : List Value} {h' : Heap} (hv : SlRow h v e sz xs) (ha : Appd B h v e sz xs ys v' h') : SlRow h' v' e sz (xs ++ ys) := by
  rcases ha with ⟨rfl, rfl, rfl⟩ | ⟨k, m, n, c, nn, js, hn, rfl, rfl, h1, h2, h3, h4, _⟩
  · simpa using hv
  · exact .inr ⟨k, m + n, c, nn, js, rfl, Heap.set_same _ _ _, by rw [Nat.add_mul, h1, h2]; simp, h3, h4⟩
theorem Appd.get {v v' : Value} {e : TypeId} {sz : Nat} {xs ys : List Value} {h' : Heap} (ha : Appd B h v e sz xs ys v' h') {c : Nat} {o : AObj} (hc : h c = some o) (hne : ∀ k m cc, v = .slice (some ⟨k, 0, none⟩) m cc → c ≠ k) : h' c = some o := by
  rcases ha with ⟨rfl, rfl, rfl⟩ | ⟨k, m, n, c', nn, js, hn, rfl, rfl, h1, h2, h3, h4, h5⟩
  · exact hc
  · rw [Heap.set_ne, hc]
    rcases h5 with ⟨h5, _⟩ | ⟨h5, _⟩
    · exact hne _ _ _ h5
    · intro e0; rw [e0, h5] at hc; cases hc
variable {ρ : Operand → Value} {d : Option Nat} {ty : TypeId} {pos : String} {aft : Array Edge} {g : Option (Nat × Bool)} {K : Next → Heap → Prop}
theorem sem_appendW {args : Array Operand} {tys : Array TypeId} (vs : Array Value) (ha : args.map ρ = vs) (hs : semH P B (Builtin.append_ tys ty vs) h (fun v h' => K (.value v) h')) : semH P B (execOp ρ ⟨d, .call ⟨.builtin .append, args, tys⟩, ty, pos, aft, g⟩) h K := by
  rw [exec_builtin vs ha]
  exact semH_value.2 hs
theorem sem_copyW {args : Array Operand} {tys : Array TypeId} (vs : Array Value) (ha : args.map ρ = vs) (hs : semH P B (Builtin.copy_ tys ty vs) h (fun v h' => K (.value v) h')) : semH P B (execOp ρ ⟨d, .call ⟨.builtin .copy, args, tys⟩, ty, pos, aft, g⟩) h K := by
  rw [exec_builtin vs ha]
  exact semH_value.2 hs
theorem sem_convW {s t : TypeId} {x : Operand} (v : Value) (hx : ρ x = v) (hs : semH P B (convert s t v) h (fun v h' => K (.value v) h')) : semH P B (execOp ρ ⟨d, .convert s t x, ty, pos, aft, g⟩) h K := by
  subst hx; exact semH_value.2 hs
theorem sem_eqW {op : BinOp} {t t' : TypeId} {x y : Operand} (a b : Value) (hx : ρ x = a) (hy : ρ y = b) (hs : semH P B (do eqGuard op t x y a b; binOp op t a b) h (fun v h' => K (.value v) h')) : semH P B (execOp ρ ⟨d, .binOp op t x y t', ty, pos, aft, g⟩) h K := by
  subst hx hy; exact semH_value.2 hs
theorem semH_eqPtr {n : Nat} {t e : TypeId} {p : Option Addr} {K : Bool → Heap → Prop} (hd : P.underlying t = some (.pointer e)) (k : K p.isNone h) : semH P B (Op.equalIn (n + 1) t (.pointer p) (.pointer none)) h K := by
  unfold Op.equalIn; rw [semH_und hd]; cases p <;> exact k
theorem semH_eqW {op : BinOp} {t : TypeId} {x y : Operand} {a b : Value} {K : Value → Heap → Prop} (hop : op = .eql ∨ op = .neq) (ha : (∀ cs, a ≠ .agg cs) ∧ a ≠ .nilIface) (hk : (∀ k n, a ≠ .int k n) ∧ (∀ s, a ≠ .string s) ∧ (∀ k f, a ≠ .float k f) ∧ (∀ k f f', a ≠ .complex k f f')) {r : Bool}
    (he : semH P B (Op.equal t a b) h (fun c h' => c = r ∧ h' = h)) (k : K (.bool (if op = .eql then r else !r)) h) : semH P B (do eqGuard op t x y a b; binOp op t a b) h K := by
  refine semH_eqGuard ha ?_
  rcases hop with rfl | rfl
  · have e : binOp .eql t a b = (do pure (.bool (← Op.equal t a b))) := by
      unfold binOp
      cases a <;> first
        | exact absurd rfl (hk.1 _ _)
        | exact absurd rfl (hk.2.1 _)
        | exact absurd rfl (hk.2.2.1 _ _)
        | exact absurd rfl (hk.2.2.2 _ _ _)
        | rfl
    rw [e, semH_bind]
    refine semH_mono (fun c h' hc => ?_) he
    obtain ⟨rfl, rfl⟩ := hc
    rw [semH_pure]
    simpa using k
  · have e : binOp .neq t a b = (do pure (.bool (!(← Op.equal t a b)))) := by
      unfold binOp
      cases a <;> first
        | exact absurd rfl (hk.1 _ _)
        | exact absurd rfl (hk.2.1 _)
        | exact absurd rfl (hk.2.2.1 _ _)
        | exact absurd rfl (hk.2.2.2 _ _ _)
        | rfl
    rw [e, semH_bind]
    refine semH_mono (fun c h' hc => ?_) he
    obtain ⟨rfl, rfl⟩ := hc
    rw [semH_pure]
    simpa using k
theorem sem_ptrNil {op : BinOp} {t t' : TypeId} {x y : Operand} (p : Option Addr) (hop : op = .eql ∨ op = .neq) (hx : ρ x = .pointer p) (hy : ρ y = .pointer none) (ht : ptrB P t = true) (k : K (.value (.bool (if op = .eql then p.isNone else !p.isNone))) h) : semH P B (execOp ρ ⟨d, .binOp op t x y t', ty, pos, aft, g⟩) h K := by
  unfold ptrB at ht
  split at ht
  · rename_i e hu
    refine sem_eqW _ _ hx hy (semH_eqW hop ⟨by simp, by simp⟩ ⟨by simp, by simp, by simp, by simp⟩ (r := p.isNone) ?_ k)
    exact semH_eqPtr (n := 9999) hu ⟨rfl, rfl⟩
  · cases ht
def Sub (h0 : Heap) (b : Nat) (h : Heap) : Prop := ∀ c o, c ≠ b → h0 c = some o → h c = some o
theorem Ent.close_row {h0 h : Heap} {b n i : Nat} {t e : TypeId} {sz : Nat} {fs : List Fld} {v : Value} {xs : List Value} (hsub : Sub h0 b h) (hb : h b = some (.vec t fs n)) (hi : fs[i]? = some (.plain v)) (hv : SlRow h v e sz xs)
    (hn : ∀ k m c, v = .slice (some ⟨k, 0, none⟩) m c → h0 k = none ∧ k ≠ b) : Ent B h (h0.set b (.vec t (fs.set i (.own e sz xs)) n)) := by
  rcases hv with ⟨rfl, rfl⟩ | ⟨k, m, c, nn, js, rfl, h2, h3, h4, h5⟩
  · refine (Ent.close_nil (e := e) (sz := sz) hb hi).trans (Ent.forget fun c o hc => ?_)
    by_cases hcb : c = b
    · subst hcb; rw [Heap.set_same] at hc ⊢; exact hc
    · rw [Heap.set_ne _ _ _ _ hcb] at hc ⊢; exact hsub c o hcb hc
  · obtain ⟨n1, n2⟩ := hn k m c rfl
    have htr : Ent B h (h.set k (.vec e (plains xs) nn)) := by
      refine ⟨fun c' e' => by rw [Heap.set_ne _ _ _ _ (fun x => by rw [x, h2] at e'; cases e')]; exact e', ?_⟩
      rintro F w ⟨own, R⟩
      obtain ⟨ho, hle, hvec⟩ := R.obj _ _ h2
      refine ⟨own, R.change (by simp [h2]) rfl rfl rfl (Nat.le_refl _) (fun _ _ _ => rfl) ⟨?_, hvec.imp rfl ?_⟩⟩
      · simp [plains] at hle ⊢; omega
      · intro j u hu f hf
        refine hu f ?_
        simp only [plains, List.getElem?_map] at hf ⊢
        cases hx : xs[j]? with
        | none => rw [hx] at hf; cases hf
        | some x =>
          rw [hx] at hf
          rw [List.getElem?_append_left (List.getElem?_eq_some_iff.1 hx).1, hx]
          exact hf
    have hb' : (h.set k (.vec e (plains xs) nn)) b = some (.vec t fs n) := by rw [Heap.set_ne _ _ _ _ (Ne.symm n2)]; exact hb
    refine htr.trans ((Ent.close (B := B) (e := e) (sz := sz) (xs := xs) hb' hi (Heap.set_same _ _ _) n2 h3 h4 h5).trans (Ent.forget fun c' o hc => ?_))
    by_cases hcb : c' = b
    · subst hcb; rw [Heap.set_same] at hc ⊢; exact hc
    · rw [Heap.set_ne _ _ _ _ hcb] at hc ⊢
      have hck : c' ≠ k := fun e0 => by rw [e0, n1] at hc; cases hc
      rw [Heap.del_ne _ _ _ hck, Heap.set_ne _ _ _ _ hck]
      exact hsub c' o hcb hc
end
end Go.Proofs.YtlehephbflgblaaGreat.H
namespace Go.Proofs.YtlehephbflgblaaGreat.H
open Go
set_option linter.unusedVariables false
section
variable {P : Program} {B : RO} {N : Nat} {k : List Item} {e : Env} {h : Heap} {Φ : Lv → Env → Heap → Prop}
theorem Run.go {ops : Array Oper} {i : Nat} {idx : List Nat} {o : Oper} (ho : ops[i]? = some o) (hd : (dstOK N o && noDefer o) = true) (hw : Region.wanted o (yieldE ops e) = true)
    (hs : semH P B (execOp (evalE e) o) h (fun nx h' => After P B nx h' (fun v h'' => Run P B N (.inRegion ops idx :: k) (updO e o.dst v) h'' Φ))) : Run P B N (.inRegion ops (i :: idx) :: k) e h Φ := by
  simp only [Bool.and_eq_true] at hd
  exact Run.op ho hd.1 hd.2 (.inl ⟨hw, hs⟩)
theorem Run.no {ops : Array Oper} {i : Nat} {idx : List Nat} {o : Oper} (ho : ops[i]? = some o) (hd : (dstOK N o && noDefer o) = true) (hw : Region.wanted o (yieldE ops e) = false)
    (hs : Run P B N (.inRegion ops idx :: k) (updO e o.dst undef) h Φ) : Run P B N (.inRegion ops (i :: idx) :: k) e h Φ := by
  simp only [Bool.and_eq_true] at hd
  exact Run.op ho hd.1 hd.2 (.inr ⟨hw, hs⟩)
def Agree : List (Nat × Value) → Env → Prop
  | [], _ => True
  | (t, v) :: l, e => e t = v ∧ Agree l e
def updL : List (Nat × Value) → Env → Env
  | [], e => e
  | (t, v) :: l, e => upd (updL l e) t v
theorem updL_eq : ∀ {l : List (Nat × Value)} {e : Env}, Agree l e → updL l e = e := by
  intro l
  induction l with
  | nil => intro e _; rfl
  | cons p l ih =>
    obtain ⟨t, v⟩ := p
    rintro e ⟨h1, h2⟩
    simp only [updL, ih h2]
    funext s
    by_cases hs : s = t
    · subst hs; rw [upd_same]; exact h1.symm
    · rw [upd_ne _ _ _ _ hs]
theorem Run.env {todo : List Item} {l : List (Nat × Value)} (ha : Agree l e) (hr : Run P B N todo (updL l e) h Φ) : Run P B N todo e h Φ := by rwa [updL_eq ha] at hr
theorem Run.seqJ {x y : Code} (J : Env → Heap → Prop) (hj : ∀ e h, J e h → Run P B N (.code y :: k) e h Φ) (hx : (∀ e h, J e h → Run P B N (.code y :: k) e h Φ) → Run P B N (.code x :: .code y :: k) e h Φ) : Run P B N (.code (.seq x y) :: k) e h Φ := (hx hj).seq
theorem Run.condT {c : Operand} {x y : Code} (hc : evalE e c = .bool true) (hr : Run P B N (.code x :: k) e h Φ) : Run P B N (.code (.cond c x y) :: k) e h Φ := Run.cond hc hr
theorem Run.condF {c : Operand} {x y : Code} (hc : evalE e c = .bool false) (hr : Run P B N (.code y :: k) e h Φ) : Run P B N (.code (.cond c x y) :: k) e h Φ := Run.cond hc hr
theorem Fin.imp {K K' : Heap → Prop} (hf : Fin B h K) (hk : ∀ h', K h' → K' h') : Fin B h K' := let ⟨h', a, b⟩ := hf; ⟨h', a, hk _ b⟩
theorem Fin.ent {h h' : Heap} {K : Heap → Prop} (he : Ent B h h') (hf : Fin B h' K) : Fin B h K := let ⟨h2, a, b⟩ := hf; ⟨h2, he.trans a, b⟩
def LdSl (B : RO) (h : Heap) (A : Addr) (K : Option Addr → Nat → Nat → Heap → Prop) : Prop :=
  (∃ a n c, cellH B h A = some (.slice a n c) ∧ K a n c h) ∨
  (∃ t fs nn e sz xs, A.spot = none ∧ h A.block = some (.vec t fs nn) ∧ fs[A.off]? = some (.own e sz xs) ∧ ∀ a n c h', Opened B h A.block t fs nn A.off e sz xs (.slice a n c) h' → K a n c h')
theorem Opened.slice {b : Nat} {t : TypeId} {fs : List Fld} {n i : Nat} {e : TypeId} {sz : Nat} {xs : List Value} {v : Value} {h' : Heap} (ho : Opened B h b t fs n i e sz xs v h') : ∃ a m c, v = .slice a m c := by
  rcases ho with ⟨rfl, _⟩ | ⟨k, m, c, nn, _, _, _, rfl, _⟩
  · exact ⟨_, _, _, rfl⟩
  · exact ⟨_, _, _, rfl⟩
theorem Opened.blk {b : Nat} {t : TypeId} {fs : List Fld} {n i : Nat} {e : TypeId} {sz : Nat} {xs : List Value} {v : Value} {h' : Heap} (ho : Opened B h b t fs n i e sz xs v h') : h' b = some (.vec t (fs.set i (.plain v)) n) := by
  rcases ho with ⟨_, _, rfl⟩ | ⟨k, m, c, nn, _, _, hne, _, _, _, _, _, rfl⟩
  · exact Heap.set_same _ _ _
  · rw [Heap.set_ne _ _ _ _ (Ne.symm hne), Heap.set_same]
theorem Opened.cell {b : Nat} {t : TypeId} {fs : List Fld} {n i : Nat} {e : TypeId} {sz : Nat} {xs : List Value} {v : Value} {h' : Heap} (hi : fs[i]? = some (.own e sz xs)) (ho : Opened B h b t fs n i e sz xs v h') : cellH B h' ⟨b, i, none⟩ = some v := by
  have hl := (List.getElem?_eq_some_iff.1 hi).1
  simp [cellH, ho.blk, hl]
theorem Opened.row {b : Nat} {t : TypeId} {fs : List Fld} {n i : Nat} {e : TypeId} {sz : Nat} {xs : List Value} {v : Value} {h' : Heap} (ho : Opened B h b t fs n i e sz xs v h') : SlRow h' v e sz xs := by
  rcases ho with ⟨rfl, rfl, rfl⟩ | ⟨k, m, c, nn, h1, h2, hne, rfl, h3, h4, h5, h6, rfl⟩
  · exact .inl ⟨rfl, rfl⟩
  · exact .inr ⟨k, m, c, nn, [], rfl, by rw [Heap.set_same]; simp [plains], h3, h4, h5⟩
theorem Opened.sub {b : Nat} {t : TypeId} {fs : List Fld} {n i : Nat} {e : TypeId} {sz : Nat} {xs : List Value} {v : Value} {h' : Heap} (ho : Opened B h b t fs n i e sz xs v h') : Sub h b h' := by
  rcases ho with ⟨rfl, rfl, rfl⟩ | ⟨k, m, c, nn, h1, h2, hne, rfl, h3, h4, h5, h6, rfl⟩
  · intro c o hc hh; rw [Heap.set_ne _ _ _ _ hc]; exact hh
  · intro c' o hc hh
    rw [Heap.set_ne, Heap.set_ne _ _ _ _ hc]
    · exact hh
    · intro e0; rw [e0, h1] at hh; cases hh
theorem Opened.new {b : Nat} {t : TypeId} {fs : List Fld} {n i : Nat} {e : TypeId} {sz : Nat} {xs : List Value} {v : Value} {h' : Heap} (ho : Opened B h b t fs n i e sz xs v h') : ∀ k m c, v = .slice (some ⟨k, 0, none⟩) m c → h k = none ∧ k ≠ b := by
  rcases ho with ⟨rfl, rfl, rfl⟩ | ⟨k, m, c, nn, h1, h2, hne, rfl, h3, h4, h5, h6, rfl⟩
  · intro k m c hv; cases hv
  · intro k' m' c' hv; cases hv; exact ⟨h1, hne⟩
theorem Run.open {todo : List Item} {b : Nat} {t : TypeId} {fs : List Fld} {n i : Nat} {t' : TypeId} {sz : Nat} {xs : List Value} (hb : h b = some (.vec t fs n)) (hi : fs[i]? = some (.own t' sz xs)) (hr : ∀ v h', Opened B h b t fs n i t' sz xs v h' → Run P B N todo e h' Φ) : Run P B N todo e h Φ :=
  fun F w b' cs tm ds r1 r2 R => let ⟨v, h', ho, R'⟩ := R.opened hb hi; hr v h' ho F w b' cs tm ds r1 r2 R'
theorem Spec.open {f : FuncId} {args : Array Value} {Q : Value → Heap → Prop} {b : Nat} {t : TypeId} {fs : List Fld} {n i : Nat} {t' : TypeId} {sz : Nat} {xs : List Value} (hb : h b = some (.vec t fs n)) (hi : fs[i]? = some (.own t' sz xs)) (hr : ∀ v h', Opened B h b t fs n i t' sz xs v h' → Spec P B f args h' Q) : Spec P B f args h Q :=
  fun F w R => let ⟨v, h', ho, R'⟩ := R.opened hb hi; hr v h' ho F w R'
theorem Run.ldSl {todo : List Item} {A : Addr} {K : Option Addr → Nat → Nat → Heap → Prop} (hl : LdSl B h A K) (hr : ∀ a n c h', cellH B h' A = some (.slice a n c) → K a n c h' → Run P B N todo e h' Φ) : Run P B N todo e h Φ := by
  rcases hl with ⟨a, n, c, h1, h2⟩ | ⟨t, fs, nn, t', sz, xs, hs, hb, hi, hk⟩
  · exact hr a n c h h1 h2
  · refine Run.open hb hi fun v h' ho => ?_
    obtain ⟨a, m, c, rfl⟩ := ho.slice
    refine hr a m c h' ?_ (hk a m c h' ho)
    obtain ⟨Ab, Ao, As⟩ := A
    simp only at hs hi ho
    subst hs
    exact ho.cell hi
def CallV (P : Program) (B : RO) (f : Value) (args : List Value) (h : Heap) (K : Value → Heap → Prop) : Prop :=
  semH P B (do let d ← Deferred.ofValue f args.toArray; invoke d.target d.args) h (fun nx h' => After P B nx h' K)
theorem CallV.mono {f : Value} {args : List Value} {K K' : Value → Heap → Prop} (hk : ∀ v h', K v h' → K' v h') (hc : CallV P B f args h K) : CallV P B f args h K' := semH_mono (fun nx h' ha => ha.mono hk) hc
theorem CallV.func {g : FuncId} {first captured : Array Value} {args : List Value} {K : Value → Heap → Prop} (hg : Goes P g) (hs : Spec P B g (first ++ args.toArray ++ captured) h K) : CallV P B (.func (.func g) first captured) args h K := by
  unfold CallV
  show semH P B (callFunc g (first ++ args.toArray ++ captured)) h _
  exact semH_callFunc hg hs
def NilOK (f : Value) : Prop := (∃ g a b, f = .func (.func g) a b) ∨ (∃ l a b, f = .func (.yield l) a b)
variable {ρ : Operand → Value} {d : Option Nat} {ty : TypeId} {pos : String} {aft : Array Edge} {g : Option (Nat × Bool)} {K : Next → Heap → Prop}
theorem sem_callV {fo : Operand} {args : List Operand} {tys : Array TypeId} (f : Value) (vs : List Value) (hf : ρ fo = f) (ha : args.map ρ = vs) {K' : Value → Heap → Prop} (hc : CallV P B f vs h K') (hk : ∀ nx h', After P B nx h' K' → K nx h') :
    semH P B (execOp ρ ⟨d, .call ⟨.value fo, args.toArray, tys⟩, ty, pos, aft, g⟩) h K := by
  subst hf ha
  show semH P B (do let d ← resolve ρ ⟨.value fo, args.toArray, tys⟩ ty; invoke d.target d.args) h K
  have : resolve ρ ⟨.value fo, args.toArray, tys⟩ ty = Deferred.ofValue (ρ fo) (args.map ρ).toArray := by simp [resolve]
  rw [this]
  exact semH_mono hk hc
theorem sem_callL {f : FuncId} {args : List Operand} {tys : Array TypeId} (vs : List Value) (hg : Goes P f) (hf : ρ (.func f) = .func (.func f) #[] #[]) (ha : args.map ρ = vs) (k : K (.enter f vs.toArray) h) :
    semH P B (execOp ρ ⟨d, .call ⟨.value (.func f), args.toArray, tys⟩, ty, pos, aft, g⟩) h K := sem_call vs.toArray hg hf (by subst ha; simp) k
theorem sem_callXL {f : FuncId} {e : Array Value → Sem Value} {args : List Operand} {tys : Array TypeId} (vs : List Value) (hg : GoesX P f e) (hf : ρ (.func f) = .func (.func f) #[] #[]) (ha : args.map ρ = vs) (hs : semH P B (e vs.toArray) h (fun v h' => K (.value v) h')) :
    semH P B (execOp ρ ⟨d, .call ⟨.value (.func f), args.toArray, tys⟩, ty, pos, aft, g⟩) h K := sem_callX vs.toArray hg hf (by subst ha; simp) hs
def putL : List Value → Nat → List Value → List Value
  | cs, _, [] => cs
  | cs, off, c :: r => putL (cs.set off c) (off + 1) r
def fillL (place : Nat → Option (Nat × Nat)) : List Value → List (Nat × Value) → Option (List Value)
  | cs, [] => some cs
  | cs, (i, v) :: rest => match place i with
    | none => none
    | some (off, size) => if (v.cells.toList.length != size || decide (off + v.cells.toList.length > cs.length)) = true then none else fillL place (putL cs off v.cells.toList) rest
theorem foldl_putL (off : Nat) : ∀ (l : List Value) (cs : List Value) (s : Nat), (l.zipIdx s).foldl (fun (cs : Array Value) (x : Value × Nat) => cs.setIfInBounds (off + x.2) x.1) cs.toArray = (putL cs (off + s) l).toArray := by
  intro l
  induction l with
  | nil => intro cs s; rfl
  | cons c r ih =>
    intro cs s
    simp only [List.zipIdx_cons, List.foldl_cons, putL, List.setIfInBounds_toArray]
    rw [ih]
    rfl
theorem fill_eq (place : Nat → Option (Nat × Nat)) : ∀ (vs : List (Nat × Value)) (cs : List Value), Instr.fill place cs.toArray vs = (fillL place cs vs).map List.toArray := by
  intro vs
  induction vs with
  | nil => intro cs; rfl
  | cons p vs ih =>
    obtain ⟨i, v⟩ := p
    intro cs
    unfold Instr.fill fillL
    cases place i with
    | none => rfl
    | some q =>
      obtain ⟨off, size⟩ := q
      simp only [Array.length_toList, List.size_toArray]
      split
      · rename_i h1
        rw [if_pos (by simpa using h1)]
        rfl
      · rename_i h1
        rw [if_neg (by simpa using h1)]
        have := foldl_putL off v.cells.toList cs 0
        rw [Nat.add_zero] at this
        rw [← ih, ← this]
        congr 1
        rw [← Array.foldl_toList]
        simp
theorem sem_buildSL {t : TypeId} {parts : List (Nat × Operand)} {zs : List Value} {pl : List (Nat × Nat)} (vs : List (Nat × Value)) (cs : List Value) (hz : zeroB P t = some zs) (hp : strPlaces P t = some pl) (hv : parts.map (fun p => (p.1, ρ p.2)) = vs)
    (hc : fillL (fun i => pl[i]?) zs vs = some cs) (k : K (.value (.agg cs.toArray)) h) : semH P B (execOp ρ ⟨d, .build t parts.toArray, ty, pos, aft, g⟩) h K := sem_buildS vs cs hz hp (by subst hv; simp) (by rw [fill_eq, hc]; rfl) k
theorem sem_buildAL {t : TypeId} {parts : List (Nat × Operand)} {zs : List Value} {n te sz : Nat} {b : Bool} (vs : List (Nat × Value)) (cs : List Value) (hz : zeroB P t = some zs) (hp : arrB P t = some (n, te, sz, b)) (hv : parts.map (fun p => (p.1, ρ p.2)) = vs)
    (hc : fillL (fun i => some (i * sz, sz)) zs vs = some cs) (k : K (.value (.agg cs.toArray)) h) : semH P B (execOp ρ ⟨d, .build t parts.toArray, ty, pos, aft, g⟩) h K := sem_buildA vs cs hz hp (by subst hv; simp) (by rw [fill_eq, hc]; rfl) k
theorem range_mod (zs : List Value) (hz : 0 < zs.length) : ∀ n : Nat, (Array.range (n * zs.length)).map (zs.toArray[· % zs.length]!) = (List.replicate n zs).flatten.toArray := by
  intro n
  apply Array.toList_inj.1
  simp only [Array.toList_map, Array.toList_range]
  induction n with
  | zero => simp
  | succ n ih =>
    rw [Nat.succ_mul, List.range_add, List.map_append, ih, List.replicate_succ', List.flatten_append, List.map_map]
    congr 1
    simp only [List.flatten_cons, List.flatten_nil, List.append_nil]
    apply List.ext_getElem?
    intro i
    by_cases hi : i < zs.length
    · have : (n * zs.length + i) % zs.length = i := by rw [Nat.mul_comm, Nat.mul_add_mod]; exact Nat.mod_eq_of_lt hi
      simp [hi, this]
    · simp [hi]
theorem sem_buildSliceL {t : TypeId} {len : Nat} {parts : List (Nat × Operand)} {zs : List Value} {te sz bz : Nat} (vs : List (Nat × Value)) (cs : List Value) (ht : slcB P t = some (te, sz, bz)) (hz : zeroB P te = some zs) (hzl : zs.length = sz) (hl : len * sz ≤ 16777216) (hl0 : len * sz ≠ 0) (hv : parts.map (fun p => (p.1, ρ p.2)) = vs)
    (hc : fillL (fun i => some (i * sz, sz)) (List.replicate len zs).flatten vs = some cs) (k : ∀ b, h b = none → B b = none → ∀ h', h' = h.set b (.vec te (plains cs) cs.length) → K (.value (.slice (some ⟨b, 0, none⟩) len len)) h') :
    semH P B (execOp ρ ⟨d, .buildSlice t len parts.toArray, ty, pos, aft, g⟩) h K := by
  subst hzl
  have h0 : 0 < zs.length := Nat.pos_of_ne_zero (fun e => hl0 (by rw [e, Nat.mul_zero]))
  exact sem_buildSlice vs cs ht hz hl hl0 (by subst hv; simp) (by rw [range_mod zs h0, fill_eq, hc]; rfl) (fun b h1 h2 => k b h1 h2 _ rfl)
theorem sem_box1N {t : TypeId} {x : Operand} (v : Value) (hx : ρ x = v) (ho : isOne v = true) (k : ∀ b, h b = none → B b = none → ∀ h', h' = h.set b (.vec t [.plain v] 1) → K (.value (.pointer (some ⟨b, 0, none⟩))) h') :
    semH P B (execOp ρ ⟨d, .box t x, ty, pos, aft, g⟩) h K := sem_box1 v hx ho (fun b h1 h2 => k b h1 h2 _ rfl)
theorem sem_boxNN {t : TypeId} {x : Operand} (vs : List Value) (hx : ρ x = .agg vs.toArray) (k : ∀ b, h b = none → B b = none → ∀ h', h' = h.set b (.vec t (plains vs) vs.length) → K (.value (.pointer (some ⟨b, 0, none⟩))) h') :
    semH P B (execOp ρ ⟨d, .box t x, ty, pos, aft, g⟩) h K := sem_boxN vs hx (fun b h1 h2 => k b h1 h2 _ rfl)
theorem sem_appendL {args : List Operand} {tys : Array TypeId} (vs : List Value) (ha : args.map ρ = vs) (hs : semH P B (Builtin.append_ tys ty vs.toArray) h (fun v h' => K (.value v) h')) : semH P B (execOp ρ ⟨d, .call ⟨.builtin .append, args.toArray, tys⟩, ty, pos, aft, g⟩) h K := sem_appendW _ (by subst ha; simp) hs
theorem sem_copyL {args : List Operand} {tys : Array TypeId} (vs : List Value) (ha : args.map ρ = vs) (hs : semH P B (Builtin.copy_ tys ty vs.toArray) h (fun v h' => K (.value v) h')) : semH P B (execOp ρ ⟨d, .call ⟨.builtin .copy, args.toArray, tys⟩, ty, pos, aft, g⟩) h K := sem_copyW _ (by subst ha; simp) hs
def byteAt (s : ByteArray) (i : Nat) : Int := if h : i < s.size then ((s[i]).toNat : Int) else 0
theorem sem_indexStr' {t : TypeId} {x ix : Operand} (s : ByteArray) (kk : IntKind) (i : Int) (hx : ρ x = .string s) (hi : ρ ix = .int kk i) (ht : isStr P t = true) (h0 : 0 ≤ i) (h1 : i < s.size) (k : K (.value (.int .u8 (byteAt s i.toNat))) h) :
    semH P B (execOp ρ ⟨d, .index t x ix, ty, pos, aft, g⟩) h K := by
  have h1' : i.toNat < s.size := by omega
  refine sem_indexStr s kk i hx hi ht h0 h1' ?_
  have : byteAt s i.toNat = ((s[i.toNat]).toNat : Int) := by simp [byteAt, h1']
  rw [this] at k
  exact k
def lowOf (ρ : Operand → Value) (o : Option Operand) (v : Int) : Prop := match o with | some x => ∃ kk, ρ x = .int kk v | none => v = 0
def highOf (ρ : Operand → Value) (o : Option Operand) (v n : Int) : Prop := match o with | some x => ∃ kk, ρ x = .int kk v | none => v = n
theorem sem_sliceStrI {t : TypeId} {x : Operand} {lo hi : Option Operand} (s : ByteArray) (l hh : Int) (hx : ρ x = .string s) (ht : isStr P t = true) (hl : lowOf ρ lo l) (hhi : highOf ρ hi hh s.size) (h0 : 0 ≤ l) (h1 : l ≤ hh) (h2 : hh ≤ s.size)
    (k : K (.value (.string (s.extract l.toNat hh.toNat))) h) : semH P B (execOp ρ ⟨d, .slice t x lo hi none, ty, pos, aft, g⟩) h K := by
  refine sem_sliceStr s l.toNat hh.toNat hx ht ?_ ?_ (by omega) (by omega) k
  · unfold lowOf at hl
    cases lo with
    | none => simp only at hl ⊢; omega
    | some x => obtain ⟨kk, hl⟩ := hl; exact ⟨kk, by rw [hl]; congr 1; omega⟩
  · unfold highOf at hhi
    cases hi with
    | none => simp only at hhi ⊢; omega
    | some x => obtain ⟨kk, hhi⟩ := hhi; exact ⟨kk, by rw [hhi]; congr 1; omega⟩
theorem sem_sliceSlI {t : TypeId} {x : Operand} {lo hi : Option Operand} {te sz bz : Nat} (a : Option Addr) (len cap : Nat) (l hh : Int) (hx : ρ x = .slice a len cap) (ht : slcB P t = some (te, sz, bz)) (hl : lowOf ρ lo l) (hhi : highOf ρ hi hh len) (h0 : 0 ≤ l) (h1 : l ≤ hh) (h2 : hh ≤ cap)
    (k : K (.value (.slice (if cap = l.toNat then a else a.map (·.add (l.toNat * sz))) (hh.toNat - l.toNat) (cap - l.toNat))) h) : semH P B (execOp ρ ⟨d, .slice t x lo hi none, ty, pos, aft, g⟩) h K := by
  refine sem_sliceSl a len cap l.toNat hh.toNat hx ht ?_ ?_ (by omega) (by omega) k
  · unfold lowOf at hl
    cases lo with
    | none => simp only at hl ⊢; omega
    | some x => obtain ⟨kk, hl⟩ := hl; exact ⟨kk, by rw [hl]; congr 1; omega⟩
  · unfold highOf at hhi
    cases hi with
    | none => simp only at hhi ⊢; omega
    | some x => obtain ⟨kk, hhi⟩ := hhi; exact ⟨kk, by rw [hhi]; congr 1; omega⟩
theorem binI_eql_t {k : IntKind} {a b : Int} (h : a = b) : binI .eql k a b = some (.bool true) := by simp [binI]; omega
theorem binI_eql_f {k : IntKind} {a b : Int} (h : ¬ (a = b)) : binI .eql k a b = some (.bool false) := by simp [binI]; omega
theorem binI_lss_t {k : IntKind} {a b : Int} (h : a < b) : binI .lss k a b = some (.bool true) := by simp [binI]; omega
theorem binI_lss_f {k : IntKind} {a b : Int} (h : ¬ (a < b)) : binI .lss k a b = some (.bool false) := by simp [binI]; omega
theorem binI_leq_t {k : IntKind} {a b : Int} (h : a ≤ b) : binI .leq k a b = some (.bool true) := by simp [binI]; omega
theorem binI_leq_f {k : IntKind} {a b : Int} (h : ¬ (a ≤ b)) : binI .leq k a b = some (.bool false) := by simp [binI]; omega
theorem binI_gtr_t {k : IntKind} {a b : Int} (h : a > b) : binI .gtr k a b = some (.bool true) := by simp [binI]; omega
theorem binI_gtr_f {k : IntKind} {a b : Int} (h : ¬ (a > b)) : binI .gtr k a b = some (.bool false) := by simp [binI]; omega
theorem binI_geq_t {k : IntKind} {a b : Int} (h : a ≥ b) : binI .geq k a b = some (.bool true) := by simp [binI]; omega
theorem binI_geq_f {k : IntKind} {a b : Int} (h : ¬ (a ≥ b)) : binI .geq k a b = some (.bool false) := by simp [binI]; omega
theorem binI_neq_f {k : IntKind} {a b : Int} (h : ¬ (a = b)) : binI .neq k a b = some (.bool true) := by simp [binI]; omega
theorem binI_neq_t {k : IntKind} {a b : Int} (h : a = b) : binI .neq k a b = some (.bool false) := by simp [binI]; omega
theorem sem_strEqT {t t' : TypeId} {x y : Operand} (a b : ByteArray) (hx : ρ x = .string a) (hy : ρ y = .string b) (hb : a = b) (k : K (.value (.bool true)) h) : semH P B (execOp ρ ⟨d, .binOp .eql t x y t', ty, pos, aft, g⟩) h K := sem_strEq a b hx hy (by simpa [hb] using k)
theorem sem_strEqF {t t' : TypeId} {x y : Operand} (a b : ByteArray) (hx : ρ x = .string a) (hy : ρ y = .string b) (hb : ¬ (a = b)) (k : K (.value (.bool false)) h) : semH P B (execOp ρ ⟨d, .binOp .eql t x y t', ty, pos, aft, g⟩) h K := sem_strEq a b hx hy (by simpa [hb] using k)
theorem sem_strNeT {t t' : TypeId} {x y : Operand} (a b : ByteArray) (hx : ρ x = .string a) (hy : ρ y = .string b) (hb : a = b) (k : K (.value (.bool false)) h) : semH P B (execOp ρ ⟨d, .binOp .neq t x y t', ty, pos, aft, g⟩) h K := sem_strNe a b hx hy (by simpa [hb] using k)
theorem sem_strNeF {t t' : TypeId} {x y : Operand} (a b : ByteArray) (hx : ρ x = .string a) (hy : ρ y = .string b) (hb : ¬ (a = b)) (k : K (.value (.bool true)) h) : semH P B (execOp ρ ⟨d, .binOp .neq t x y t', ty, pos, aft, g⟩) h K := sem_strNe a b hx hy (by simpa [hb] using k)
theorem sem_ptrNilV {op : BinOp} {t t' : TypeId} {x y : Operand} (p : Option Addr) (hop : op = .eql ∨ op = .neq) (r : Bool) (hx : ρ x = .pointer p) (hy : ρ y = .pointer none) (ht : ptrB P t = true) (hr : (if op = .eql then p.isNone else !p.isNone) = r) (k : K (.value (.bool r)) h) : semH P B (execOp ρ ⟨d, .binOp op t x y t', ty, pos, aft, g⟩) h K := sem_ptrNil p hop hx hy ht (by rw [hr]; exact k)
theorem sem_ptrNilT {op : BinOp} {t t' : TypeId} {x y : Operand} (p : Option Addr) (hop : op = .eql ∨ op = .neq) (r : Bool) (hx : ρ x = .pointer p) (hy : ρ y = .pointer none) (ht : ptrB P t = true) (hp : p = none) (hr : (if op = .eql then true else false) = r) (k : K (.value (.bool r)) h) : semH P B (execOp ρ ⟨d, .binOp op t x y t', ty, pos, aft, g⟩) h K :=
  sem_ptrNilV p hop r hx hy ht (by subst hp; rw [← hr]; rfl) k
theorem sem_ptrNilF {op : BinOp} {t t' : TypeId} {x y : Operand} (p : Option Addr) (hop : op = .eql ∨ op = .neq) (r : Bool) (hx : ρ x = .pointer p) (hy : ρ y = .pointer none) (ht : ptrB P t = true) (hp : ¬ (p = none)) (hr : (if op = .eql then false else true) = r) (k : K (.value (.bool r)) h) : semH P B (execOp ρ ⟨d, .binOp op t x y t', ty, pos, aft, g⟩) h K :=
  sem_ptrNilV p hop r hx hy ht (by cases p with | none => exact absurd rfl hp | some a => rw [← hr]; rfl) k
theorem loadH1 {t : TypeId} {A : Addr} {v : Value} (ht : aggB P t = some false) (hl : cellH B h A = some v) : loadH P B h t A v := by
  unfold loadH loadVar
  rw [semH_agg ht]
  exact ⟨v, hl, rfl, rfl⟩
theorem loadHN {t : TypeId} {A : Addr} {vs : List Value} (ht : aggB P t = some true) (hn : szB P t = some vs.length) (hl : CellsAt B h A 0 vs) : loadH P B h t A (.agg vs.toArray) := by
  unfold loadH loadVar
  rw [semH_agg ht]
  simp only [if_true]
  rw [semH_sz hn, semH_bind]
  refine semH_loadCells vs 0 #[] hl ?_
  rw [semH_pure]
  simp
def Iter (P : Program) (B : RO) (f : Value) (encs : List (List Value)) (G : Heap → Prop) : Prop :=
  ∃ g first captured, f = .func (.func g) first captured ∧ Goes P g ∧
    ∀ (y : Value) (J : Nat → Heap → Prop) (X : Heap → Prop) (h : Heap), NilOK y → (∀ i h, J i h → G h) → J 0 h →
      (∀ i h args, encs[i]? = some args → J i h → CallV P B y args h (fun v h' => Fin B h' (fun h'' => (v = .bool true ∧ J (i + 1) h'') ∨ (v = .bool false ∧ X h'')))) →
      Spec P B g (first ++ #[y] ++ captured) h (fun v h' => Fin B h' (fun h'' => J encs.length h'' ∨ X h''))
def Ins (G : Heap → Prop) : Prop := ∀ h l o, h l = none → G h → G (h.set l o)
theorem Ins.blk {r : Nat} {o : AObj} : Ins (fun h => h r = some o) := fun h l o' hl hg => by
  show (h.set l o') r = some o
  have hg : h r = some o := hg
  rw [Heap.set_ne _ _ _ _ (fun e => by rw [← e, hg] at hl; cases hl)]; exact hg
theorem Ins.and {G G' : Heap → Prop} (a : Ins G) (b : Ins G') : Ins (fun h => G h ∧ G' h) := fun h l o hl hg => ⟨a h l o hl hg.1, b h l o hl hg.2⟩
def putE (e : Env) : List (Nat × Value) → Env
  | [] => e
  | (t, v) :: l => putE (upd e t v) l
theorem EnvOK.puts {N : Nat} : ∀ (l : List (Nat × Value)) (tm : Array Value) (e : Env), EnvOK tm N e → (∀ p ∈ l, p.1 < N) → EnvOK (l.foldl (fun tm (p : Nat × Value) => tm.setIfInBounds p.1 p.2) tm) N (putE e l) := by
  intro l
  induction l with
  | nil => intro tm e h _; exact h
  | cons p l ih =>
    intro tm e h hp
    exact ih _ _ (h.put (hp p (by simp)) p.2) (fun q hq => hp q (by simp [hq]))
theorem CallV.yield {l : Nat} {rec : Loop} {args : List Value} {h : Heap} {K : Value → Heap → Prop} (hl : h l = some (.raw (.loop rec))) (hn : args.length = rec.params.size)
    (hk : RoundSpec P B l rec.fn ((rec.params.zip args.toArray).foldl (fun tmps (x : Nat × Value) => tmps.setIfInBounds x.1 x.2) rec.tmps) rec.assign rec.body h K) : CallV P B (.func (.yield l) #[] #[]) args h K := by
  unfold CallV
  have : Deferred.ofValue (.func (.yield l) #[] #[]) args.toArray = pure { target := .fn (.yield l) #[], args := args.toArray } := by simp [Deferred.ofValue]
  rw [this, pure_bind]
  show semH P B (Instr.yield l args.toArray) h _
  unfold Instr.yield
  rw [semH_bind]
  show semH P B ((getObj l).bind _) h _
  simp only [getObj, Sem.bind]
  refine ⟨_, hl, rfl, ?_⟩
  show semH P B (if args.toArray.size ≠ rec.params.size then _ else _) h _
  rw [if_neg (by simpa using hn)]
  exact hk
theorem Run.range {f : Operand} {ps : List Tmp} {assign body : Code} (v : Value) (encs : List (List Value)) (G : Heap → Prop) (J : Nat → Heap → Prop) (hf : evalE e f = v) (hit : Iter P B v encs G) (hins : Ins G) (hG : ∀ i h, J i h → G h) (h0 : J 0 h)
    (hps : (ps.all (· < N)) = true) (hsz : ∀ a ∈ encs, a.length = ps.length)
    (hbody : ∀ i args hh, encs[i]? = some args → J i hh → Run P B N [.code assign, .beginRound, .code body] (putE e (ps.zip args)) hh (fun lv e2 h2 => lv = .begin [.code body] ∧ Run P B N [.code body] e2 h2 (fun lv2 e3 h3 =>
      (lv2 = .fall ∧ J (i + 1) h3) ∨ (∃ c, jumpOf lv2 = some (some c) ∧ Run P B N (.code c :: k) e h3 Φ))))
    (hrest : ∀ hh, J encs.length hh → Run P B N k e hh Φ) : Run P B N (.code (.rangeFunc f ps.toArray assign body) :: k) e h Φ := by
  obtain ⟨g', first, captured, rfl, hg, hspec⟩ := hit
  refine Run.rangeFunc hf hg fun l fnid tm r he hl hB => ?_
  let rec0 : Loop := { state := .ready, pending := none, fn := fnid, tmps := tm, params := ps.toArray, assign, body, defers := r }
  let J' : Nat → Heap → Prop := fun i h1 => ∃ hh, hh l = none ∧ h1 = hh.set l (.raw (.loop rec0)) ∧ J i hh
  let X' : Heap → Prop := fun h1 => ∃ hh rec c, hh l = none ∧ h1 = hh.set l (.raw (.loop rec)) ∧ rec.state ≠ .busy ∧ rec.pending = some c ∧ Run P B N (.code c :: k) e hh Φ
  have := hspec (.func (.yield l) #[] #[]) J' X' (h.set l (.raw (.loop rec0))) (.inr ⟨l, _, _, rfl⟩) (fun i h1 ⟨hh, a, b, c⟩ => by subst b; exact hins _ _ _ a (hG i hh c)) ⟨h, hl, rfl, h0⟩ (by
    rintro i h1 args ha ⟨hh, a, rfl, c⟩
    refine CallV.yield (rec := rec0) (Heap.set_same _ _ _) (by simpa [rec0] using hsz args (List.mem_of_getElem? ha)) ?_
    have hfold : ((rec0.params.zip args.toArray).foldl (fun tmps (x : Nat × Value) => tmps.setIfInBounds x.1 x.2) rec0.tmps) = (ps.zip args).foldl (fun tm (p : Nat × Value) => tm.setIfInBounds p.1 p.2) tm := by
      simp [rec0]
    rw [hfold]
    refine RoundSpec.of_run a hB rfl (EnvOK.puts (ps.zip args) tm e he (fun p hp => by
      have := (List.of_mem_zip hp).1
      have h2 := List.all_eq_true.1 hps _ this
      simpa using h2)) ?_
    refine (hbody i args hh ha c).mono ?_
    rintro lv e2 h2 ⟨rfl, hr⟩
    refine ⟨rfl, hr.mono ?_⟩
    rintro lv2 e3 h3 (⟨rfl, hJ⟩ | ⟨c', hj, hr'⟩)
    · exact ⟨none, rfl, fun hl3 => Fin.of (.inl ⟨rfl, h3, hl3, rfl, hJ⟩)⟩
    · exact ⟨some c', hj, fun hl3 => Fin.of (.inr ⟨rfl, h3, _, c', hl3, rfl, by simp, rfl, hr'⟩)⟩)
  refine Spec.fin (this.mono ?_)
  rintro v h1 hfin
  refine hfin.imp ?_
  rintro h2 (⟨hh, a, rfl, c⟩ | ⟨hh, rec, c, a, rfl, b1, b2, b3⟩)
  · exact ⟨rec0, hh, a, rfl, by simp [rec0], hrest hh c⟩
  · refine ⟨rec, hh, a, rfl, b1, ?_⟩
    rw [b2]
    exact b3
end
end Go.Proofs.YtlehephbflgblaaGreat.H
namespace Go.Proofs.YtlehephbflgblaaGreat.H
open Go
set_option linter.unusedVariables false
section
variable {P : Program} {B : RO} {h : Heap}
def Le (h h' : Heap) : Prop := ∀ c o, h c = some o → h' c = some o
theorem Le.refl (h : Heap) : Le h h := fun _ _ e => e
theorem Le.trans {h h' h'' : Heap} (a : Le h h') (b : Le h' h'') : Le h h'' := fun c o e => b c o (a c o e)
theorem Le.set {h h' : Heap} {b : Nat} {o : AObj} (a : Le h h') (hb : h b = none) : Le h (h'.set b o) := fun c o' e => by
  rw [Heap.set_ne _ _ _ _ (fun e1 => by rw [e1, hb] at e; cases e)]; exact a c o' e
theorem Le.new {h : Heap} {b : Nat} {o : AObj} (hb : h b = none) : Le h (h.set b o) := (Le.refl h).set hb
theorem Le.none {h h' : Heap} {b : Nat} (a : Le h h') (hb : h' b = none) : h b = none := by
  cases e : h b with
  | none => rfl
  | some o => rw [a b o e] at hb; cases hb
theorem Heap.ne_of {h : Heap} {b c : Nat} {o : AObj} (hb : h b = none) (hc : h c = some o) : b ≠ c := fun e => by rw [e, hc] at hb; cases hb
theorem Heap.get_new {h : Heap} {b c : Nat} {o o' : AObj} (hb : h b = none) (hc : h c = some o) : h.set b o' c = some o := by
  rw [Heap.set_ne _ _ _ _ (Ne.symm (Heap.ne_of hb hc))]; exact hc
theorem Heap.made {h h' : Heap} {k : Nat} {o : AObj} (a : h k = none) (e : h' = h.set k o) : h' k = some o ∧ Le h h' ∧ ∀ c o', h c = some o' → k ≠ c ∧ h' c = some o' := by
  subst e
  exact ⟨Heap.set_same _ _ _, Le.new a, fun c o' hc => ⟨Heap.ne_of a hc, Heap.get_new a hc⟩⟩
theorem Heap.put {h h' : Heap} {k : Nat} {o : AObj} (e : h.set k o = h') : h' k = some o ∧ (∀ c, c ≠ k → h' c = h c) ∧ ∀ h0, Le h0 h → h0 k = none → Le h0 h' := by
  subst e
  exact ⟨Heap.set_same _ _ _, fun c hc => Heap.set_ne _ _ _ _ hc, fun h0 l n => l.set n⟩
theorem cellH_vec {b i n : Nat} {t : TypeId} {fs : List Fld} {v : Value} (hb : h b = some (.vec t fs n)) (hi : fs[i]? = some (.plain v)) : cellH B h ⟨b, i, none⟩ = some v := by
  simp [cellH, hb, hi]
theorem cellH_set_ne {b : Nat} {o : AObj} {A : Addr} (hn : A.block ≠ b) : cellH B (h.set b o) A = cellH B h A := by
  unfold cellH
  rw [Heap.set_ne _ _ _ _ hn]
theorem storeH_vec {b i n : Nat} {t : TypeId} {fs : List Fld} {u v : Value} (hb : h b = some (.vec t fs n)) (hi : fs[i]? = some (.plain u)) : storeH h ⟨b, i, none⟩ v = some (h.set b (.vec t (fs.set i (.plain v)) n)) := by
  have hl := (List.getElem?_eq_some_iff.1 hi).1
  unfold storeH
  simp only [hb]
  rw [hi]
  simp [hl]
theorem Ent.of_eq {h h' : Heap} (e : h = h') : Ent B h h' := e ▸ Ent.refl B h
theorem Appd.slice {v v' : Value} {e : TypeId} {sz : Nat} {xs ys : List Value} {h' : Heap} (hv : SlRow h v e sz xs) (ha : Appd B h v e sz xs ys v' h') : ∃ a n c, v' = .slice a n c := by
  rcases ha with ⟨_, rfl, _⟩ | ⟨k, m, n, c, nn, js, hn, rfl, _⟩
  · rcases hv with ⟨rfl, _⟩ | ⟨k, m, c, nn, js, rfl, _⟩
    · exact ⟨_, _, _, rfl⟩
    · exact ⟨_, _, _, rfl⟩
  · exact ⟨_, _, _, rfl⟩
theorem Appd.back {b n i : Nat} {t e : TypeId} {sz : Nat} {fs : List Fld} {xs ys : List Value} {v v' : Value} {h1 h2 h3 : Heap} (hi : fs[i]? = some (.own e sz xs)) (ho : Opened B h b t fs n i e sz xs v h1) (h12 : ∀ c o, h1 c = some o → h2 c = some o) (hr : SlRow h2 v e sz xs) (ha : Appd B h2 v e sz xs ys v' h3) :
    ∃ h4, storeH h3 ⟨b, i, none⟩ v' = some h4 ∧ Ent B h4 (h.set b (.vec t (fs.set i (.own e sz (xs ++ ys))) n)) := by
  have hil := (List.getElem?_eq_some_iff.1 hi).1
  have hb2 : h2 b = some (.vec t (fs.set i (.plain v)) n) := h12 _ _ ho.blk
  have hnb : ∀ k m cc, v = .slice (some ⟨k, 0, none⟩) m cc → b ≠ k := fun k m cc e0 => Ne.symm (ho.new k m cc e0).2
  have hb3 := ha.get hb2 hnb
  have hst := storeH_vec (v := v') hb3 (i := i) (u := v) (by simp [hil])
  refine ⟨_, hst, ?_⟩
  have hsub2 : Sub h b h2 := fun c o hc hh => h12 _ _ (ho.sub c o hc hh)
  have hclose := Ent.close_row (B := B) (h0 := h) (h := h3.set b (.vec t ((fs.set i (.plain v)).set i (.plain v')) n)) (b := b) (n := n) (i := i) (t := t) (e := e) (sz := sz) (fs := (fs.set i (.plain v)).set i (.plain v')) (v := v') (xs := xs ++ ys)
    (by
      intro c o hc hh
      rw [Heap.set_ne _ _ _ _ hc]
      refine ha.get (hsub2 c o hc hh) (fun k m cc e0 e1 => ?_)
      have := (ho.new k m cc e0).1
      rw [e1, this] at hh; cases hh)
    (Heap.set_same _ _ _) (by simp [hil])
    (by
      have hrow := Appd.row hr ha
      rcases hrow with ⟨e1, e2⟩ | ⟨k, m, c, nn, js, e1, e2, e3, e4, e5⟩
      · exact .inl ⟨e1, e2⟩
      · refine .inr ⟨k, m, c, nn, js, e1, ?_, e3, e4, e5⟩
        rw [Heap.set_ne _ _ _ _ ?_]
        · exact e2
        · intro e6
          subst e6
          rcases ha with ⟨_, e7, _⟩ | ⟨k', m', n', c', nn', js', _, e7, _, _, _, _, _, e8⟩
          · subst e7; exact hnb k m c e1 rfl
          · rw [e7] at e1
            cases e1
            rcases e8 with ⟨e8, _⟩ | ⟨e8, _⟩
            · exact hnb _ _ _ e8 rfl
            · rw [e8] at hb2; cases hb2)
    (by
      intro k m c e1
      rcases ha with ⟨_, e7, _⟩ | ⟨k', m', n', c', nn', js', _, e7, _, _, _, _, _, e8⟩
      · subst e7; exact ho.new k m c e1
      · rw [e7] at e1
        cases e1
        rcases e8 with ⟨e8, _⟩ | ⟨e8, _⟩
        · exact ho.new _ _ _ e8
        · have hkb : k ≠ b := fun e9 => by rw [e9, hb2] at e8; cases e8
          refine ⟨?_, hkb⟩
          cases hk : h k with
          | none => rfl
          | some o => rw [hsub2 k o hkb hk] at e8; cases e8)
  simpa using hclose
theorem app_own {b n i len : Nat} {t t0 tx ty e : TypeId} {sz bz : Nat} {fs : List Fld} {xs ys zs : List Value} {K : Value → Heap → Prop} (ht : slcB P t0 = some (e, sz, bz)) (hz : zeroB P e = some zs) (hzs : zs.length = sz) (hsz : 0 < sz) (hbz : 0 < bz) (hux : slT P tx = true)
    (hb : h b = some (.vec t fs n)) (hi : fs[i]? = some (.own e sz xs)) (hy : ys.length = len * sz) (ho1 : ∀ y ∈ ys, isOne y = true) (hbd : (xs.length + ys.length) * bz ≤ 1099511627776)
    (hK : ∀ a' n' c' h3 h4, storeH h3 ⟨b, i, none⟩ (.slice a' n' c') = some h4 → Ent B h4 (h.set b (.vec t (fs.set i (.own e sz (xs ++ ys))) n)) → K (.slice a' n' c') h3) :
    LdSl B h ⟨b, i, none⟩ (fun a m c h1 => ∀ k, h1 k = none → B k = none → ∀ h2, h2 = Heap.set h1 k (.vec e (plains ys) ys.length) → semH P B (Builtin.append_ #[t0, tx] ty #[.slice a m c, .slice (some ⟨k, 0, none⟩) len len]) h2 K) := by
  refine .inr ⟨t, fs, n, e, sz, xs, rfl, hb, hi, fun a m c h1 ho k hk hB h2 e2 => ?_⟩
  subst e2
  have h12 : ∀ c' o, h1 c' = some o → (Heap.set h1 k (.vec e (plains ys) ys.length)) c' = some o := fun c' o hc => by
    rw [Heap.set_ne _ _ _ _ (fun e0 => by rw [e0, hk] at hc; cases hc)]; exact hc
  have hrow : SlRow (Heap.set h1 k (.vec e (plains ys) ys.length)) (.slice a m c) e sz xs := by
    rcases ho.row with ⟨e1, e2⟩ | ⟨k', m', c', nn, js, e1, e2, e3, e4, e5⟩
    · exact .inl ⟨e1, e2⟩
    · exact .inr ⟨k', m', c', nn, js, e1, h12 _ _ e2, e3, e4, e5⟩
  have hu : (P.underlying tx).isSome = true ∧ intB P tx = none := by
    unfold slT at hux
    unfold intB
    split at hux
    · rename_i e' hu; rw [hu]; exact ⟨rfl, rfl⟩
    · cases hux
  refine semH_append ht hz hzs hsz hbz hu.1 hu.2 hrow ⟨hy, ho1, .inl ⟨⟨k, 0, none⟩, len, rfl, ?_⟩⟩ hbd ?_
  · refine CellsAt.of_vec ys 0 (Heap.set_same _ _ _) (fun j y hj => ?_)
    simp only [Nat.zero_add]
    exact plains_get_some hj
  · intro v' h3 ha
    obtain ⟨a', n', c', rfl⟩ := ha.slice hrow
    obtain ⟨h4, s1, s2⟩ := ha.back hi ho h12 hrow
    exact hK a' n' c' h3 h4 s1 s2
theorem app_str {b n i : Nat} {t t0 tx ty e : TypeId} {bz : Nat} {fs : List Fld} {xs zs : List Value} {s : ByteArray} {K : Value → Heap → Prop} (ht : slcB P t0 = some (e, 1, bz)) (hz : zeroB P e = some zs) (hzs : zs.length = 1) (hbz : 0 < bz) (hux : isStr P tx = true)
    (hb : h b = some (.vec t fs n)) (hi : fs[i]? = some (.own e 1 xs)) (hbd : (xs.length + s.size) * bz ≤ 1099511627776)
    (hK : ∀ a' n' c' h3 h4, storeH h3 ⟨b, i, none⟩ (.slice a' n' c') = some h4 → Ent B h4 (h.set b (.vec t (fs.set i (.own e 1 (xs ++ s.data.toList.map fun c => .int .u8 c.toNat))) n)) → K (.slice a' n' c') h3) :
    LdSl B h ⟨b, i, none⟩ (fun a m c h1 => semH P B (Builtin.append_ #[t0, tx] ty #[.slice a m c, .string s]) h1 K) := by
  refine .inr ⟨t, fs, n, e, 1, xs, rfl, hb, hi, fun a m c h1 ho => ?_⟩
  have hu : (P.underlying tx).isSome = true ∧ intB P tx = none := by
    unfold isStr at hux
    unfold intB
    split at hux
    · rename_i hu; rw [hu]; exact ⟨rfl, rfl⟩
    · cases hux
  have hlen : (s.data.toList.map fun c => (Value.int .u8 c.toNat)).length = s.size := by simp
  refine semH_append ht hz hzs (by omega) hbz hu.1 hu.2 ho.row ⟨by rw [hlen, Nat.mul_one], ?_, .inr (.inr ⟨s, rfl, rfl, rfl⟩)⟩ (by rw [hlen]; exact hbd) ?_
  · intro y hy
    obtain ⟨c, _, rfl⟩ := List.mem_map.1 hy
    rfl
  · intro v' h3 ha
    obtain ⟨a', n', c', rfl⟩ := ha.slice ho.row
    obtain ⟨h4, s1, s2⟩ := ha.back hi ho (fun _ _ hh => hh) ho.row
    exact hK a' n' c' h3 h4 s1 s2
def byteV (c : UInt8) : Value := .int .u8 c.toNat
theorem forIn_byteV (f : Value → ByteArray → Sem (ForInStep ByteArray)) (hf : ∀ (c : UInt8) (r : ByteArray), f (byteV c) r = pure (.yield (r.push c))) : ∀ (l : List UInt8) (s : ByteArray), (forIn (l.map byteV) s f : Sem ByteArray) = pure ⟨s.data ++ l.toArray⟩
  | [], s => by simp
  | c :: l, s => by
    simp only [List.map_cons, List.forIn_cons, hf, pure_bind]
    rw [forIn_byteV f hf l]
    congr 1
    simp [ByteArray.push]
theorem semH_bytesToString {v : Value} {e : TypeId} {bs : List UInt8} {K : Value → Heap → Prop} (hr : SlRow h v e 1 (bs.map byteV)) (k : K (.string ⟨bs.toArray⟩) h) : semH P B (Conv.bytesToString v) h K := by
  rcases hr with ⟨rfl, h2⟩ | ⟨k', m, c, nn, js, rfl, h2, h3, h4, h5⟩
  · have : bs = [] := by simpa using h2
    subst this
    exact k
  · unfold Conv.bytesToString
    simp only [Nat.mul_one, List.length_map] at h3
    subst h3
    rw [semH_bind]
    have e0 : bs.length = (bs.map byteV).length := by simp
    show semH P B (loadCellsFrom ⟨k', 0, none⟩ 0 bs.length #[]) h _
    rw [e0]
    refine semH_loadCells (bs.map byteV) 0 #[] (CellsAt.of_vec _ 0 h2 (fun j y hj => ?_)) ?_
    · simp only [Nat.zero_add]
      exact plains_get_some (by rw [List.getElem?_append_left (List.getElem?_eq_some_iff.1 hj).1]; exact hj)
    · simp only [List.nil_append, List.append_toArray]
      rw [List.forIn_toArray, forIn_byteV, pure_bind, semH_pure]
      · simpa using k
      · intro c r
        simp [byteV]
def byteStr (P : Program) (src dst : TypeId) : Bool := match P.underlying src, P.underlying dst with
  | some (.slice e), some .string => (match P.underlying e with | some (.int .u8) => true | _ => false)
  | _, _ => false
theorem semH_convB {src dst : TypeId} {a : Option Addr} {l c : Nat} {K : Value → Heap → Prop} (ht : byteStr P src dst = true) (k : semH P B (Conv.bytesToString (.slice a l c)) h K) : semH P B (convert src dst (.slice a l c)) h K := by
  unfold byteStr at ht
  split at ht
  · rename_i e e1 e2
    split at ht
    · rename_i e3
      unfold convert
      rw [semH_und e1, semH_und e2]
      simp only
      rw [semH_und e3]
      exact k
    · cases ht
  · cases ht
theorem Opened.back {b n i : Nat} {t e : TypeId} {sz : Nat} {fs : List Fld} {xs : List Value} {v : Value} {h1 : Heap} (hb : h b = some (.vec t fs n)) (hi : fs[i]? = some (.own e sz xs)) (ho : Opened B h b t fs n i e sz xs v h1) : Ent B h1 h := by
  have hl := (List.getElem?_eq_some_iff.1 hi).1
  have := Ent.close_row (B := B) (h0 := h) (h := h1) (e := e) (sz := sz) (xs := xs) (i := i) (fs := fs.set i (.plain v)) (n := n) (b := b) (t := t) (v := v) ho.sub ho.blk (by simp [hl]) ho.row ho.new
  refine this.trans (Ent.of_eq ?_)
  rw [List.set_set]
  have e1 : fs.set i (.own e sz xs) = fs := by
    obtain ⟨_, h2⟩ := List.getElem?_eq_some_iff.1 hi
    rw [← h2]; exact List.set_getElem_self hl
  rw [e1, Heap.set_self _ _ _ hb]
end
end Go.Proofs.YtlehephbflgblaaGreat.H
namespace Go.Proofs.YtlehephbflgblaaGreat.H
open Go Go.RowKit
set_option linter.unusedVariables false
def roOf (W : World) : RO := fun k => W.heap[k]?
def noHeap : Heap := fun _ => none
theorem Spec.calls {P : Program} {W : World} {f : FuncId} {args : Array Value} {v0 : Value} (hs : Spec P (roOf W) f args noHeap (fun v _ => v = v0)) :
    Calls P f args W fun e w' => e = .returned v0 ∧ Below W.heap.size W w' := by
  have R : Rel (roOf W) ⟨fun _ => none, W.os, W.tape, W.output, W.heap.size⟩ noHeap W := by
    refine ⟨fun _ => none, rfl, rfl, rfl, Nat.le_refl _, fun b o e => (by cases e), fun b o e => ⟨e, rfl, rfl, rfl⟩, fun b o e => (by cases e), fun b p e => (by cases e)⟩
  refine (hs _ _ R).mono ?_
  rintro e w' ⟨v, h', rfl, ⟨own, R'⟩, rfl⟩
  refine ⟨rfl, R'.os, R'.tape, R'.output, R'.low, fun k hk => ?_⟩
  have h1 : roOf W k = some W.heap[k] := Array.getElem?_eq_getElem hk
  rw [(R'.ro k _ h1).1]
  exact (Array.getElem?_eq_getElem hk).symm
end Go.Proofs.YtlehephbflgblaaGreat.H
namespace Go.Proofs.YtlehephbflgblaaGreat.H
open Go Go.RowKit
set_option linter.unusedVariables false
section
variable {H : Type} {enc : TypeId × Value → H} {P : Program} {w : World} {base : Nat} {spare : Nat → Bool} {held : Bool}
inductive Kd where
  | int (k : IntKind)
  | bool
  | str
  | sl (t e : TypeId)
def KdOk (enc : TypeId × Value → H) (P : Program) (w : World) (base : Nat) (spare : Nat → Bool) (held : Bool) : Kd → Value → Prop
  | .int k, v => ∃ z, v = .int k z ∧ (Lit.int k z).wf = true
  | .bool, v => ∃ b, v = .bool b
  | .str, v => ∃ s, v = .string s ∧ s.size ≤ maxLen
  | .sl t e, v => P.underlying t = some (.slice e) ∧ ∃ n x, DataW.trod enc P w base spare held n t [v] = some x
def KdsOk (enc : TypeId × Value → H) (P : Program) (w : World) (base : Nat) (spare : Nat → Bool) (held : Bool) : List Kd → List Value → Prop
  | [], [] => True
  | k :: ks, v :: vs => KdOk enc P w base spare held k v ∧ KdsOk enc P w base spare held ks vs
  | _, _ => False
theorem KdsOk.append : ∀ {ks ks' : List Kd} {vs vs' : List Value}, KdsOk enc P w base spare held ks vs → KdsOk enc P w base spare held ks' vs' → KdsOk enc P w base spare held (ks ++ ks') (vs ++ vs')
  | [], _, [], _, _, h => h
  | _ :: _, _, _ :: _, _, h, h' => ⟨h.1, h.2.append h'⟩
  | [], _, _ :: _, _, h, _ => h.elim
  | _ :: _, _, [], _, h, _ => h.elim
theorem KdsOk.length : ∀ {ks : List Kd} {vs : List Value}, KdsOk enc P w base spare held ks vs → ks.length = vs.length
  | [], [], _ => rfl
  | _ :: _, _ :: _, h => by simp [h.2.length]
  | [], _ :: _, h => h.elim
  | _ :: _, [], h => h.elim
theorem KdsOk.nil {vs : List Value} (h : KdsOk enc P w base spare held [] vs) : vs = [] := by
  cases vs with
  | nil => rfl
  | cons v vs => exact h.elim
theorem KdsOk.int {k : IntKind} {ks : List Kd} {vs : List Value} (h : KdsOk enc P w base spare held (.int k :: ks) vs) : ∃ z vs', vs = .int k z :: vs' ∧ (Lit.int k z).wf = true ∧ KdsOk enc P w base spare held ks vs' := by
  cases vs with
  | nil => exact h.elim
  | cons v vs => obtain ⟨⟨z, e, hz⟩, h2⟩ := h; exact ⟨z, vs, by rw [e], hz, h2⟩
theorem KdsOk.bool {ks : List Kd} {vs : List Value} (h : KdsOk enc P w base spare held (.bool :: ks) vs) : ∃ b vs', vs = .bool b :: vs' ∧ KdsOk enc P w base spare held ks vs' := by
  cases vs with
  | nil => exact h.elim
  | cons v vs => obtain ⟨⟨b, e⟩, h2⟩ := h; exact ⟨b, vs, by rw [e], h2⟩
theorem KdsOk.str {ks : List Kd} {vs : List Value} (h : KdsOk enc P w base spare held (.str :: ks) vs) : ∃ s vs', vs = .string s :: vs' ∧ s.size ≤ maxLen ∧ KdsOk enc P w base spare held ks vs' := by
  cases vs with
  | nil => exact h.elim
  | cons v vs => obtain ⟨⟨s, e, hs⟩, h2⟩ := h; exact ⟨s, vs, by rw [e], hs, h2⟩
theorem KdsOk.sl {t e : TypeId} {ks : List Kd} {vs : List Value} (h : KdsOk enc P w base spare held (.sl t e :: ks) vs) : ∃ v vs', vs = v :: vs' ∧ P.underlying t = some (.slice e) ∧ (∃ n x, DataW.trod enc P w base spare held n t [v] = some x) ∧ KdsOk enc P w base spare held ks vs' := by
  cases vs with
  | nil => exact h.elim
  | cons v vs => obtain ⟨⟨e, hs⟩, h2⟩ := h; exact ⟨v, vs, rfl, e, hs, h2⟩
def seqB (P : Program) (L : TypeId → Option (List Kd)) : Nat → List Field → Option (List Kd)
  | _, [] => some []
  | o, f :: fs => match L f.type with
    | some l => if f.offset = o ∧ P.cellsOf f.type = l.length then (seqB P L (o + l.length) fs).map (l ++ ·) else none
    | none => none
def leafB (P : Program) : Nat → TypeId → Option (List Kd)
  | 0, _ => none
  | n + 1, t => match P.underlying t with
    | some .bool => some [.bool]
    | some (.int k) => some [.int k]
    | some .string => some [.str]
    | some (.slice e) => some [.sl t e]
    | some (.struct fs) => match seqB P (leafB P n) 0 fs.toList with
      | some l => if P.cellsOf t = l.length then some l else none
      | none => none
    | some (.array len e) => match leafB P n e with
      | some l => if P.cellsOf e = l.length ∧ P.cellsOf t = len * l.length then some (List.replicate len l).flatten else none
      | none => none
    | _ => none
theorem rep_ok {l : List Kd} {c : Nat} (hc : c = l.length) (cs : List Value) : ∀ (n o : Nat), (∀ i, i < n → KdsOk enc P w base spare held l ((cs.drop ((o + i) * c)).take c)) → KdsOk enc P w base spare held (List.replicate n l).flatten ((cs.drop (o * c)).take (n * c))
  | 0, o, _ => by simp [KdsOk]
  | n + 1, o, h => by
    have a := h 0 (by omega)
    have b := rep_ok hc cs n (o + 1) (fun i hi => by
      have := h (i + 1) (by omega)
      rwa [show o + (i + 1) = o + 1 + i by omega] at this)
    have ab := a.append b
    rw [List.replicate_succ, List.flatten_cons, show (n + 1) * c = c + n * c by rw [Nat.add_mul]; omega, List.take_add, List.drop_drop]
    rw [Nat.add_zero] at ab
    rw [show o * c + c = (o + 1) * c by rw [Nat.add_mul]; omega]
    exact ab
theorem seqB_ok {m : Nat} (ih : ∀ t cs ks n x, DataW.trod enc P w base spare held n t cs = some x → leafB P m t = some ks → KdsOk enc P w base spare held ks cs) (cs : List Value) :
    ∀ (fs : List Field) (o : Nat) (ks : List Kd), (∀ f ∈ fs, ∃ n y, DataW.trod enc P w base spare held n f.type ((cs.drop f.offset).take (P.cellsOf f.type)) = some y) → seqB P (leafB P m) o fs = some ks → KdsOk enc P w base spare held ks ((cs.drop o).take ks.length)
  | [], o, ks, _, h => by simp only [seqB, Option.some.injEq] at h; subst h; simp [KdsOk]
  | f :: fs, o, ks, hf, h => by
    simp only [seqB] at h
    split at h
    · rename_i l hl
      split at h
      · rename_i hc
        obtain ⟨ks', h1, rfl⟩ := Option.map_eq_some_iff.1 h
        obtain ⟨n, y, hy⟩ := hf f (by simp)
        have a := ih _ _ _ _ _ hy hl
        have b := seqB_ok ih cs fs (o + l.length) ks' (fun g hg => hf g (by simp [hg])) h1
        rw [hc.1, hc.2] at a
        have := a.append b
        rw [List.length_append, List.take_add, List.drop_drop]
        exact this
      · cases h
    · cases h
theorem leafB_ok : ∀ (m : Nat) (t : TypeId) (cs : List Value) (ks : List Kd) (n : Nat) (x : DataW H × List MemPlace), DataW.trod enc P w base spare held n t cs = some x → leafB P m t = some ks → KdsOk enc P w base spare held ks cs
  | 0, _, _, _, _, _, _, h => by cases h
  | m + 1, t, cs, ks, n, x, hx, h => by
    simp only [leafB] at h
    split at h
    · rename_i ht
      obtain ⟨b, rfl, _⟩ := DataW.trod_bool ht hx
      cases h
      exact ⟨⟨b, rfl⟩, trivial⟩
    · rename_i k ht
      obtain ⟨z, rfl, _, hz⟩ := DataW.trod_int ht hx
      cases h
      exact ⟨⟨z, rfl, hz⟩, trivial⟩
    · rename_i ht
      obtain ⟨s, rfl, _, hs⟩ := DataW.trod_string ht hx
      cases h
      exact ⟨⟨s, rfl, hs⟩, trivial⟩
    · rename_i e ht
      cases h
      rcases DataW.trod_slice ht hx with ⟨rfl, _⟩ | ⟨a, len, cap, _, _, _, _, rfl, _⟩
      · exact ⟨⟨ht, _, _, hx⟩, trivial⟩
      · exact ⟨⟨ht, _, _, hx⟩, trivial⟩
    · rename_i fs ht
      obtain ⟨xs, n', rfl, _, hl, hxl, hf⟩ := DataW.trod_struct ht hx
      split at h
      · rename_i l hs
        split at h
        · rename_i hc
          cases h
          have := seqB_ok (leafB_ok m) cs fs.toList 0 ks (fun f hm => by
            obtain ⟨i, hi, rfl⟩ := List.mem_iff_getElem.1 hm
            have h1 := hf i fs[i] (by simp)
            rw [List.getElem?_eq_getElem (by rw [hxl]; simpa using hi)] at h1
            exact ⟨_, _, by simpa using h1⟩) hs
          rwa [List.drop_zero, List.take_of_length_le (by omega)] at this
        · cases h
      · cases h
    · rename_i len e ht
      obtain ⟨xs, n', rfl, _, hl, hxl, hf⟩ := DataW.trod_array ht hx
      split at h
      · rename_i l hs
        split at h
        · rename_i hc
          cases h
          have := rep_ok (enc := enc) (P := P) (w := w) (base := base) (spare := spare) (held := held) hc.1 cs len 0 (fun i hi => by
            have h1 := hf i hi
            rw [List.getElem?_eq_getElem (by rw [hxl]; exact hi)] at h1
            rw [Nat.zero_add]
            exact leafB_ok m e _ l _ _ h1 hs)
          rwa [Nat.zero_mul, List.drop_zero, List.take_of_length_le (by rw [hl, hc.2, hc.1]; omega)] at this
        · cases h
      · cases h
    · cases h
theorem list_of {α : Type} {R : Nat → α → Prop} : ∀ n, (∀ i, i < n → ∃ x, R i x) → ∃ l : List α, l.length = n ∧ ∀ i x, l[i]? = some x → R i x
  | 0, _ => ⟨[], rfl, fun i x h => by cases h⟩
  | n + 1, h => by
    obtain ⟨l, h1, h2⟩ := list_of n (fun i hi => h i (by omega))
    obtain ⟨x, hx⟩ := h n (by omega)
    refine ⟨l ++ [x], by simp [h1], fun i y hy => ?_⟩
    by_cases hi : i < n
    · rw [List.getElem?_append_left (by omega)] at hy; exact h2 i y hy
    · rw [List.getElem?_append_right (by omega)] at hy
      have : i = n := by
        have := (List.getElem?_eq_some_iff.1 hy).1
        simp at this; omega
      subst this
      rw [h1, Nat.sub_self] at hy
      cases hy; exact hx
theorem cellH_ro' {A : Addr} : cellH (roOf w) noHeap A = w.cell? A := by
  unfold cellH roOf noHeap World.cell?
  cases A.spot with
  | none => simp; rfl
  | some n => simp; split <;> rfl
theorem mapM_cells {A : Addr} : ∀ (vs : List Value) (i : Nat), (∀ j v, vs[j]? = some v → w.cell? (A.add (i + j)) = some v) → CellsAt (roOf w) noHeap A i vs
  | [], _, _ => trivial
  | v :: vs, i, h => ⟨by rw [cellH_ro']; exact h 0 v rfl, mapM_cells vs (i + 1) fun j u hu => by rw [show i + 1 + j = i + (j + 1) by omega]; exact h (j + 1) u hu⟩
theorem trod_rows {t e : TypeId} {m n : Nat} {ks : List Kd} {a : Option Addr} {len cap : Nat} {x : DataW H × List MemPlace} (ht : P.underlying t = some (.slice e)) (hk : leafB P m e = some ks) (h : DataW.trod enc P w base spare held n t [.slice a len cap] = some x) :
    len ≤ cap ∧ cap ≤ maxLen ∧ ∀ i, i < len → ∃ A vs, a = some A ∧ P.cellsOf e = vs.length ∧ CellsAt (roOf w) noHeap (A.add (i * vs.length)) 0 vs ∧ KdsOk enc P w base spare held ks vs := by
  rcases DataW.trod_slice ht h with ⟨e0, _⟩ | ⟨A, len', cap', elems, rest, n', _, e0, _, hb, h1, h2, h3, h4, _⟩
  · cases e0
    exact ⟨Nat.le_refl _, by simp [maxLen], fun i hi => by omega⟩
  · cases e0
    refine ⟨h1, h2, fun i hi => ?_⟩
    have := h4 i hi
    rw [List.getElem?_eq_getElem (by omega)] at this
    obtain ⟨vs, h5, h6⟩ := Option.bind_eq_some_iff.1 this
    have hok := leafB_ok m e vs ks _ _ h6 hk
    have hb' : base ≤ (A.add (i * P.cellsOf e)).block := by unfold Addr.add; split <;> exact hb
    rw [World.cells?, if_pos hb'] at h5
    have hl := mapM_some_length h5
    rw [List.length_range] at hl
    refine ⟨A, vs, rfl, hl.symm, ?_, hok⟩
    rw [hl]
    refine mapM_cells vs 0 fun j v hj => ?_
    have hjl := (List.getElem?_eq_some_iff.1 hj).1
    have hr : (List.range (P.cellsOf e))[j]? = some j := by rw [List.getElem?_range (by omega)]
    have := mapM_some_get h5 j j hr
    rw [Nat.zero_add, this, hj]
end
theorem stores_whole {h : Heap} {k nn : Nat} {t : TypeId} {us vs : List Value} (hb : h k = some (.vec t (plains us) nn)) (hl : us.length = vs.length) (hn : vs.length ≤ nn) (hv : ∀ v ∈ vs, isOne v = true) (hne : vs ≠ []) :
    StoresAt ⟨k, 0, none⟩ h 0 vs (h.set k (.vec t (plains vs) nn)) := by
  obtain ⟨h', s1, _, s3⟩ := StoresAt.over vs h 0 0 [] us hv hb rfl (by omega)
  have := s3 hne
  rw [List.nil_append, ← hl, List.drop_length, List.append_nil] at this
  rw [← this]; exact s1
theorem CellsAt.set {B : RO} {h : Heap} {A : Addr} {b : Nat} {o : AObj} (hn : A.block ≠ b) : ∀ {vs : List Value} {i : Nat}, CellsAt B h A i vs → CellsAt B (h.set b o) A i vs
  | [], _, _ => trivial
  | v :: vs, i, h => ⟨by rw [cellH_set_ne (by unfold Addr.add; split <;> exact hn)]; exact h.1, CellsAt.set hn h.2⟩
def Reads (B : RO) (h : Heap) (a : Option Addr) (n : Nat) {α : Type} (cells : α → List Value) (l : List α) : Prop :=
  ∀ i x, l[i]? = some x → ∃ A, a = some A ∧ (h A.block = none → B A.block ≠ none) ∧ CellsAt B h (A.add (i * n)) 0 (cells x)
theorem Addr.add_block' {A : Addr} {n : Nat} : (A.add n).block = A.block := by unfold Addr.add; split <;> rfl
theorem cellH_ro_eq {B : RO} {h h' : Heap} {A : Addr} (e : h' A.block = h A.block) : cellH B h' A = cellH B h A := by
  unfold cellH; rw [e]
theorem CellsAt.keep {B : RO} {h h' : Heap} {A : Addr} (e : h' A.block = h A.block) : ∀ {vs : List Value} {i : Nat}, CellsAt B h A i vs → CellsAt B h' A i vs
  | [], _, _ => trivial
  | v :: vs, i, c => ⟨by rw [cellH_ro_eq (h := h) (by rw [Addr.add_block']; exact e)]; exact c.1, CellsAt.keep e c.2⟩
def NewOver (B : RO) (h h' : Heap) : Prop := ∀ c, B c ≠ none → h c = none → h' c = none
theorem NewOver.refl (B : RO) (h : Heap) : NewOver B h h := fun _ _ e => e
theorem NewOver.set {B : RO} {h h' : Heap} {k : Nat} {o : AObj} (n : NewOver B h h') (hk : B k = none) : NewOver B h (h'.set k o) := fun c hc hh => by
  rw [Heap.set_ne _ _ _ _ (fun e => by rw [e, hk] at hc; exact hc rfl)]; exact n c hc hh
theorem NewOver.trans {B : RO} {h h' h'' : Heap} (n : NewOver B h h') (m : NewOver B h' h'') : NewOver B h h'' := fun c hc hh => m c hc (n c hc hh)
theorem Reads.over {B : RO} {h h' : Heap} {a : Option Addr} {n : Nat} {α : Type} {cells : α → List Value} {l : List α} (r : Reads B h a n cells l) (hl : Le h h') (hn : NewOver B h h') : Reads B h' a n cells l := by
  intro i x hx
  obtain ⟨A, e, e2, c⟩ := r i x hx
  have key : h' A.block = h A.block := by
    cases hb : h A.block with
    | none => exact hn _ (e2 hb) hb
    | some o => exact hl _ _ hb
  refine ⟨A, e, fun hh => e2 (by rw [← key]; exact hh), c.keep (by rw [Addr.add_block', key])⟩
theorem arg_rows {H : Type} {enc : TypeId × Value → H} {P : Program} {w : World} {base : Nat} {spare : Nat → Bool} {held : Bool} {α : Type} (cells : α → List Value) (ok : α → Prop) {t e : TypeId} {m sz : Nat} {ks : List Kd} {a : Option Addr} {len cap : Nat} {d : DataW H} {p : List MemPlace}
    (ht : P.underlying t = some (.slice e)) (hk : leafB P m e = some ks) (hsz : ks.length = sz) (h0 : 0 < sz) (hval : ∀ vs, KdsOk enc P w base spare held ks vs → ∃ x, vs = cells x ∧ ok x) (h : DataW.Trod enc P w base spare held t (.slice a len cap) d p) :
    ∃ l : List α, len = l.length ∧ Reads (roOf w) noHeap a sz cells l ∧ ∀ x ∈ l, ok x := by
  obtain ⟨n, hn⟩ := h
  obtain ⟨h1, h2, h3⟩ := trod_rows ht hk (show DataW.trod enc P w base spare held n t [.slice a len cap] = some (d, p) from hn)
  obtain ⟨l, hl, hx⟩ := list_of (α := α) (R := fun i x => (∃ A, a = some A ∧ (noHeap A.block = none → roOf w A.block ≠ none) ∧ CellsAt (roOf w) noHeap (A.add (i * sz)) 0 (cells x)) ∧ ok x) len (fun i hi => by
    obtain ⟨A, vs, e1, e2, e3, e4⟩ := h3 i hi
    obtain ⟨x, rfl, hx⟩ := hval vs e4
    have hlen := e4.length
    rw [hsz] at hlen
    rw [← hlen] at e3
    refine ⟨x, ⟨A, e1, fun _ => ?_, e3⟩, hx⟩
    cases hc : cells x with
    | nil => rw [hc] at hlen; simp at hlen; omega
    | cons v vs =>
      rw [hc] at e3
      intro hb
      have := e3.1
      unfold cellH at this
      rw [Addr.add_block', Addr.add_block', hb] at this
      simp [noHeap] at this)
  refine ⟨l, hl.symm, fun i x hi => (hx i x hi).1, fun x hm => ?_⟩
  obtain ⟨i, hi, rfl⟩ := List.mem_iff_getElem.1 hm
  exact (hx i _ (List.getElem?_eq_getElem hi)).2
end Go.Proofs.YtlehephbflgblaaGreat.H
namespace Go.Proofs.YtlehephbflgblaaGreat.H
open Go
set_option linter.unusedVariables false
section
variable {B : RO} {h : Heap}
theorem CellsAt.append {A : Addr} : ∀ {us vs : List Value} {i : Nat}, CellsAt B h A i us → CellsAt B h A (i + us.length) vs → CellsAt B h A i (us ++ vs)
  | [], _, i, _, h2 => h2
  | u :: us, vs, i, h1, h2 => ⟨h1.1, CellsAt.append h1.2 (by rw [List.length_cons] at h2; rw [show i + 1 + us.length = i + (us.length + 1) by omega]; exact h2)⟩
theorem CellsAt.shift {A : Addr} (n : Nat) : ∀ {vs : List Value} {i : Nat}, CellsAt B h (A.add n) i vs → CellsAt B h A (n + i) vs
  | [], _, _ => trivial
  | v :: vs, i, c => by
    refine ⟨?_, ?_⟩
    · have := c.1
      have e : (A.add n).add i = A.add (n + i) := by
        unfold Addr.add
        by_cases hn : n = 0
        · subst hn; simp
        · by_cases hi : i = 0
          · subst hi; simp
          · simp only [hn, hi, if_false, show n + i ≠ 0 by omega]
            simp
      rw [← e]; exact this
    · have := CellsAt.shift n c.2
      rw [show n + (i + 1) = n + i + 1 by omega] at this; exact this
theorem Reads.cells {α : Type} {a : Option Addr} {n : Nat} {cells : α → List Value} {l : List α} (r : Reads B h a n cells l) (hc : ∀ x, (cells x).length = n) : (l = []) ∨ ∃ A, a = some A ∧ CellsAt B h A 0 (l.flatMap cells) := by
  cases l with
  | nil => exact .inl rfl
  | cons x0 l0 =>
    right
    obtain ⟨A, e, _, _⟩ := r 0 x0 rfl
    refine ⟨A, e, ?_⟩
    have key : ∀ (m : List α) (j : Nat), (∀ i x, m[i]? = some x → CellsAt B h (A.add ((j + i) * n)) 0 (cells x)) → CellsAt B h A (j * n) (m.flatMap cells) := by
      intro m
      induction m with
      | nil => intro j _; trivial
      | cons x m ih =>
        intro j hm
        rw [List.flatMap_cons]
        refine CellsAt.append ?_ ?_
        · have := CellsAt.shift (j * n) (hm 0 x rfl); simpa using this
        · rw [hc, show j * n + n = (j + 1) * n by rw [Nat.add_mul]; omega]
          exact ih (j + 1) fun i y hy => by rw [show j + 1 + i = j + (i + 1) by omega]; exact hm (i + 1) y hy
    have := key (x0 :: l0) 0 (fun i x hx => by
      obtain ⟨A', e', _, c⟩ := r i x hx
      rw [e] at e'; cases e'
      rw [Nat.zero_add]; exact c)
    rwa [Nat.zero_mul] at this
theorem flatMap_length {α : Type} {cells : α → List Value} {n : Nat} (hc : ∀ x, (cells x).length = n) : ∀ l : List α, (l.flatMap cells).length = l.length * n
  | [] => by simp
  | x :: l => by rw [List.flatMap_cons, List.length_append, hc, flatMap_length hc l, List.length_cons, Nat.add_mul]; omega
theorem flatMap_at {α : Type} {cells : α → List Value} {n : Nat} (hc : ∀ x, (cells x).length = n) : ∀ (l : List α) (i : Nat) (x : α) (j : Nat) (y : Value), l[i]? = some x → (cells x)[j]? = some y → (l.flatMap cells)[i * n + j]? = some y
  | [], i, x, j, y, h, _ => by simp at h
  | z :: l, 0, x, j, y, h, hj => by
    cases h
    have := (List.getElem?_eq_some_iff.1 hj).1
    rw [List.flatMap_cons, Nat.zero_mul, Nat.zero_add, List.getElem?_append_left this]; exact hj
  | z :: l, i + 1, x, j, y, h, hj => by
    rw [List.flatMap_cons, List.getElem?_append_right (by rw [hc, Nat.add_mul]; omega), hc]
    rw [show (i + 1) * n + j - n = i * n + j by rw [Nat.add_mul]; omega]
    exact flatMap_at hc l i x j y (by simpa using h) hj
theorem SlRow.reads {α : Type} {a : Option Addr} {m c n : Nat} {e : TypeId} {cells : α → List Value} {l : List α} (r : SlRow h (.slice a m c) e n (l.flatMap cells)) (hc : ∀ x, (cells x).length = n) (h0 : 0 < n) : m = l.length ∧ Reads B h a n cells l := by
  have hl := flatMap_length hc l
  rcases r with ⟨e1, e2⟩ | ⟨k, m', c', nn, js, e1, e2, e3, e4, e5⟩
  · cases e1
    have : l = [] := by
      cases l with
      | nil => rfl
      | cons x l =>
        rw [e2, List.length_cons, List.length_nil, Nat.add_mul] at hl; omega
    subst this
    exact ⟨rfl, fun i x hx => by cases hx⟩
  · cases e1
    have : m = l.length := by rw [hl] at e3; exact Nat.eq_of_mul_eq_mul_right h0 e3
    refine ⟨this, fun i x hx => ⟨_, rfl, fun hh => absurd (hh.symm.trans e2) (by simp), ?_⟩⟩
    have key : CellsAt B h ⟨k, 0 + i * n, none⟩ 0 (cells x) := CellsAt.of_vec (cells x) 0 e2 (fun j y hj => by
      have h1 := flatMap_at hc l i x j y hx hj
      refine plains_get_some ?_
      rw [show 0 + i * n + 0 + j = i * n + j by omega]
      rw [List.getElem?_append_left (List.getElem?_eq_some_iff.1 h1).1]; exact h1)
    unfold Addr.add
    split
    · rename_i hz; rw [hz] at key; exact key
    · exact key
theorem Appd.le {h0 : Heap} {v v' : Value} {e : TypeId} {sz : Nat} {xs ys : List Value} {h' : Heap} (ha : Appd B h v e sz xs ys v' h') (hl : Le h0 h) (hv : ∀ k m c, v = .slice (some ⟨k, 0, none⟩) m c → h0 k = none) : Le h0 h' ∧ ∀ k m c, v' = .slice (some ⟨k, 0, none⟩) m c → h0 k = none := by
  rcases ha with ⟨rfl, rfl, rfl⟩ | ⟨k, m, n, c, nn, js, hn, rfl, rfl, h1, h2, h3, h4, h5⟩
  · exact ⟨hl, hv⟩
  · have hk : h0 k = none := by
      rcases h5 with ⟨e1, _⟩ | ⟨e2, _⟩
      · exact hv _ _ _ e1
      · exact hl.none e2
    exact ⟨hl.set hk, fun k' m' c' e1 => by cases e1; exact hk⟩
end
end Go.Proofs.YtlehephbflgblaaGreat.H
namespace Go.Proofs.YtlehephbflgblaaGreat.H
open Go
set_option linter.unusedVariables false
section
variable {P : Program} {B : RO}
def Wk (B : RO) (h h' : Heap) : Prop := Le h h' ∧ NewOver B h h'
theorem Wk.refl (h : Heap) : Wk B h h := ⟨Le.refl h, NewOver.refl B h⟩
theorem Wk.trans {h h' h'' : Heap} (a : Wk B h h') (b : Wk B h' h'') : Wk B h h'' := ⟨a.1.trans b.1, a.2.trans b.2⟩
theorem Wk.new {h : Heap} {b : Nat} {o : AObj} (h1 : h b = none) (h2 : B b = none) : Wk B h (h.set b o) := ⟨Le.new h1, (NewOver.refl B h).set h2⟩
theorem Wk.same {h h' : Heap} (w : Wk B h h') {b : Nat} (hb : h b ≠ none ∨ B b ≠ none) : h' b = h b := by
  cases e : h b with
  | some o => exact w.1 b o e
  | none =>
    rcases hb with hb | hb
    · exact absurd e hb
    · exact w.2 b hb e
theorem Wk.set {h h' : Heap} (w : Wk B h h') (b : Nat) (o : AObj) : Wk B (h.set b o) (h'.set b o) := by
  refine ⟨fun c o' e => ?_, fun c hc e => ?_⟩
  · by_cases hcb : c = b
    · subst hcb; rw [Heap.set_same] at e ⊢; exact e
    · rw [Heap.set_ne _ _ _ _ hcb] at e ⊢; exact w.1 _ _ e
  · by_cases hcb : c = b
    · subst hcb; rw [Heap.set_same] at e; cases e
    · rw [Heap.set_ne _ _ _ _ hcb] at e ⊢; exact w.2 _ hc e
theorem Wk.cell {h h' : Heap} (w : Wk B h h') {A : Addr} {v : Value} (e : cellH B h A = some v) : cellH B h' A = some v := by
  rw [← e]
  refine cellH_ro_eq (w.same ?_)
  unfold cellH at e
  cases hb : h A.block with
  | some o => exact .inl (by simp)
  | none =>
    right
    intro hB
    rw [hb, hB] at e
    split at e <;> cases e
theorem Wk.cells {h h' : Heap} (w : Wk B h h') {A : Addr} : ∀ {vs : List Value} {i : Nat}, CellsAt B h A i vs → CellsAt B h' A i vs
  | [], _, _ => trivial
  | _ :: _, _, c => ⟨w.cell c.1, Wk.cells w c.2⟩
theorem Wk.store {h h' h1 : Heap} (w : Wk B h h') {A : Addr} {v : Value} (e : storeH h A v = some h1) : ∃ h1', storeH h' A v = some h1' ∧ Wk B h1 h1' := by
  unfold storeH at e ⊢
  split at e
  · cases e
  · rename_i hs
    rw [if_neg hs]
    cases hb : h A.block with
    | none => rw [hb] at e; cases e
    | some o =>
      rw [hb] at e
      rw [w.1 _ _ hb]
      cases o with
      | raw o => cases e
      | vec t fs n =>
        simp only at e ⊢
        split at e
        · rename_i hlt
          rw [if_pos hlt]
          split at e
          · rename_i u hu
            cases e
            exact ⟨_, rfl, w.set _ _⟩
          · cases e
        · rename_i hlt
          rw [if_neg hlt]
          split at e
          · rename_i h2
            rw [if_pos h2]
            cases e
            exact ⟨_, rfl, w.set _ _⟩
          · cases e
theorem Wk.shape {h h' : Heap} (w : Wk B h h') {r : Nat} {s : Option (TypeId × Nat)} (e : shapeH B h r = some s) : shapeH B h' r = some s := by
  have : h' r = h r := by
    refine w.same ?_
    unfold shapeH at e
    cases hb : h r with
    | some o => exact .inl (by simp)
    | none =>
      right; intro hB
      rw [hb, hB] at e; cases e
  unfold shapeH at e ⊢
  rw [this]; exact e
theorem Wk.frozen {h h' : Heap} (w : Wk B h h') {a : Addr} {c : Bool} (e : frozenH B h a = some c) : frozenH B h' a = some c := by
  have : h' a.block = h a.block := by
    refine w.same ?_
    unfold frozenH at e
    cases hb : h a.block with
    | some o => exact .inl (by simp)
    | none =>
      right; intro hB
      rw [hb, hB] at e; cases e
  unfold frozenH at e ⊢
  rw [this]; exact e
theorem semH_weaken {α : Type} {s : Sem α} {K : α → Heap → Prop} : ∀ {h h' : Heap}, Wk B h h' → semH P B s h K → semH P B s h' (fun a h1' => ∃ h1, Wk B h1 h1' ∧ K a h1) := by
  induction s with
  | pure a => intro h h' w hs; exact ⟨h, w, hs⟩
  | load m a k ih => rintro h h' w ⟨v, hv, hs⟩; exact ⟨v, w.cell hv, ih v w hs⟩
  | store m a v k ih =>
    rintro h h' w ⟨h1, h2, hh, hs⟩
    obtain ⟨h2', e, w'⟩ := w.store hh
    exact ⟨h1, h2', e, ih w' hs⟩
  | new o k ih => intro h h' w hs b h1 h2; exact ih b (w.set b _) (hs b (w.1.none h1) h2)
  | shape r k ih => rintro h h' w ⟨s, hs, hk'⟩; exact ⟨s, w.shape hs, ih s w hk'⟩
  | freeze a n k ih =>
    rintro h h' w ⟨⟨t, fs, m, h1, h1'⟩, h2, hs⟩
    exact ⟨⟨t, fs, m, w.1 _ _ h1, h1'⟩, h2, ih w hs⟩
  | frozen a k ih => intro h h' w hs b h1; exact ih b w (hs b (fun c hc => h1 c (w.frozen hc)))
  | getObj r k ih => rintro h h' w ⟨o, h1, h2, hs⟩; exact ⟨o, w.1 _ _ h1, h2, ih o w hs⟩
  | setObj r o k ih => rintro h h' w ⟨⟨o', h1, h1'⟩, h2, hs⟩; exact ⟨⟨o', w.1 _ _ h1, h1'⟩, h2, ih (w.set _ _) hs⟩
  | choose q k ih =>
    intro h h' w hs
    simp only [semH] at hs ⊢
    split
    · rename_i hf; rw [if_pos hf] at hs; exact ih 0 w hs
    · rename_i hf; rw [if_neg hf] at hs; intro n; exact ih _ w (hs n)
  | sys c k ih => intro h h' w hs; exact hs.elim
  | program k ih => intro h h' w hs; exact ih P w hs
  | mark m k ih => intro h h' w hs; exact ih w hs
  | halt e => intro h h' w hs; exact hs.elim
theorem RoundSpec.ent {l : Nat} {f : FuncId} {tmps : Array Value} {assign body : Code} {h h' : Heap} {K : Value → Heap → Prop} (he : Ent B h h') (hs : RoundSpec P B l f tmps assign body h' K) : RoundSpec P B l f tmps assign body h K :=
  fun F w c cs R => hs F w c cs (he.2 F w R)
theorem After.weaken {nx : Next} {h h' : Heap} {K : Value → Heap → Prop} (w : Wk B h h') (ha : After P B nx h K) : After P B nx h' (fun v h'' => Fin B h'' (K v)) := by
  have he : Ent B h' h := Ent.forget w.1
  cases nx with
  | value v => exact Fin.ent he (Fin.of ha)
  | skip => exact Fin.ent he (Fin.of ha)
  | enter f args => exact Spec.mono (Spec.ent he ha) (fun v h'' k => Fin.of k)
  | round l f tmps assign body => exact fun F w' c cs R => let ⟨v, w2, h2, s, r, k⟩ := ha F w' c cs (he.2 F w' R); ⟨v, w2, h2, s, r, Fin.of k⟩
  | _ => exact ha.elim
theorem CallV.weaken {f : Value} {args : List Value} {h h' : Heap} {K : Value → Heap → Prop} (w : Wk B h h') (hc : CallV P B f args h K) : CallV P B f args h' (fun v h'' => Fin B h'' (K v)) :=
  semH_mono (fun nx h1' ⟨h1, w1, ha⟩ => ha.weaken w1) (semH_weaken w hc)
end
end Go.Proofs.YtlehephbflgblaaGreat.H
namespace Go.Proofs.YtlehephbflgblaaGreat.H
open Go
set_option linter.unusedVariables false
section
variable {P : Program} {B : RO} {h : Heap} {b i : Nat} {e : TypeId} {sz : Nat} {xs : List Value}
def FV (h : Heap) (b i : Nat) (e : TypeId) (sz : Nat) (xs : List Value) : Prop :=
  (∃ t fs n, h b = some (.vec t fs n) ∧ fs[i]? = some (.own e sz xs)) ∨
  (∃ t fs n a m c, h b = some (.vec t fs n) ∧ fs[i]? = some (.plain (.slice a m c)) ∧ SlRow h (.slice a m c) e sz xs)
def PF (h : Heap) (b i : Nat) (v : Value) : Prop := ∃ t fs n, h b = some (.vec t fs n) ∧ fs[i]? = some (.plain v)
theorem PF.cell {v : Value} (f : PF h b i v) : cellH B h ⟨b, i, none⟩ = some v := let ⟨_, _, _, hb, hi⟩ := f; cellH_vec hb hi
theorem PF.keep {v : Value} {h' : Heap} (f : PF h b i v) (e : h' b = h b) : PF h' b i v := let ⟨t, fs, n, hb, hi⟩ := f; ⟨t, fs, n, e.trans hb, hi⟩
def FP (h : Heap) (b i : Nat) (e : TypeId) (sz : Nat) (xs : List Value) (a : Option Addr) (m c : Nat) : Prop :=
  PF h b i (.slice a m c) ∧ SlRow h (.slice a m c) e sz xs
theorem FP.cell {a : Option Addr} {m c : Nat} (f : FP h b i e sz xs a m c) : cellH B h ⟨b, i, none⟩ = some (.slice a m c) := f.1.cell
theorem FP.len {a : Option Addr} {m c : Nat} (f : FP h b i e sz xs a m c) : m * sz = xs.length := by
  rcases f.2 with ⟨e1, e2⟩ | ⟨k, m', c', nn, js, e1, e2, e3, e4, e5⟩
  · cases e1; rw [e2]; simp
  · cases e1; exact e3
theorem FP.fv {a : Option Addr} {m c : Nat} (f : FP h b i e sz xs a m c) : FV h b i e sz xs :=
  let ⟨⟨t, fs, n, hb, hi⟩, hr⟩ := f
  .inr ⟨t, fs, n, a, m, c, hb, hi, hr⟩
def Shown (B : RO) (h : Heap) (b i : Nat) (e : TypeId) (sz : Nat) (xs : List Value) (a : Option Addr) (m c : Nat) (h1 : Heap) : Prop :=
  FP h1 b i e sz xs a m c ∧ Ent B h1 h ∧ (∀ k o, k ≠ b → h k = some o → h1 k = some o) ∧ (∀ j v, PF h b j v → PF h1 b j v)
theorem FV.opened {a : Option Addr} {m c : Nat} {h1 : Heap} {t : TypeId} {fs : List Fld} {n : Nat} (hb : h b = some (.vec t fs n)) (hi : fs[i]? = some (.own e sz xs)) (ho : Opened B h b t fs n i e sz xs (.slice a m c) h1) : Shown B h b i e sz xs a m c h1 := by
  have hl := (List.getElem?_eq_some_iff.1 hi).1
  refine ⟨⟨⟨_, _, _, ho.blk, by simp [hl]⟩, ho.row⟩, ho.back hb hi, fun k o hk hh => ho.sub k o hk hh, fun j v hv => ?_⟩
  obtain ⟨t', fs', n', hb', hj⟩ := hv
  rw [hb] at hb'
  cases hb'
  have hji : j ≠ i := fun e => by rw [e, hi] at hj; cases hj
  exact ⟨_, _, _, ho.blk, by rw [List.getElem?_set_ne (Ne.symm hji)]; exact hj⟩
end
end Go.Proofs.YtlehephbflgblaaGreat.H
namespace Go.Proofs.YtlehephbflgblaaGreat.H
open Go
set_option linter.unusedVariables false
section
variable {P : Program} {B : RO} {h0 h h' : Heap} {L : List (Option (Nat × AObj))}
structure Keep (B : RO) (h0 : Heap) (L : List (Option (Nat × AObj))) (h : Heap) : Prop where
  le : Le h0 h
  nw : NewOver B h0 h
  z : ∀ (i k : Nat) (o : AObj), L[i]? = some (some (k, o)) → h0 k = none ∧ B k = none
  get : ∀ (i k : Nat) (o : AObj), L[i]? = some (some (k, o)) → h k = some o
  nd : ∀ (i j k : Nat) (o o' : AObj), L[i]? = some (some (k, o)) → L[j]? = some (some (k, o')) → i = j
theorem Keep.nil (B : RO) (h : Heap) : Keep B h [] h := ⟨Le.refl h, NewOver.refl B h, fun i k o e => by simp at e, fun i k o e => by simp at e, fun i j k o o' e => by simp at e⟩
theorem Keep.of (w : Wk B h0 h) : Keep B h0 [] h := ⟨w.1, w.2, fun i k o e => by simp at e, fun i k o e => by simp at e, fun i j k o o' e => by simp at e⟩
theorem Keep.at (E : Keep B h0 L h) (i : Nat) {k : Nat} {o : AObj} (hi : L[i]? = some (some (k, o))) : h k = some o := E.get i k o hi
theorem Keep.zero (E : Keep B h0 L h) (i : Nat) {k : Nat} {o : AObj} (hi : L[i]? = some (some (k, o))) : h0 k = none := (E.z i k o hi).1
theorem Keep.ro (E : Keep B h0 L h) (i : Nat) {k : Nat} {o : AObj} (hi : L[i]? = some (some (k, o))) : B k = none := (E.z i k o hi).2
theorem Keep.back (E : Keep B h0 L h) : Ent B h h0 := Ent.forget E.le
theorem Keep.wk (E : Keep B h0 L h) (w : Wk B h h') : Keep B h0 L h' := ⟨E.le.trans w.1, E.nw.trans w.2, E.z, fun i k o e => w.1 _ _ (E.get i k o e), E.nd⟩
theorem Keep.w (E : Keep B h0 L h) : Wk B h0 h := ⟨E.le, E.nw⟩
theorem Keep.ne (E : Keep B h0 L h) (i j : Nat) {k k' : Nat} {o o' : AObj} (hi : L[i]? = some (some (k, o))) (hj : L[j]? = some (some (k', o'))) (hn : i ≠ j) : k ≠ k' := fun e => by
  subst e; exact hn (E.nd i j k o o' hi hj)
theorem Keep.more (E : Keep B h0 L h) {k : Nat} {o : AObj} (hk : h k = some o) (z : h0 k = none ∧ B k = none) (hn : ∀ (i : Nat) (o' : AObj), L[i]? ≠ some (some (k, o'))) : Keep B h0 (L ++ [some (k, o)]) h := by
  have key : ∀ (i k' : Nat) (o' : AObj), (L ++ [some (k, o)])[i]? = some (some (k', o')) → L[i]? = some (some (k', o')) ∨ (i = L.length ∧ k' = k ∧ o' = o) := fun i k' o' e => by
    rw [List.getElem?_append] at e
    split at e
    · exact .inl e
    · rename_i hl
      right
      have hi : i - L.length = 0 := by
        cases hd : i - L.length with
        | zero => rfl
        | succ d => rw [hd] at e; simp at e
      rw [hi] at e
      simp at e
      exact ⟨by omega, e.1.symm, e.2.symm⟩
  refine ⟨E.le, E.nw, fun i k' o' e => ?_, fun i k' o' e => ?_, fun i j k' o1 o2 e1 e2 => ?_⟩
  · rcases key _ _ _ e with e | ⟨_, rfl, rfl⟩
    · exact E.z _ _ _ e
    · exact z
  · rcases key _ _ _ e with e | ⟨_, rfl, rfl⟩
    · exact E.get _ _ _ e
    · exact hk
  · rcases key _ _ _ e1 with f1 | ⟨a1, b1, c1⟩
    · rcases key _ _ _ e2 with f2 | ⟨a2, b2, c2⟩
      · exact E.nd _ _ _ _ _ f1 f2
      · rw [b2] at f1; exact absurd f1 (hn _ _)
    · rcases key _ _ _ e2 with f2 | ⟨a2, b2, c2⟩
      · rw [b1] at f2; exact absurd f2 (hn _ _)
      · omega
theorem Keep.new (E : Keep B h0 L h) {k : Nat} {o : AObj} (hk : h k = none) (hb : B k = none) : Keep B h0 (L ++ [some (k, o)]) (h.set k o) :=
  (E.wk (Wk.new hk hb)).more (Heap.set_same _ _ _) ⟨E.le.none hk, hb⟩ fun i o' e => by rw [E.get i k o' e] at hk; cases hk
theorem Keep.made (E : Keep B h0 L h) {k : Nat} {o : AObj} (hk : h k = none) (hb : B k = none) (e : h' = h.set k o) : Keep B h0 (L ++ [some (k, o)]) h' := e ▸ E.new hk hb
theorem Keep.gap (E : Keep B h0 L h) : Keep B h0 (L ++ [none]) h := by
  have key : ∀ (i : Nat) (x : Nat × AObj), (L ++ [none])[i]? = some (some x) → L[i]? = some (some x) := fun i x e => by
    rw [List.getElem?_append] at e
    split at e
    · exact e
    · rename_i hl
      cases hd : i - L.length with
      | zero => rw [hd] at e; simp at e
      | succ d => rw [hd] at e; simp at e
  exact ⟨E.le, E.nw, fun i k o e => E.z i k o (key _ _ e), fun i k o e => E.get i k o (key _ _ e), fun i j k o o' e1 e2 => E.nd i j k o o' (key _ _ e1) (key _ _ e2)⟩
theorem Keep.sub {L' : List (Option (Nat × AObj))} (E : Keep B h0 L h) (hs : ∀ (i : Nat) (x : Nat × AObj), L'[i]? = some (some x) → L[i]? = some (some x)) : Keep B h0 L' h :=
  ⟨E.le, E.nw, fun i k o e => E.z i k o (hs _ _ e), fun i k o e => E.get i k o (hs _ _ e), fun i j k o o' e1 e2 => E.nd i j k o o' (hs _ _ e1) (hs _ _ e2)⟩
theorem Keep.take (E : Keep B h0 L h) (n : Nat) : Keep B h0 (L.take n) h := E.sub fun i x e => by
  rw [List.getElem?_take] at e
  split at e
  · exact e
  · cases e
theorem Keep.turn (E : Keep B h0 L h) {i k : Nat} {o' : AObj} (hk : (∃ o, L[i]? = some (some (k, o))) ∨ (h k = none ∧ B k = none)) : Keep B h0 (L.set i (some (k, o'))) (h.set k o') := by
  have key : ∀ (j k' : Nat) (o1 : AObj), (L.set i (some (k, o')))[j]? = some (some (k', o1)) → (j = i ∧ k' = k ∧ o1 = o') ∨ (j ≠ i ∧ L[j]? = some (some (k', o1))) := fun j k' o1 e => by
    by_cases hj : i = j
    · rw [List.getElem?_set] at e
      rw [if_pos hj] at e
      split at e
      · simp only [Option.some.injEq, Prod.mk.injEq] at e
        exact .inl ⟨hj.symm, e.1.symm, e.2.symm⟩
      · cases e
    · rw [List.getElem?_set_ne hj] at e
      exact .inr ⟨Ne.symm hj, e⟩
  have zk : h0 k = none ∧ B k = none := by
    rcases hk with ⟨o, e⟩ | ⟨e1, e2⟩
    · exact E.z _ _ _ e
    · exact ⟨E.le.none e1, e2⟩
  have other : ∀ (j k' : Nat) (o1 : AObj), j ≠ i → L[j]? = some (some (k', o1)) → k' ≠ k := fun j k' o1 hj e e2 => by
    subst e2
    rcases hk with ⟨o, e3⟩ | ⟨e3, _⟩
    · exact hj (E.nd _ _ _ _ _ e e3)
    · rw [E.get _ _ _ e] at e3; cases e3
  refine ⟨E.le.set zk.1, E.nw.set zk.2, fun j k' o1 e => ?_, fun j k' o1 e => ?_, fun j1 j2 k' o1 o2 e1 e2 => ?_⟩
  · rcases key _ _ _ e with ⟨_, rfl, rfl⟩ | ⟨_, e⟩
    · exact zk
    · exact E.z _ _ _ e
  · rcases key _ _ _ e with ⟨_, rfl, rfl⟩ | ⟨hj, e⟩
    · exact Heap.set_same _ _ _
    · rw [Heap.set_ne _ _ _ _ (other _ _ _ hj e)]; exact E.get _ _ _ e
  · rcases key _ _ _ e1 with ⟨a1, b1, c1⟩ | ⟨a1, e1⟩
    · rcases key _ _ _ e2 with ⟨a2, _, _⟩ | ⟨a2, e2⟩
      · omega
      · exact absurd b1 (other _ _ _ a2 e2)
    · rcases key _ _ _ e2 with ⟨a2, b2, c2⟩ | ⟨a2, e2⟩
      · exact absurd b2 (other _ _ _ a1 e1)
      · exact E.nd _ _ _ _ _ e1 e2
theorem Keep.put (E : Keep B h0 L h) (i : Nat) {k : Nat} {o o' : AObj} (hi : L[i]? = some (some (k, o))) : Keep B h0 (L.set i (some (k, o'))) (h.set k o') := E.turn (.inl ⟨o, hi⟩)
theorem Keep.lose (E : Keep B h0 L h) (i : Nat) : Keep B h0 (L.set i none) h := E.sub fun j x e => by
  by_cases hj : i = j
  · rw [List.getElem?_set, if_pos hj] at e
    split at e
    · cases e
    · cases e
  · rw [List.getElem?_set_ne hj] at e; exact e
theorem Keep.cell (E : Keep B h0 L h) (i : Nat) {k j n : Nat} {t : TypeId} {fs : List Fld} {v : Value} (hi : L[i]? = some (some (k, .vec t fs n))) (hj : fs[j]? = some (.plain v)) : cellH B h ⟨k, j, none⟩ = some v := cellH_vec (E.at i hi) hj
theorem Keep.own (E : Keep B h0 L h) (i : Nat) {k j n sz : Nat} {t e : TypeId} {fs : List Fld} {xs : List Value} (hi : L[i]? = some (some (k, .vec t fs n))) (hj : fs[j]? = some (.own e sz xs)) : FV h k j e sz xs := .inl ⟨_, _, _, E.at i hi, hj⟩
theorem Keep.store (E : Keep B h0 L h) (i j : Nat) (v : Value) {k n : Nat} {t : TypeId} {fs : List Fld} {u : Value} (hi : L[i]? = some (some (k, .vec t fs n))) (hj : fs[j]? = some (.plain u)) :
    storeH h ⟨k, j, none⟩ v = some (h.set k (.vec t (fs.set j (.plain v)) n)) ∧ Keep B h0 (L.set i (some (k, .vec t (fs.set j (.plain v)) n))) (h.set k (.vec t (fs.set j (.plain v)) n)) :=
  ⟨storeH_vec (E.at i hi) hj, E.put i hi⟩
def Row (r : Option (Nat × AObj)) (v : Value) (e : TypeId) (sz : Nat) (xs : List Value) : Prop :=
  (r = none ∧ v = .slice none 0 0 ∧ xs = []) ∨
  ∃ k m c nn js, r = some (k, .vec e (plains (xs ++ js)) nn) ∧ v = .slice (some ⟨k, 0, none⟩) m c ∧ m * sz = xs.length ∧ m ≤ c ∧ c * sz ≤ nn
variable {r : Option (Nat × AObj)} {v v' : Value} {e : TypeId} {sz : Nat} {xs ys : List Value}
theorem Row.nil (e : TypeId) (sz : Nat) : Row none (.slice none 0 0) e sz [] := .inl ⟨rfl, rfl, rfl⟩
theorem Row.slice (R : Row r v e sz xs) : ∃ a m c, v = .slice a m c := by
  rcases R with ⟨_, rfl, _⟩ | ⟨k, m, c, nn, js, _, rfl, _⟩ <;> exact ⟨_, _, _, rfl⟩
theorem Row.in (R : Row r v e sz xs) (hr : ∀ k o, r = some (k, o) → h k = some o) : SlRow h v e sz xs := by
  rcases R with ⟨_, rfl, rfl⟩ | ⟨k, m, c, nn, js, rfl, rfl, h3, h4, h5⟩
  · exact .inl ⟨rfl, rfl⟩
  · exact .inr ⟨k, m, c, nn, js, rfl, hr _ _ rfl, h3, h4, h5⟩
theorem Keep.sl (E : Keep B h0 L h) (i : Nat) (hi : L[i]? = some r) (R : Row r v e sz xs) : SlRow h v e sz xs := R.in fun k o e => E.at i (by rw [hi, e])
theorem Keep.opened (E : Keep B h0 L h) (i : Nat) {b j n : Nat} {t : TypeId} {fs : List Fld} (hi : L[i]? = some (some (b, .vec t fs n))) (ho : Opened B h b t fs n j e sz xs v h') :
    ∃ r, Row r v e sz xs ∧ Keep B h0 (L.set i (some (b, .vec t (fs.set j (.plain v)) n)) ++ [r]) h' := by
  rcases ho with ⟨rfl, rfl, rfl⟩ | ⟨k, m, c, nn, h1, h2, h3, rfl, h4, h5, h6, h7, rfl⟩
  · exact ⟨none, Row.nil e sz, (E.put i hi).gap⟩
  · refine ⟨some (k, .vec e (plains xs) nn), .inr ⟨k, m, c, nn, [], by rw [List.append_nil], rfl, h4, h5, h6⟩, ?_⟩
    exact (E.put i hi).new (by rw [Heap.set_ne _ _ _ _ h3]; exact h1) h2
theorem Keep.close (E : Keep B h0 L h) (i j q : Nat) {b n : Nat} {t : TypeId} {fs : List Fld} (hi : L[i]? = some (some (b, .vec t fs n))) (hj : fs[j]? = some (.plain v)) (hq : L[q]? = some r) (R : Row r v e sz xs) (hn : q ≠ i) :
    ∃ h', Ent B h h' ∧ Keep B h0 ((L.set i (some (b, .vec t (fs.set j (.own e sz xs)) n))).set q none) h' := by
  have hb := E.at i hi
  rcases R with ⟨rfl, rfl, rfl⟩ | ⟨k, m, c, nn, js, rfl, rfl, h3, h4, h5⟩
  · exact ⟨_, Ent.close_nil (e := e) (sz := sz) hb hj, (E.put i hi).lose q⟩
  · have hkb : k ≠ b := E.ne q i hq hi hn
    have hz := E.zero q hq
    have cl := Ent.close_row (B := B) (h0 := h.del k) (h := h) (b := b) (n := n) (i := j) (e := e) (sz := sz) (v := .slice (some ⟨k, 0, none⟩) m c) (xs := xs) (fs := fs) (t := t)
      (fun c' o hc hh => by
        by_cases hck : c' = k
        · rw [hck, Heap.del_same] at hh; cases hh
        · rw [Heap.del_ne _ _ _ hck] at hh; exact hh)
      hb hj (.inr ⟨k, m, c, nn, js, rfl, E.at q hq, h3, h4, h5⟩)
      (fun k' m' c' e => by cases e; exact ⟨Heap.del_same _ _, hkb⟩)
    refine ⟨_, cl, ?_⟩
    have E1 := E.put (o' := .vec t (fs.set j (.own e sz xs)) n) i hi
    have E2 := E1.lose q
    have zb := E.z i _ _ hi
    have same : ∀ c', c' ≠ k → ((h.del k).set b (.vec t (fs.set j (.own e sz xs)) n)) c' = (h.set b (.vec t (fs.set j (.own e sz xs)) n)) c' := fun c' hc => by
      by_cases hcb : c' = b
      · rw [hcb, Heap.set_same, Heap.set_same]
      · rw [Heap.set_ne _ _ _ _ hcb, Heap.set_ne _ _ _ _ hcb, Heap.del_ne _ _ _ hc]
    refine ⟨fun c' o hc => ?_, fun c' hc hh => ?_, E2.z, fun i' k' o' hi' => ?_, E2.nd⟩
    · rw [same c' (fun x => by rw [x, hz] at hc; cases hc)]; exact E1.le _ _ hc
    · by_cases hck : c' = k
      · exact absurd (by rw [hck]; exact E.ro q hq) hc
      · rw [same c' hck]; exact E1.nw _ hc hh
    · have hne : k' ≠ k := fun x => by
        subst x
        have hiq : i' ≠ q := fun y => by
          subst y
          rw [List.getElem?_set, if_pos rfl] at hi'
          split at hi' <;> cases hi'
        rw [List.getElem?_set_ne (Ne.symm hiq)] at hi'
        have hq' : (L.set i (some (b, .vec t (fs.set j (.own e sz xs)) n)))[q]? = some (some (k', .vec e (plains (xs ++ js)) nn)) := by rw [List.getElem?_set_ne (Ne.symm hn)]; exact hq
        exact hiq (E1.nd _ _ _ _ _ hi' hq')
      rw [same k' hne]; exact E2.get _ _ _ hi'
theorem Keep.appd (E : Keep B h0 L h) (q : Nat) (hq : L[q]? = some r) (R : Row r v e sz xs) (ap : Appd B h v e sz xs ys v' h') :
    ∃ r', Row r' v' e sz (xs ++ ys) ∧ Keep B h0 (L.set q r') h' := by
  rcases ap with ⟨rfl, rfl, rfl⟩ | ⟨k, m, n, c, nn, js, hn, rfl, rfl, h1, h2, h3, h4, h5⟩
  · refine ⟨r, by rw [List.append_nil]; exact R, ?_⟩
    have : L.set q r = L := by
      obtain ⟨hl, rfl⟩ := List.getElem?_eq_some_iff.1 hq
      exact List.set_getElem_self hl
    rw [this]; exact E
  · refine ⟨some (k, _), .inr ⟨k, m + n, c, nn, js, rfl, rfl, by rw [List.length_append, Nat.add_mul, h1, h2], h3, h4⟩, E.turn ?_⟩
    rcases h5 with ⟨e1, is, e2⟩ | h5
    · rcases R with ⟨_, e3, _⟩ | ⟨k', m', c', nn', js', rfl, e3, _⟩
      · rw [e1] at e3; cases e3
      · rw [e1] at e3; cases e3; exact .inl ⟨_, hq⟩
    · exact .inr h5
end
end Go.Proofs.YtlehephbflgblaaGreat.H
