/- The heap logic, part 1: an abstract heap (block to object), the model's operations as a weakest precondition over it, sound against the model's own run. No condition. -/
import Derived.Calls
import Derived.WalkKit
namespace Go.Proofs.Ythloobpjkeodgaa.H
open Go
set_option linter.unusedVariables false

/-! ### Objects -/
inductive Fld where
  | plain (v : Value)
  | own (e : TypeId) (size : Nat) (xs : List Value)

inductive AObj where
  | raw (o : Obj)
  | vec (t : TypeId) (fs : List Fld) (n : Nat)

abbrev Heap := Nat → Option AObj
abbrev RO := Nat → Option Obj

def Heap.set (h : Heap) (b : Nat) (o : AObj) : Heap := fun c => if c = b then some o else h c
def Heap.del (h : Heap) (b : Nat) : Heap := fun c => if c = b then none else h c

theorem Heap.set_same (h : Heap) (b : Nat) (o : AObj) : h.set b o b = some o := by simp [Heap.set]
theorem Heap.set_ne (h : Heap) (b c : Nat) (o : AObj) (hn : c ≠ b) : h.set b o c = h c := by simp [Heap.set, hn]
theorem Heap.del_same (h : Heap) (b : Nat) : h.del b b = none := by simp [Heap.del]
theorem Heap.del_ne (h : Heap) (b c : Nat) (hn : c ≠ b) : h.del b c = h c := by simp [Heap.del, hn]
theorem Heap.set_set (h : Heap) (b : Nat) (o o' : AObj) : (h.set b o).set b o' = h.set b o' := by
  funext c; simp only [Heap.set]; split <;> rfl
theorem Heap.del_set (h : Heap) (b : Nat) (o : AObj) (hn : h b = none) : (h.set b o).del b = h := by
  funext c; simp only [Heap.set, Heap.del]; split
  · rename_i e; rw [e, hn]
  · rfl
theorem Heap.set_comm (h : Heap) (b c : Nat) (o o' : AObj) (hn : b ≠ c) : (h.set b o).set c o' = (h.set c o').set b o := by
  funext d; simp only [Heap.set]
  by_cases h1 : d = c
  · subst h1; simp [Ne.symm hn]
  · by_cases h2 : d = b
    · subst h2; simp [hn]
    · simp [h1, h2]
theorem Heap.set_self (h : Heap) (b : Nat) (o : AObj) (hb : h b = some o) : h.set b o = h := by
  funext c; simp only [Heap.set]; split
  · rename_i e; rw [e, hb]
  · rfl

/-- An object that a run has just made. -/
def absO : Obj → AObj
  | .cells c e (lo, hi) => if lo = hi then .vec e (c.toList.map .plain) c.size else .raw (.cells c e (lo, hi))
  | o => .raw o

/-! ### What is seen, and what is written -/
def isOne : Value → Bool
  | .agg _ | .tuple _ => false
  | _ => true

def cellH (B : RO) (h : Heap) (a : Addr) : Option Value :=
  if a.spot.isSome then none else
  match h a.block with
  | some (.vec _ fs _) => match fs[a.off]? with
    | some (.plain v) => some v
    | _ => none
  | some (.raw (.cells c _ _)) => c[a.off]?
  | some (.raw _) => none
  | none => match B a.block with
    | some (.cells c _ _) => c[a.off]?
    | _ => none

def storeH (h : Heap) (a : Addr) (v : Value) : Option Heap :=
  if a.spot.isSome then none else
  match h a.block with
  | some (.vec t fs n) =>
    if a.off < fs.length then
      match fs[a.off]? with
      | some (.plain _) => some (h.set a.block (.vec t (fs.set a.off (.plain v)) n))
      | _ => none
    else if a.off = fs.length ∧ a.off < n then some (h.set a.block (.vec t (fs ++ [.plain v]) n))
    else none
  | _ => none

def shapeH (B : RO) (h : Heap) (r : Nat) : Option (Option (TypeId × Nat)) :=
  match h r with
  | some (.vec t _ n) => some (some (t, n))
  | some (.raw (.cells c e _)) => some (some (e, c.size))
  | some (.raw _) => some none
  | none => match B r with
    | some (.cells c e _) => some (some (e, c.size))
    | some _ => some none
    | none => none

/-- some true | some false: it is known; none: it isn't. -/
def frozenH (B : RO) (h : Heap) (a : Addr) : Option Bool :=
  match h a.block with
  | some (.vec t _ n) => if a.off < n ∨ t ≠ 5 then some false else none
  | some (.raw (.cells _ _ (lo, hi))) => some (decide (lo ≤ a.off) && decide (a.off < hi))
  | some (.raw _) => some false
  | none => match B a.block with
    | some (.cells _ _ (lo, hi)) => some (decide (lo ≤ a.off) && decide (a.off < hi))
    | some _ => some false
    | none => none

def Obj.isCell : Obj → Bool
  | .cells .. => true
  | _ => false

/-- The model's own instructions over the abstract heap: a weakest precondition. No panic, no outside world. -/
def semH (P : Program) (B : RO) {α : Type} : Sem α → Heap → (α → Heap → Prop) → Prop
  | .pure a, h, K => K a h
  | .load _ a k, h, K => ∃ v, cellH B h a = some v ∧ semH P B (k v) h K
  | .store _ a v k, h, K => isOne v = true ∧ ∃ h', storeH h a v = some h' ∧ semH P B k h' K
  | .new o k, h, K => ∀ b, h b = none → B b = none → semH P B (k b) (h.set b (absO o)) K
  | .shape r k, h, K => ∃ s, shapeH B h r = some s ∧ semH P B (k s) h K
  | .freeze a n k, h, K => (∃ t fs m, h a.block = some (.vec t fs m) ∧ m ≤ a.off ∧ t = 5) ∧ 0 < n ∧ semH P B k h K
  | .frozen a k, h, K => ∀ b, (∀ c, frozenH B h a = some c → b = c) → semH P B (k b) h K
  | .getObj r k, h, K => ∃ o, h r = some (.raw o) ∧ Obj.isCell o = false ∧ semH P B (k o) h K
  | .setObj r o k, h, K => (∃ o', h r = some (.raw o') ∧ Obj.isCell o' = false) ∧ Obj.isCell o = false ∧ semH P B k (h.set r (.raw o)) K
  | .choose q k, h, K => if q.forced then semH P B (k 0) h K else ∀ n, semH P B (k (q.cut n)) h K
  | .sys _ _, _, _ => False
  | .program k, h, K => semH P B (k P) h K
  | .mark _ k, h, K => semH P B k h K
  | .halt _, _, _ => False

theorem semH_mono {P : Program} {B : RO} {α : Type} {s : Sem α} {K K' : α → Heap → Prop} (hk : ∀ a h, K a h → K' a h) : ∀ {h : Heap}, semH P B s h K → semH P B s h K' := by
  induction s with
  | pure a => intro h hs; exact hk _ _ hs
  | load m a k ih => rintro h ⟨v, hv, hs⟩; exact ⟨v, hv, ih v hs⟩
  | store m a v k ih => rintro h ⟨h1, h', hh, hs⟩; exact ⟨h1, h', hh, ih hs⟩
  | new o k ih => intro h hs b h1 h2; exact ih b (hs b h1 h2)
  | shape r k ih => rintro h ⟨s, hs, hk'⟩; exact ⟨s, hs, ih s hk'⟩
  | freeze a n k ih => rintro h ⟨h1, h2, hs⟩; exact ⟨h1, h2, ih hs⟩
  | frozen a k ih => intro h hs b h1; exact ih b (hs b h1)
  | getObj r k ih => rintro h ⟨o, h1, h2, hs⟩; exact ⟨o, h1, h2, ih o hs⟩
  | setObj r o k ih => rintro h ⟨h1, h2, hs⟩; exact ⟨h1, h2, ih hs⟩
  | choose q k ih =>
    intro h hs
    simp only [semH] at hs ⊢
    split
    · rename_i hf; rw [if_pos hf] at hs; exact ih 0 hs
    · rename_i hf; rw [if_neg hf] at hs; intro n; exact ih _ (hs n)
  | sys c k ih => intro h hs; exact hs.elim
  | program k ih => intro h hs; exact ih P hs
  | mark m k ih => intro h hs; exact ih hs
  | halt x => intro h hs; exact hs.elim

theorem semH_bind {P : Program} {B : RO} {α β : Type} {s : Sem α} {f : α → Sem β} {K : β → Heap → Prop} : ∀ {h : Heap}, semH P B (s >>= f) h K ↔ semH P B s h (fun a h' => semH P B (f a) h' K) := by
  show ∀ {h : Heap}, semH P B (s.bind f) h K ↔ _
  induction s with
  | pure a => intro h; exact Iff.rfl
  | load m a k ih => intro h; simp only [Sem.bind, semH, ih]
  | store m a v k ih => intro h; simp only [Sem.bind, semH, ih]
  | new o k ih => intro h; simp only [Sem.bind, semH, ih]
  | shape r k ih => intro h; simp only [Sem.bind, semH, ih]
  | freeze a n k ih => intro h; simp only [Sem.bind, semH, ih]
  | frozen a k ih => intro h; simp only [Sem.bind, semH, ih]
  | getObj r k ih => intro h; simp only [Sem.bind, semH, ih]
  | setObj r o k ih => intro h; simp only [Sem.bind, semH, ih]
  | choose q k ih => intro h; simp only [Sem.bind, semH, ih]
  | sys c k ih => intro h; exact Iff.rfl
  | program k ih => intro h; simp only [Sem.bind, semH, ih]
  | mark m k ih => intro h; simp only [Sem.bind, semH, ih]
  | halt x => intro h; exact Iff.rfl

theorem semH_pure {P : Program} {B : RO} {α : Type} {a : α} {h : Heap} {K : α → Heap → Prop} : semH P B (pure a : Sem α) h K ↔ K a h := Iff.rfl

/-! ### The relation to a world -/
structure Fr where
  blocks : Nat → Option Obj
  os : Os
  tape : Nat → Question → Nat
  output : Array (Nat × ByteArray)
  low : Nat

/-- Only behind bytes (type 5) something may be marked. -/
def OkFr (fr : Nat × Nat) (n : Nat) (t : TypeId) : Prop := fr.1 = fr.2 ∨ (n ≤ fr.1 ∧ fr.1 ≤ fr.2 ∧ t = 5)

def HasVec (w : World) (b : Nat) (t : TypeId) (n : Nat) (R : Nat → Value → Prop) : Prop :=
  ∃ cs fr, w.heap[b]? = some (.cells cs t fr) ∧ cs.size = n ∧ OkFr fr n t ∧ ∀ i v, cs[i]? = some v → R i v

/-- A slice value that owns its whole block. -/
def OwnSl (w : World) (own : Nat → Option (Nat × Nat)) (b i : Nat) (v : Value) (e : TypeId) (sz : Nat) (xs : List Value) : Prop :=
  (v = .slice none 0 0 ∧ xs = []) ∨
  ∃ k m c n, v = .slice (some ⟨k, 0, none⟩) m c ∧ own k = some (b, i) ∧ m * sz = xs.length ∧ m ≤ c ∧ c * sz ≤ n ∧ xs.length ≤ n ∧
    HasVec w k e n (fun j u => ∀ x, xs[j]? = some x → u = x)

def RepF (w : World) (own : Nat → Option (Nat × Nat)) (b i : Nat) (v : Value) : Fld → Prop
  | .plain u => v = u
  | .own e sz xs => OwnSl w own b i v e sz xs

def RepO (w : World) (own : Nat → Option (Nat × Nat)) (b : Nat) : AObj → Prop
  | .raw o => w.heap[b]? = some o
  | .vec t fs n => fs.length ≤ n ∧ HasVec w b t n (fun i v => ∀ f, fs[i]? = some f → RepF w own b i v f)

structure RelO (B : RO) (F : Fr) (h : Heap) (own : Nat → Option (Nat × Nat)) (w : World) : Prop where
  os : w.os = F.os
  tape : w.tape = F.tape
  output : w.output = F.output
  low : F.low ≤ w.heap.size
  fr : ∀ b o, F.blocks b = some o → w.heap[b]? = some o ∧ h b = none ∧ own b = none
  ro : ∀ b o, B b = some o → w.heap[b]? = some o ∧ h b = none ∧ own b = none ∧ F.blocks b = none
  obj : ∀ b o, h b = some o → own b = none ∧ RepO w own b o
  owned : ∀ b p, own b = some p → b < w.heap.size

def Rel (B : RO) (F : Fr) (h : Heap) (w : World) : Prop := ∃ own, RelO B F h own w

theorem lt_of_get {w : World} {b : Nat} {o : Obj} (h : w.heap[b]? = some o) : b < w.heap.size := (Array.getElem?_eq_some_iff.1 h).1

theorem HasVec.lt {w : World} {b : Nat} {t : TypeId} {n : Nat} {R : Nat → Value → Prop} (h : HasVec w b t n R) : b < w.heap.size := by
  obtain ⟨_, _, h, _⟩ := h; exact lt_of_get h
theorem RepO.lt {w : World} {own : Nat → Option (Nat × Nat)} {b : Nat} {o : AObj} (h : RepO w own b o) : b < w.heap.size := by
  cases o with
  | raw o => exact lt_of_get h
  | vec t fs n => exact h.2.lt

theorem HasVec.imp {w w' : World} {b : Nat} {t : TypeId} {n : Nat} {R R' : Nat → Value → Prop} (h : HasVec w b t n R) (hw : w'.heap[b]? = w.heap[b]?) (hr : ∀ i v, R i v → R' i v) : HasVec w' b t n R' := by
  obtain ⟨cs, fr, h1, h2, h3, h4⟩ := h
  exact ⟨cs, fr, hw.trans h1, h2, h3, fun i v hi => hr i v (h4 i v hi)⟩

/-- Owned blocks of (b, i) lie as they lay: so does the slice. -/
theorem OwnSl.keep {w w' : World} {own own' : Nat → Option (Nat × Nat)} {b i : Nat} {v : Value} {e : TypeId} {sz : Nat} {xs : List Value} (h : OwnSl w own b i v e sz xs)
    (hk : ∀ k, own k = some (b, i) → own' k = some (b, i) ∧ w'.heap[k]? = w.heap[k]?) : OwnSl w' own' b i v e sz xs := by
  rcases h with h | ⟨k, m, c, n, h1, h2, h3, h4, h5, h6, h7⟩
  · exact .inl h
  · obtain ⟨k1, k2⟩ := hk k h2
    exact .inr ⟨k, m, c, n, h1, k1, h3, h4, h5, h6, h7.imp k2 (fun _ _ r => r)⟩

theorem RepF.keep {w w' : World} {own own' : Nat → Option (Nat × Nat)} {b i : Nat} {v : Value} {f : Fld} (h : RepF w own b i v f)
    (hk : ∀ k, own k = some (b, i) → own' k = some (b, i) ∧ w'.heap[k]? = w.heap[k]?) : RepF w' own' b i v f := by
  cases f with
  | plain u => exact h
  | own e sz xs => exact OwnSl.keep h hk

theorem RepO.keep {w w' : World} {own own' : Nat → Option (Nat × Nat)} {b : Nat} {o : AObj} (h : RepO w own b o) (hb : w'.heap[b]? = w.heap[b]?)
    (hk : ∀ k i, own k = some (b, i) → own' k = some (b, i) ∧ w'.heap[k]? = w.heap[k]?) : RepO w' own' b o := by
  cases o with
  | raw o => exact hb.trans h
  | vec t fs n => exact ⟨h.1, h.2.imp hb fun i v r f hf => (r f hf).keep (fun k hk' => hk k i hk')⟩

/-- Only block 'b' of the tracked ones has turned. -/
theorem RelO.change {B : RO} {F : Fr} {h : Heap} {own : Nat → Option (Nat × Nat)} {w w' : World} (R : RelO B F h own w) {b : Nat} {o : AObj} (hb : (h b).isSome)
    (h1 : w'.os = w.os) (h2 : w'.tape = w.tape) (h3 : w'.output = w.output) (hs : w.heap.size ≤ w'.heap.size) (hne : ∀ c, c ≠ b → c < w.heap.size → w'.heap[c]? = w.heap[c]?) (ho : RepO w' own b o) : RelO B F (h.set b o) own w' := by
  have hob : own b = none := by
    obtain ⟨o0, h0⟩ := Option.isSome_iff_exists.1 hb
    exact (R.obj b o0 h0).1
  have hown : ∀ k p, own k = some p → w'.heap[k]? = w.heap[k]? := fun k p hk => hne k (fun e => by rw [e, hob] at hk; cases hk) (R.owned k p hk)
  refine ⟨h1.trans R.os, h2.trans R.tape, h3.trans R.output, Nat.le_trans R.low hs, ?_, ?_, ?_, fun k p hk => Nat.lt_of_lt_of_le (R.owned k p hk) hs⟩
  · intro c o' hc
    obtain ⟨a1, a2, a3⟩ := R.fr c o' hc
    have hcb : c ≠ b := fun e => by rw [← e, a2] at hb; cases hb
    exact ⟨(hne c hcb (lt_of_get a1)).trans a1, by rw [Heap.set_ne _ _ _ _ hcb]; exact a2, a3⟩
  · intro c o' hc
    obtain ⟨a1, a2, a3⟩ := R.ro c o' hc
    have hcb : c ≠ b := fun e => by rw [← e, a2] at hb; cases hb
    exact ⟨(hne c hcb (lt_of_get a1)).trans a1, by rw [Heap.set_ne _ _ _ _ hcb]; exact a2, a3⟩
  · intro c o' hc
    by_cases hcb : c = b
    · subst hcb
      rw [Heap.set_same] at hc
      cases hc
      exact ⟨hob, ho⟩
    · rw [Heap.set_ne _ _ _ _ hcb] at hc
      obtain ⟨a1, a2⟩ := R.obj c o' hc
      exact ⟨a1, a2.keep (hne c hcb a2.lt) (fun k i hk => ⟨hk, hown k _ hk⟩)⟩

/-- A new block. -/
theorem RelO.fresh {B : RO} {F : Fr} {h : Heap} {own : Nat → Option (Nat × Nat)} {w : World} (R : RelO B F h own w) : h w.heap.size = none ∧ B w.heap.size = none ∧ own w.heap.size = none ∧ F.blocks w.heap.size = none := by
  refine ⟨?_, ?_, ?_, ?_⟩
  · cases hc : h w.heap.size with
    | none => rfl
    | some o => exact absurd (R.obj _ o hc).2.lt (Nat.lt_irrefl _)
  · cases hc : B w.heap.size with
    | none => rfl
    | some o => exact absurd (lt_of_get (R.ro _ o hc).1) (Nat.lt_irrefl _)
  · cases hc : own w.heap.size with
    | none => rfl
    | some o => exact absurd (R.owned _ o hc) (Nat.lt_irrefl _)
  · cases hc : F.blocks w.heap.size with
    | none => rfl
    | some o => exact absurd (lt_of_get (R.fr _ o hc).1) (Nat.lt_irrefl _)

theorem push_get (w : World) (o : Obj) (c : Nat) (hc : c < w.heap.size) : (w.heap.push o)[c]? = w.heap[c]? := by
  rw [Array.getElem?_push, if_neg (by omega)]

theorem RelO.push {B : RO} {F : Fr} {h : Heap} {own : Nat → Option (Nat × Nat)} {w : World} (R : RelO B F h own w) (o : Obj) :
    RelO B F (h.set w.heap.size (absO o)) own { w with heap := w.heap.push o } := by
  obtain ⟨f1, f2, f3, f4⟩ := R.fresh
  have hget : ({ w with heap := w.heap.push o } : World).heap[w.heap.size]? = some o := by simp
  refine ⟨R.os, R.tape, R.output, Nat.le_trans R.low (by simp), ?_, ?_, ?_, fun k p hk => by have := R.owned k p hk; simp; omega⟩
  · intro c o' hc
    obtain ⟨a1, a2, a3⟩ := R.fr c o' hc
    have hlt := lt_of_get a1
    exact ⟨(push_get w o c hlt).trans a1, by rw [Heap.set_ne _ _ _ _ (by omega)]; exact a2, a3⟩
  · intro c o' hc
    obtain ⟨a1, a2, a3⟩ := R.ro c o' hc
    have hlt := lt_of_get a1
    exact ⟨(push_get w o c hlt).trans a1, by rw [Heap.set_ne _ _ _ _ (by omega)]; exact a2, a3⟩
  · intro c o' hc
    by_cases hcb : c = w.heap.size
    · subst hcb
      rw [Heap.set_same] at hc
      cases hc
      refine ⟨f3, ?_⟩
      cases o with
      | cells cs e fr =>
        obtain ⟨lo, hi⟩ := fr
        simp only [absO]
        split
        · rename_i hlh
          refine ⟨by simp, cs, (lo, hi), hget, rfl, .inl hlh, ?_⟩
          intro i v hi' f hf
          simp only [List.getElem?_map, Array.getElem?_toList, hi', Option.map_some] at hf
          cases hf
          rfl
        · exact hget
      | _ => exact hget
    · rw [Heap.set_ne _ _ _ _ hcb] at hc
      obtain ⟨a1, a2⟩ := R.obj c o' hc
      exact ⟨a1, a2.keep (push_get w o c a2.lt) (fun k i hk => ⟨hk, push_get w o k (R.owned k _ hk)⟩)⟩

theorem RelO.of_heap_eq {B : RO} {F : Fr} {h : Heap} {own : Nat → Option (Nat × Nat)} {w w' : World} (R : RelO B F h own w) (h0 : w'.heap = w.heap) (h1 : w'.os = w.os) (h2 : w'.tape = w.tape) (h3 : w'.output = w.output) : RelO B F h own w' := by
  have hk : ∀ c : Nat, w'.heap[c]? = w.heap[c]? := fun c => by rw [h0]
  exact ⟨h1.trans R.os, h2.trans R.tape, h3.trans R.output, by rw [h0]; exact R.low, fun c o hc => ⟨(hk c).trans (R.fr c o hc).1, (R.fr c o hc).2⟩, fun c o hc => ⟨(hk c).trans (R.ro c o hc).1, (R.ro c o hc).2⟩,
    fun c o hc => ⟨(R.obj c o hc).1, (R.obj c o hc).2.keep (hk c) (fun k i h' => ⟨h', hk k⟩)⟩, fun k p hk' => by rw [h0]; exact R.owned k p hk'⟩

theorem frozen_false {fr : Nat × Nat} {n i : Nat} {t : TypeId} (h : OkFr fr n t) (hi : i < n ∨ t ≠ 5) : (decide (fr.1 ≤ i) && decide (i < fr.2)) = false := by
  rcases h with h | ⟨h1, h2, h3⟩
  · simp; omega
  · rcases hi with hi | hi
    · simp; omega
    · exact absurd h3 hi

theorem RelO.cell {B : RO} {F : Fr} {h : Heap} {own : Nat → Option (Nat × Nat)} {w : World} (R : RelO B F h own w) {a : Addr} {v : Value} (hv : cellH B h a = some v) : w.cell? a = some v := by
  obtain ⟨ab, ao, asp⟩ := a
  unfold cellH at hv
  split at hv
  · cases hv
  · rename_i hs
    dsimp only at hv hs
    have hs' : asp.isSome = false := by simpa using hs
    split at hv
    · rename_i t fs n hb
      obtain ⟨_, _, cs, fr, h1, h2, h3, h4⟩ := R.obj _ _ hb
      split at hv
      · rename_i u hf
        cases hv
        have hi : ao < cs.size := by
          have := (List.getElem?_eq_some_iff.1 hf).1
          omega
        have := h4 ao cs[ao] (Array.getElem?_eq_getElem hi) _ hf
        simp only [World.cell?, h1, hs']
        simp only [RepF] at this
        simp [hi, this]
      · cases hv
    · rename_i c e fr hb
      have h1 := (R.obj _ _ hb).2
      simp only [RepO] at h1
      simp only [World.cell?, h1, hs']
      simpa using hv
    · cases hv
    · rename_i hb
      split at hv
      · rename_i c e fr hB
        have h1 := (R.ro _ _ hB).1
        simp only [World.cell?, h1, hs']
        simpa using hv
      · cases hv

theorem modify_get (w : World) (b : Nat) (g : Obj → Obj) (c : Nat) (hc : c ≠ b) : (w.heap.modify b g)[c]? = w.heap[c]? := by
  rw [Array.getElem?_modify]; simp [Ne.symm hc]

theorem RelO.store {B : RO} {F : Fr} {h h' : Heap} {own : Nat → Option (Nat × Nat)} {w : World} (R : RelO B F h own w) {a : Addr} {v : Value} (hv : storeH h a v = some h') :
    (∃ u, w.cell? a = some u) ∧ w.frozen? a = false ∧ RelO B F h' own (w.setCell a v) := by
  obtain ⟨ab, ao, asp⟩ := a
  unfold storeH at hv
  split at hv
  · cases hv
  · rename_i hs
    dsimp only at hv hs
    have hs' : asp.isSome = false := by simpa using hs
    split at hv
    · rename_i t fs n hb
      obtain ⟨hob, hle, cs, fr, h1, h2, h3, h4⟩ := R.obj _ _ hb
      have hbw := lt_of_get h1
      -- whichever way: a cell of the block, turned; what is then known
      have key : ∀ fs' : List Fld, ao < cs.size → fs'.length ≤ n → (∀ i f, fs'[i]? = some f → i = ao ∧ f = .plain v ∨ i ≠ ao ∧ fs[i]? = some f) →
          (∃ u, w.cell? ⟨ab, ao, asp⟩ = some u) ∧ w.frozen? ⟨ab, ao, asp⟩ = false ∧ RelO B F (h.set ab (.vec t fs' n)) own (w.setCell ⟨ab, ao, asp⟩ v) := by
        intro fs' hlt hle' hfs
        have hw : (w.setCell ⟨ab, ao, asp⟩ v).heap[ab]? = some (.cells (cs.setIfInBounds ao v) t fr) := by
          simp only [World.setCell, Array.getElem?_modify, if_true, h1, Option.map_some, hs']
          simp
        refine ⟨⟨cs[ao], by simp [World.cell?, h1, hs', hlt]⟩, ?_, ?_⟩
        · obtain ⟨lo, hi⟩ := fr
          simp only [World.frozen?, h1]
          exact frozen_false h3 (.inl (by omega))
        · refine R.change (by simp [hb]) rfl rfl rfl (by simp [World.setCell]) (fun c hc _ => by simp only [World.setCell]; exact modify_get w ab _ c hc) ⟨hle', _, fr, hw, by simpa using h2, h3, ?_⟩
          intro i u hu f hf
          rcases hfs i f hf with ⟨rfl, rfl⟩ | ⟨hne, hf'⟩
          · rw [Array.getElem?_setIfInBounds_self_of_lt (by omega)] at hu
            cases hu; rfl
          · rw [Array.getElem?_setIfInBounds_ne (Ne.symm hne)] at hu
            exact (h4 i u hu f hf').keep (fun k hk => ⟨hk, by
              simp only [World.setCell]; exact modify_get w ab _ k (fun e => by rw [e, hob] at hk; cases hk)⟩)
      split at hv
      · rename_i hlt
        split at hv
        · rename_i u hf
          cases hv
          refine key _ (by omega) (by simpa using hle) ?_
          intro i f hi
          rw [List.getElem?_set] at hi
          split at hi
          · rename_i e
            subst e
            simp at hi
            exact .inl ⟨rfl, hi.symm⟩
          · rename_i e
            exact .inr ⟨Ne.symm e, hi⟩
        · cases hv
      · rename_i hlt
        split at hv
        · rename_i hh
          obtain ⟨e1, e2⟩ := hh
          cases hv
          refine key _ (by omega) (by simp; omega) ?_
          intro i f hi
          rw [List.getElem?_append] at hi
          split at hi
          · rename_i hi'
            exact .inr ⟨by omega, hi⟩
          · rename_i hi'
            have : i - fs.length = 0 := by
              have := (List.getElem?_eq_some_iff.1 hi).1
              simp at this; omega
            rw [this] at hi
            simp at hi
            exact .inl ⟨by omega, hi.symm⟩
        · cases hv
    · cases hv

theorem RelO.shape {B : RO} {F : Fr} {h : Heap} {own : Nat → Option (Nat × Nat)} {w : World} (R : RelO B F h own w) {r : Nat} {s : Option (TypeId × Nat)} (hv : shapeH B h r = some s) : w.shape? r = s := by
  unfold shapeH at hv
  split at hv
  · rename_i t fs n hb
    obtain ⟨_, _, cs, fr, h1, h2, h3, h4⟩ := R.obj _ _ hb
    cases hv
    simp [World.shape?, h1, h2]
  · rename_i c e fr hb
    have h1 := (R.obj _ _ hb).2
    simp only [RepO] at h1
    cases hv
    simp [World.shape?, h1]
  · rename_i o hne hb
    have h1 := (R.obj _ _ hb).2
    simp only [RepO] at h1
    cases hv
    simp only [World.shape?, h1]
    split
    · rename_i heq; cases heq; exact absurd rfl (hne _ _ _)
    · rfl
  · split at hv
    · rename_i c e fr hB
      have h1 := (R.ro _ _ hB).1
      cases hv
      simp [World.shape?, h1]
    · rename_i o hne hB
      have h1 := (R.ro _ _ hB).1
      cases hv
      simp only [World.shape?, h1]
      split
      · rename_i heq; cases heq; exact absurd rfl (hne _ _ _)
      · rfl
    · cases hv

theorem RelO.frozenAt {B : RO} {F : Fr} {h : Heap} {own : Nat → Option (Nat × Nat)} {w : World} (R : RelO B F h own w) {a : Addr} {c : Bool} (hv : frozenH B h a = some c) : w.frozen? a = c := by
  unfold frozenH at hv
  split at hv
  · rename_i t fs n hb
    obtain ⟨_, _, cs, fr, h1, h2, h3, h4⟩ := R.obj _ _ hb
    split at hv
    · rename_i hlt
      cases hv
      obtain ⟨lo, hi⟩ := fr
      simp only [World.frozen?, h1]
      exact frozen_false h3 hlt
    · cases hv
  · rename_i c' e lo hi hb
    have h1 := (R.obj _ _ hb).2
    simp only [RepO] at h1
    cases hv
    simp [World.frozen?, h1]
  · rename_i o hne hb
    have h1 := (R.obj _ _ hb).2
    simp only [RepO] at h1
    cases hv
    simp only [World.frozen?, h1]
    split
    · rename_i heq; cases heq; exact absurd rfl (hne _ _ _ _)
    · rfl
  · split at hv
    · rename_i c' e lo hi hB
      have h1 := (R.ro _ _ hB).1
      cases hv
      simp [World.frozen?, h1]
    · rename_i o hne hB
      have h1 := (R.ro _ _ hB).1
      cases hv
      simp only [World.frozen?, h1]
      split
      · rename_i heq; cases heq; exact absurd rfl (hne _ _ _ _)
      · rfl
    · cases hv

theorem RelO.freeze {B : RO} {F : Fr} {h : Heap} {own : Nat → Option (Nat × Nat)} {w : World} (R : RelO B F h own w) {a : Addr} {n m : Nat} {t : TypeId} {fs : List Fld} (hb : h a.block = some (.vec t fs m)) (hm : m ≤ a.off ∧ t = 5) (hn : 0 < n) :
    RelO B F h own (w.freeze a n) := by
  obtain ⟨hob, hle, cs, fr, h1, h2, h3, h4⟩ := R.obj _ _ hb
  rw [← Heap.set_self h a.block _ hb]
  have hne : ∀ c, c ≠ a.block → (w.freeze a n).heap[c]? = w.heap[c]? := fun c hc => by
    simp only [World.freeze, if_neg (Nat.ne_of_gt hn)]
    exact modify_get w a.block _ c hc
  refine R.change (by simp [hb]) (by simp [World.freeze]; split <;> rfl) (by simp [World.freeze]; split <;> rfl) (by simp [World.freeze]; split <;> rfl) (by simp [World.freeze]; split <;> simp)
    (fun c hc _ => hne c hc) ?_
  obtain ⟨lo, hi⟩ := fr
  refine ⟨hle, cs, (if lo == hi then (a.off, a.off + n) else (min lo a.off, max hi (a.off + n))), ?_, h2, ?_, ?_⟩
  · simp only [World.freeze, if_neg (Nat.ne_of_gt hn), Array.getElem?_modify, if_true, h1, Option.map_some]
  · split
    · exact .inr ⟨hm.1, by simp, hm.2⟩
    · rename_i hne'
      rcases h3 with h3 | ⟨h3, h3', h3''⟩
      · exact absurd h3 (by simpa using hne')
      · have hm1 := hm.1
        refine .inr ⟨?_, ?_, h3''⟩ <;> simp only at h3 h3' ⊢ <;> omega
  · intro i u hu f hf
    exact (h4 i u hu f hf).keep (fun k hk => ⟨hk, hne k (fun e => by rw [e, hob] at hk; cases hk)⟩)

/-- SOUND: what the weakest precondition says, the model's run does. -/
theorem semH_sound {P : Program} {B : RO} {F : Fr} {α : Type} {s : Sem α} {K : α → Heap → Prop} : ∀ {h : Heap} {w : World}, semH P B s h K → Rel B F h w →
    ∃ a w' h', s.run P w = .ok a w' ∧ Rel B F h' w' ∧ K a h' := by
  induction s with
  | pure a => intro h w hs R; exact ⟨a, w, h, rfl, R, hs⟩
  | load m a k ih =>
    rintro h w ⟨v, hv, hs⟩ ⟨own, R⟩
    obtain ⟨x, w', h', hr, R', hK⟩ := ih v hs ⟨own, R⟩
    refine ⟨x, w', h', ?_, R', hK⟩
    simp only [Sem.run, R.cell hv]
    exact hr
  | store m a v k ih =>
    rintro h w ⟨h1, h2, hst, hs⟩ ⟨own, R⟩
    obtain ⟨⟨u, hu⟩, hf, R2⟩ := R.store hst
    obtain ⟨x, w', h', hr, R', hK⟩ := ih hs ⟨own, R2⟩
    refine ⟨x, w', h', ?_, R', hK⟩
    cases v <;> first
      | (simp [isOne] at h1; done)
      | (simp only [Sem.run, hu, hf]; exact hr)
  | new o k ih =>
    rintro h w hs ⟨own, R⟩
    obtain ⟨f1, f2, f3, f4⟩ := R.fresh
    obtain ⟨x, w', h', hr, R', hK⟩ := ih w.heap.size (hs _ f1 f2) ⟨own, R.push o⟩
    exact ⟨x, w', h', hr, R', hK⟩
  | shape r k ih =>
    rintro h w ⟨s, hv, hs⟩ ⟨own, R⟩
    obtain ⟨x, w', h', hr, R', hK⟩ := ih s hs ⟨own, R⟩
    exact ⟨x, w', h', by simp only [Sem.run, R.shape hv]; exact hr, R', hK⟩
  | freeze a n k ih =>
    rintro h w ⟨⟨t, fs, m, hb, hm⟩, hn, hs⟩ ⟨own, R⟩
    obtain ⟨x, w', h', hr, R', hK⟩ := ih hs ⟨own, R.freeze hb hm hn⟩
    exact ⟨x, w', h', hr, R', hK⟩
  | frozen a k ih =>
    rintro h w hs ⟨own, R⟩
    obtain ⟨x, w', h', hr, R', hK⟩ := ih (w.frozen? a) (hs _ (fun c hc => R.frozenAt hc)) ⟨own, R⟩
    exact ⟨x, w', h', by simp only [Sem.run]; exact hr, R', hK⟩
  | getObj r k ih =>
    rintro h w ⟨o, hb, hc, hs⟩ ⟨own, R⟩
    obtain ⟨x, w', h', hr, R', hK⟩ := ih o hs ⟨own, R⟩
    have h1 := (R.obj _ _ hb).2
    simp only [RepO] at h1
    refine ⟨x, w', h', ?_, R', hK⟩
    simp only [Sem.run, h1]
    cases o <;> first
      | (simp [Obj.isCell] at hc; done)
      | exact hr
  | setObj r o k ih =>
    rintro h w ⟨⟨o', hb, hc'⟩, hc, hs⟩ ⟨own, R⟩
    obtain ⟨hob, h1⟩ := R.obj _ _ hb
    simp only [RepO] at h1
    have hlt := lt_of_get h1
    have R2 : RelO B F (h.set r (.raw o)) own { w with heap := w.heap.setIfInBounds r o } :=
      R.change (by simp [hb]) rfl rfl rfl (by simp) (fun c hc _ => by simp only; rw [Array.getElem?_setIfInBounds_ne (Ne.symm hc)])
        (by simp only [RepO]; rw [Array.getElem?_setIfInBounds_self_of_lt hlt])
    obtain ⟨x, w', h', hr, R', hK⟩ := ih hs ⟨own, R2⟩
    refine ⟨x, w', h', ?_, R', hK⟩
    simp only [Sem.run, h1]
    cases o' <;> first
      | (simp [Obj.isCell] at hc'; done)
      | exact hr
  | choose q k ih =>
    rintro h w hs ⟨own, R⟩
    simp only [semH] at hs
    by_cases hf : q.forced = true
    · rw [if_pos hf] at hs
      obtain ⟨x, w', h', hr, R', hK⟩ := ih 0 hs ⟨own, R⟩
      exact ⟨x, w', h', by simp only [Sem.run]; rw [if_pos hf]; exact hr, R', hK⟩
    · rw [if_neg hf] at hs
      obtain ⟨x, w', h', hr, R', hK⟩ := ih _ (hs (w.tape w.drawn q)) ⟨own, R.of_heap_eq (w' := { w with drawn := w.drawn + 1 }) rfl rfl rfl rfl⟩
      exact ⟨x, w', h', by simp only [Sem.run]; rw [if_neg hf]; exact hr, R', hK⟩
  | sys c k ih => intro h w hs; exact hs.elim
  | program k ih =>
    rintro h w hs R
    obtain ⟨x, w', h', hr, R', hK⟩ := ih P hs R
    exact ⟨x, w', h', hr, R', hK⟩
  | mark m k ih =>
    rintro h w hs R
    obtain ⟨x, w', h', hr, R', hK⟩ := ih hs R
    exact ⟨x, w', h', hr, R', hK⟩
  | halt x => intro h w hs; exact hs.elim

end Go.Proofs.Ythloobpjkeodgaa.H
