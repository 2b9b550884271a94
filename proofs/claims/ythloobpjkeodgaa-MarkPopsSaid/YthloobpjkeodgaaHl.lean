/- The heap logic, part 12: what a row says of an argument, cell by cell. No condition. -/
import Derived.Test.YthloobpjkeodgaaHk
import Derived.ChangeArms
import Derived.OpenShut
namespace Go.Proofs.Ythloobpjkeodgaa.H
open Go Go.RowKit
set_option linter.unusedVariables false

section
variable {H : Type} {enc : TypeId × Value → H} {P : Program} {w : World} {base : Nat} {spare : Nat → Bool} {held : Bool}

/-- The kinds of a type's cells. -/
inductive Kd where
  | int (k : IntKind)
  | bool
  | str
  | sl (t e : TypeId)

def KdOk (enc : TypeId × Value → H) (P : Program) (w : World) (base : Nat) (spare : Nat → Bool) (held : Bool) : Kd → Value → Prop
  | .int k, v => ∃ z, v = .int k z ∧ (Lit.int k z).wf = true
  | .bool, v => ∃ b, v = .bool b
  | .str, v => ∃ s, v = .string s ∧ s.size ≤ maxLen
  | .sl t e, v => P.underlying t = some (.slice e) ∧ ∃ n x, DataW.trod enc P w base spare held n t [v] = some x

def KdsOk (enc : TypeId × Value → H) (P : Program) (w : World) (base : Nat) (spare : Nat → Bool) (held : Bool) : List Kd → List Value → Prop
  | [], [] => True
  | k :: ks, v :: vs => KdOk enc P w base spare held k v ∧ KdsOk enc P w base spare held ks vs
  | _, _ => False

theorem KdsOk.append : ∀ {ks ks' : List Kd} {vs vs' : List Value}, KdsOk enc P w base spare held ks vs → KdsOk enc P w base spare held ks' vs' → KdsOk enc P w base spare held (ks ++ ks') (vs ++ vs')
  | [], _, [], _, _, h => h
  | _ :: _, _, _ :: _, _, h, h' => ⟨h.1, h.2.append h'⟩
  | [], _, _ :: _, _, h, _ => h.elim
  | _ :: _, _, [], _, h, _ => h.elim
theorem KdsOk.length : ∀ {ks : List Kd} {vs : List Value}, KdsOk enc P w base spare held ks vs → ks.length = vs.length
  | [], [], _ => rfl
  | _ :: _, _ :: _, h => by simp [h.2.length]
  | [], _ :: _, h => h.elim
  | _ :: _, [], h => h.elim

theorem KdsOk.nil {vs : List Value} (h : KdsOk enc P w base spare held [] vs) : vs = [] := by
  cases vs with
  | nil => rfl
  | cons v vs => exact h.elim
theorem KdsOk.int {k : IntKind} {ks : List Kd} {vs : List Value} (h : KdsOk enc P w base spare held (.int k :: ks) vs) : ∃ z vs', vs = .int k z :: vs' ∧ (Lit.int k z).wf = true ∧ KdsOk enc P w base spare held ks vs' := by
  cases vs with
  | nil => exact h.elim
  | cons v vs => obtain ⟨⟨z, e, hz⟩, h2⟩ := h; exact ⟨z, vs, by rw [e], hz, h2⟩
theorem KdsOk.bool {ks : List Kd} {vs : List Value} (h : KdsOk enc P w base spare held (.bool :: ks) vs) : ∃ b vs', vs = .bool b :: vs' ∧ KdsOk enc P w base spare held ks vs' := by
  cases vs with
  | nil => exact h.elim
  | cons v vs => obtain ⟨⟨b, e⟩, h2⟩ := h; exact ⟨b, vs, by rw [e], h2⟩
theorem KdsOk.str {ks : List Kd} {vs : List Value} (h : KdsOk enc P w base spare held (.str :: ks) vs) : ∃ s vs', vs = .string s :: vs' ∧ s.size ≤ maxLen ∧ KdsOk enc P w base spare held ks vs' := by
  cases vs with
  | nil => exact h.elim
  | cons v vs => obtain ⟨⟨s, e, hs⟩, h2⟩ := h; exact ⟨s, vs, by rw [e], hs, h2⟩
theorem KdsOk.sl {t e : TypeId} {ks : List Kd} {vs : List Value} (h : KdsOk enc P w base spare held (.sl t e :: ks) vs) : ∃ v vs', vs = v :: vs' ∧ P.underlying t = some (.slice e) ∧ (∃ n x, DataW.trod enc P w base spare held n t [v] = some x) ∧ KdsOk enc P w base spare held ks vs' := by
  cases vs with
  | nil => exact h.elim
  | cons v vs => obtain ⟨⟨e, hs⟩, h2⟩ := h; exact ⟨v, vs, rfl, e, hs, h2⟩

def seqB (P : Program) (L : TypeId → Option (List Kd)) : Nat → List Field → Option (List Kd)
  | _, [] => some []
  | o, f :: fs => match L f.type with
    | some l => if f.offset = o ∧ P.cellsOf f.type = l.length then (seqB P L (o + l.length) fs).map (l ++ ·) else none
    | none => none
def leafB (P : Program) : Nat → TypeId → Option (List Kd)
  | 0, _ => none
  | n + 1, t => match P.underlying t with
    | some .bool => some [.bool]
    | some (.int k) => some [.int k]
    | some .string => some [.str]
    | some (.slice e) => some [.sl t e]
    | some (.struct fs) => match seqB P (leafB P n) 0 fs.toList with
      | some l => if P.cellsOf t = l.length then some l else none
      | none => none
    | some (.array len e) => match leafB P n e with
      | some l => if P.cellsOf e = l.length ∧ P.cellsOf t = len * l.length then some (List.replicate len l).flatten else none
      | none => none
    | _ => none

theorem rep_ok {l : List Kd} {c : Nat} (hc : c = l.length) (cs : List Value) : ∀ (n o : Nat), (∀ i, i < n → KdsOk enc P w base spare held l ((cs.drop ((o + i) * c)).take c)) → KdsOk enc P w base spare held (List.replicate n l).flatten ((cs.drop (o * c)).take (n * c))
  | 0, o, _ => by simp [KdsOk]
  | n + 1, o, h => by
    have a := h 0 (by omega)
    have b := rep_ok hc cs n (o + 1) (fun i hi => by
      have := h (i + 1) (by omega)
      rwa [show o + (i + 1) = o + 1 + i by omega] at this)
    have ab := a.append b
    rw [List.replicate_succ, List.flatten_cons, show (n + 1) * c = c + n * c by rw [Nat.add_mul]; omega, List.take_add, List.drop_drop]
    rw [Nat.add_zero] at ab
    rw [show o * c + c = (o + 1) * c by rw [Nat.add_mul]; omega]
    exact ab
theorem seqB_ok {m : Nat} (ih : ∀ t cs ks n x, DataW.trod enc P w base spare held n t cs = some x → leafB P m t = some ks → KdsOk enc P w base spare held ks cs) (cs : List Value) :
    ∀ (fs : List Field) (o : Nat) (ks : List Kd), (∀ f ∈ fs, ∃ n y, DataW.trod enc P w base spare held n f.type ((cs.drop f.offset).take (P.cellsOf f.type)) = some y) → seqB P (leafB P m) o fs = some ks → KdsOk enc P w base spare held ks ((cs.drop o).take ks.length)
  | [], o, ks, _, h => by simp only [seqB, Option.some.injEq] at h; subst h; simp [KdsOk]
  | f :: fs, o, ks, hf, h => by
    simp only [seqB] at h
    split at h
    · rename_i l hl
      split at h
      · rename_i hc
        obtain ⟨ks', h1, rfl⟩ := Option.map_eq_some_iff.1 h
        obtain ⟨n, y, hy⟩ := hf f (by simp)
        have a := ih _ _ _ _ _ hy hl
        have b := seqB_ok ih cs fs (o + l.length) ks' (fun g hg => hf g (by simp [hg])) h1
        rw [hc.1, hc.2] at a
        have := a.append b
        rw [List.length_append, List.take_add, List.drop_drop]
        exact this
      · cases h
    · cases h

theorem leafB_ok : ∀ (m : Nat) (t : TypeId) (cs : List Value) (ks : List Kd) (n : Nat) (x : DataW H × List MemPlace), DataW.trod enc P w base spare held n t cs = some x → leafB P m t = some ks → KdsOk enc P w base spare held ks cs
  | 0, _, _, _, _, _, _, h => by cases h
  | m + 1, t, cs, ks, n, x, hx, h => by
    simp only [leafB] at h
    split at h
    · rename_i ht
      obtain ⟨b, rfl, _⟩ := DataW.trod_bool ht hx
      cases h
      exact ⟨⟨b, rfl⟩, trivial⟩
    · rename_i k ht
      obtain ⟨z, rfl, _, hz⟩ := DataW.trod_int ht hx
      cases h
      exact ⟨⟨z, rfl, hz⟩, trivial⟩
    · rename_i ht
      obtain ⟨s, rfl, _, hs⟩ := DataW.trod_string ht hx
      cases h
      exact ⟨⟨s, rfl, hs⟩, trivial⟩
    · rename_i e ht
      cases h
      rcases DataW.trod_slice ht hx with ⟨rfl, _⟩ | ⟨a, len, cap, _, _, _, _, rfl, _⟩
      · exact ⟨⟨ht, _, _, hx⟩, trivial⟩
      · exact ⟨⟨ht, _, _, hx⟩, trivial⟩
    · rename_i fs ht
      obtain ⟨xs, n', rfl, _, hl, hxl, hf⟩ := DataW.trod_struct ht hx
      split at h
      · rename_i l hs
        split at h
        · rename_i hc
          cases h
          have := seqB_ok (leafB_ok m) cs fs.toList 0 ks (fun f hm => by
            obtain ⟨i, hi, rfl⟩ := List.mem_iff_getElem.1 hm
            have h1 := hf i fs[i] (by simp)
            rw [List.getElem?_eq_getElem (by rw [hxl]; simpa using hi)] at h1
            exact ⟨_, _, by simpa using h1⟩) hs
          rwa [List.drop_zero, List.take_of_length_le (by omega)] at this
        · cases h
      · cases h
    · rename_i len e ht
      obtain ⟨xs, n', rfl, _, hl, hxl, hf⟩ := DataW.trod_array ht hx
      split at h
      · rename_i l hs
        split at h
        · rename_i hc
          cases h
          have := rep_ok (enc := enc) (P := P) (w := w) (base := base) (spare := spare) (held := held) hc.1 cs len 0 (fun i hi => by
            have h1 := hf i hi
            rw [List.getElem?_eq_getElem (by rw [hxl]; exact hi)] at h1
            rw [Nat.zero_add]
            exact leafB_ok m e _ l _ _ h1 hs)
          rwa [Nat.zero_mul, List.drop_zero, List.take_of_length_le (by rw [hl, hc.2, hc.1]; omega)] at this
        · cases h
      · cases h
    · cases h

theorem arg_agg {m : Nat} {t : TypeId} {ks : List Kd} {cs : Array Value} {d : DataW H} {p : List MemPlace} (hk : leafB P m t = some ks) (h : DataW.Trod enc P w base spare held t (.agg cs) d p) : KdsOk enc P w base spare held ks cs.toList := by
  obtain ⟨n, hn⟩ := h
  exact leafB_ok m t cs.toList ks n _ hn hk
theorem list_of {α : Type} {R : Nat → α → Prop} : ∀ n, (∀ i, i < n → ∃ x, R i x) → ∃ l : List α, l.length = n ∧ ∀ i x, l[i]? = some x → R i x
  | 0, _ => ⟨[], rfl, fun i x h => by cases h⟩
  | n + 1, h => by
    obtain ⟨l, h1, h2⟩ := list_of n (fun i hi => h i (by omega))
    obtain ⟨x, hx⟩ := h n (by omega)
    refine ⟨l ++ [x], by simp [h1], fun i y hy => ?_⟩
    by_cases hi : i < n
    · rw [List.getElem?_append_left (by omega)] at hy; exact h2 i y hy
    · rw [List.getElem?_append_right (by omega)] at hy
      have : i = n := by
        have := (List.getElem?_eq_some_iff.1 hy).1
        simp at this; omega
      subst this
      rw [h1, Nat.sub_self] at hy
      cases hy; exact hx

theorem cellH_ro' {A : Addr} : cellH (roOf w) noHeap A = w.cell? A := by
  unfold cellH roOf noHeap World.cell?
  cases A.spot with
  | none => simp; rfl
  | some n => simp; split <;> rfl

theorem mapM_cells {A : Addr} : ∀ (vs : List Value) (i : Nat), (∀ j v, vs[j]? = some v → w.cell? (A.add (i + j)) = some v) → CellsAt (roOf w) noHeap A i vs
  | [], _, _ => trivial
  | v :: vs, i, h => ⟨by rw [cellH_ro']; exact h 0 v rfl, mapM_cells vs (i + 1) fun j u hu => by rw [show i + 1 + j = i + (j + 1) by omega]; exact h (j + 1) u hu⟩

/-- A slice's things, one by one, by the kinds of their cells. -/
theorem trod_rows {t e : TypeId} {m n : Nat} {ks : List Kd} {a : Option Addr} {len cap : Nat} {x : DataW H × List MemPlace} (ht : P.underlying t = some (.slice e)) (hk : leafB P m e = some ks) (h : DataW.trod enc P w base spare held n t [.slice a len cap] = some x) :
    len ≤ cap ∧ cap ≤ maxLen ∧ ∀ i, i < len → ∃ A vs, a = some A ∧ P.cellsOf e = vs.length ∧ CellsAt (roOf w) noHeap (A.add (i * vs.length)) 0 vs ∧ KdsOk enc P w base spare held ks vs := by
  rcases DataW.trod_slice ht h with ⟨e0, _⟩ | ⟨A, len', cap', elems, rest, n', _, e0, _, hb, h1, h2, h3, h4, _⟩
  · cases e0
    exact ⟨Nat.le_refl _, by simp [maxLen], fun i hi => by omega⟩
  · cases e0
    refine ⟨h1, h2, fun i hi => ?_⟩
    have := h4 i hi
    rw [List.getElem?_eq_getElem (by omega)] at this
    obtain ⟨vs, h5, h6⟩ := Option.bind_eq_some_iff.1 this
    have hok := leafB_ok m e vs ks _ _ h6 hk
    have hb' : base ≤ (A.add (i * P.cellsOf e)).block := by unfold Addr.add; split <;> exact hb
    rw [World.cells?, if_pos hb'] at h5
    have hl := mapM_some_length h5
    rw [List.length_range] at hl
    refine ⟨A, vs, rfl, hl.symm, ?_, hok⟩
    rw [hl]
    refine mapM_cells vs 0 fun j v hj => ?_
    have hjl := (List.getElem?_eq_some_iff.1 hj).1
    have hr : (List.range (P.cellsOf e))[j]? = some j := by rw [List.getElem?_range (by omega)]
    have := mapM_some_get h5 j j hr
    rw [Nat.zero_add, this, hj]
end
theorem stores_whole {h : Heap} {k nn : Nat} {t : TypeId} {us vs : List Value} (hb : h k = some (.vec t (plains us) nn)) (hl : us.length = vs.length) (hn : vs.length ≤ nn) (hv : ∀ v ∈ vs, isOne v = true) (hne : vs ≠ []) :
    StoresAt ⟨k, 0, none⟩ h 0 vs (h.set k (.vec t (plains vs) nn)) := by
  obtain ⟨h', s1, _, s3⟩ := StoresAt.over vs h 0 0 [] us hv hb rfl (by omega)
  have := s3 hne
  rw [List.nil_append, ← hl, List.drop_length, List.append_nil] at this
  rw [← this]; exact s1
theorem CellsAt.set {B : RO} {h : Heap} {A : Addr} {b : Nat} {o : AObj} (hn : A.block ≠ b) : ∀ {vs : List Value} {i : Nat}, CellsAt B h A i vs → CellsAt B (h.set b o) A i vs
  | [], _, _ => trivial
  | v :: vs, i, h => ⟨by rw [cellH_set_ne (by unfold Addr.add; split <;> exact hn)]; exact h.1, CellsAt.set hn h.2⟩
/-- A list of things that is read from outside: each at its place, of 'n' cells, none of it among the blocks that one has oneself. -/
def Reads (B : RO) (h : Heap) (a : Option Addr) (n : Nat) {α : Type} (cells : α → List Value) (l : List α) : Prop :=
  ∀ i x, l[i]? = some x → ∃ A, a = some A ∧ (h A.block = none → B A.block ≠ none) ∧ CellsAt B h (A.add (i * n)) 0 (cells x)
theorem Addr.add_block' {A : Addr} {n : Nat} : (A.add n).block = A.block := by unfold Addr.add; split <;> rfl
theorem cellH_ro_eq {B : RO} {h h' : Heap} {A : Addr} (e : h' A.block = h A.block) : cellH B h' A = cellH B h A := by
  unfold cellH; rw [e]
theorem CellsAt.keep {B : RO} {h h' : Heap} {A : Addr} (e : h' A.block = h A.block) : ∀ {vs : List Value} {i : Nat}, CellsAt B h A i vs → CellsAt B h' A i vs
  | [], _, _ => trivial
  | v :: vs, i, c => ⟨by rw [cellH_ro_eq (h := h) (by rw [Addr.add_block']; exact e)]; exact c.1, CellsAt.keep e c.2⟩
/-- New blocks are none of those that are read. -/
def NewOver (B : RO) (h h' : Heap) : Prop := ∀ c, B c ≠ none → h c = none → h' c = none
theorem NewOver.refl (B : RO) (h : Heap) : NewOver B h h := fun _ _ e => e
theorem NewOver.set {B : RO} {h h' : Heap} {k : Nat} {o : AObj} (n : NewOver B h h') (hk : B k = none) : NewOver B h (h'.set k o) := fun c hc hh => by
  rw [Heap.set_ne _ _ _ _ (fun e => by rw [e, hk] at hc; exact hc rfl)]; exact n c hc hh
theorem NewOver.trans {B : RO} {h h' h'' : Heap} (n : NewOver B h h') (m : NewOver B h' h'') : NewOver B h h'' := fun c hc hh => m c hc (n c hc hh)
theorem Reads.over {B : RO} {h h' : Heap} {a : Option Addr} {n : Nat} {α : Type} {cells : α → List Value} {l : List α} (r : Reads B h a n cells l) (hl : Le h h') (hn : NewOver B h h') : Reads B h' a n cells l := by
  intro i x hx
  obtain ⟨A, e, e2, c⟩ := r i x hx
  have key : h' A.block = h A.block := by
    cases hb : h A.block with
    | none => exact hn _ (e2 hb) hb
    | some o => exact hl _ _ hb
  refine ⟨A, e, fun hh => e2 (by rw [← key]; exact hh), c.keep (by rw [Addr.add_block', key])⟩
theorem wf64 {n : Int} (h : (Lit.int .i64 n).wf = true) : -9223372036854775808 ≤ n ∧ n ≤ 9223372036854775807 := by
  simpa [Lit.wf, IntKind.min, IntKind.max, IntKind.signed, IntKind.bits] using h
/-- An argument that is a slice, as a list of things. -/
theorem arg_rows {H : Type} {enc : TypeId × Value → H} {P : Program} {w : World} {base : Nat} {spare : Nat → Bool} {held : Bool} {α : Type} (cells : α → List Value) (ok : α → Prop) {t e : TypeId} {m sz : Nat} {ks : List Kd} {a : Option Addr} {len cap : Nat} {d : DataW H} {p : List MemPlace}
    (ht : P.underlying t = some (.slice e)) (hk : leafB P m e = some ks) (hsz : ks.length = sz) (h0 : 0 < sz) (hval : ∀ vs, KdsOk enc P w base spare held ks vs → ∃ x, vs = cells x ∧ ok x) (h : DataW.Trod enc P w base spare held t (.slice a len cap) d p) :
    ∃ l : List α, len = l.length ∧ Reads (roOf w) noHeap a sz cells l ∧ ∀ x ∈ l, ok x := by
  obtain ⟨n, hn⟩ := h
  obtain ⟨h1, h2, h3⟩ := trod_rows ht hk (show DataW.trod enc P w base spare held n t [.slice a len cap] = some (d, p) from hn)
  obtain ⟨l, hl, hx⟩ := list_of (α := α) (R := fun i x => (∃ A, a = some A ∧ (noHeap A.block = none → roOf w A.block ≠ none) ∧ CellsAt (roOf w) noHeap (A.add (i * sz)) 0 (cells x)) ∧ ok x) len (fun i hi => by
    obtain ⟨A, vs, e1, e2, e3, e4⟩ := h3 i hi
    obtain ⟨x, rfl, hx⟩ := hval vs e4
    have hlen := e4.length
    rw [hsz] at hlen
    rw [← hlen] at e3
    refine ⟨x, ⟨A, e1, fun _ => ?_, e3⟩, hx⟩
    cases hc : cells x with
    | nil => rw [hc] at hlen; simp at hlen; omega
    | cons v vs =>
      rw [hc] at e3
      intro hb
      have := e3.1
      unfold cellH at this
      rw [Addr.add_block', Addr.add_block', hb] at this
      simp [noHeap] at this)
  refine ⟨l, hl.symm, fun i x hi => (hx i x hi).1, fun x hm => ?_⟩
  obtain ⟨i, hi, rfl⟩ := List.mem_iff_getElem.1 hm
  exact (hx i _ (List.getElem?_eq_getElem hi)).2
end Go.Proofs.Ythloobpjkeodgaa.H
