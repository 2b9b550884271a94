/- The law CellSets. No condition. -/
import Derived.Test.YthlnibaechobmaaKm
import Derived.Test.YthlnibaechobmaaCa
namespace Go.Proofs.Ythlnibaechobmaa.H
open Go Go.RowKit
set_option linter.unusedVariables false
set_option maxRecDepth 100000

def SetR.ok (x : SetR) : Prop := True
theorem TK.sets_sl : PG.underlying TY.s_countermandref08_Set = some (.slice TY.countermandref08_Set) := by kernel_rfl
theorem TK.set_kd : leafB PG 5 TY.countermandref08_Set = some [.int .i64, .int .i64, .int .i64] := by kernel_rfl
theorem SetR_key {H : Type} {enc : TypeId × Value → H} {P : Program} {w : World} {base : Nat} {spare : Nat → Bool} {held : Bool} (vs : List Value) (h : KdsOk enc P w base spare held [.int .i64, .int .i64, .int .i64] vs) : ∃ x : SetR, vs = x.cells ∧ x.ok := by
  obtain ⟨z1, v1, rfl, _, h⟩ := h.int
  obtain ⟨z2, v2, rfl, _, h⟩ := h.int
  obtain ⟨z3, v3, rfl, _, h⟩ := h.int
  obtain rfl := h.nil
  exact ⟨⟨z1, z2, z3⟩, rfl, trivial⟩
theorem SetR_arg {H : Type} {enc : TypeId × Value → H} {w : World} {base : Nat} {spare : Nat → Bool} {held : Bool} {a : Option Addr} {len cap : Nat} {d : DataW H} {p : List MemPlace} (h : DataW.Trod enc PG w base spare held TY.s_countermandref08_Set (.slice a len cap) d p) :
    ∃ l : List SetR, len = l.length ∧ Reads (roOf w) noHeap a 3 SetR.cells l ∧ ∀ x ∈ l, x.ok :=
  arg_rows SetR.cells SetR.ok TK.sets_sl TK.set_kd rfl (by omega) SetR_key h

/-- The row and the answer tell the same. -/
def Same08 (n first : Int) (l : List (Int × Int)) (sets : List SetR) : Prop :=
  l.length = n.toNat ∧ ∀ i : Int, cellAt_int l i = ref08At (max n 0) first sets i
theorem Same08.init (n first : Int) : Same08 n first (List.replicate n.toNat (first, 0)) [] := by
  refine ⟨List.length_replicate, fun i => ?_⟩
  unfold ref08At
  by_cases hi : 0 ≤ i ∧ i < max n 0
  · rw [if_pos hi, cellAt_int_in hi.1 (by rw [List.length_replicate]; omega)]
    simp [lastSet]
  · rw [if_neg hi, cellAt_int_out (by rw [List.length_replicate]; omega)]
theorem lastSet_append (l : List SetR) (x : SetR) (i : Int) : lastSet (l ++ [x]) i = if x.i = i then some x else lastSet l i := by
  unfold lastSet
  rw [List.reverse_append, List.reverse_singleton, List.singleton_append, List.find?_cons]
  by_cases h : x.i = i
  · have e : (x.i == i) = true := by simpa using h
    rw [e, if_pos h]
  · have e : (x.i == i) = false := by simpa using h
    rw [e, if_neg h]
theorem Same08.set {n first : Int} {l : List (Int × Int)} {sets : List SetR} (s : Same08 n first l sets) (x : SetR) (h0 : 0 ≤ x.i) (h1 : x.i < max n 0) : Same08 n first (l.set x.i.toNat (x.value, x.version)) (sets ++ [x]) := by
  refine ⟨by rw [List.length_set]; exact s.1, fun i => ?_⟩
  have hl := s.1
  by_cases hi : 0 ≤ i ∧ i < max n 0
  · have h2 := s.2 i
    unfold ref08At at h2 ⊢
    rw [if_pos hi] at h2 ⊢
    rw [cellAt_int_in hi.1 (by rw [List.length_set]; omega), lastSet_append]
    rw [cellAt_int_in hi.1 (by omega)] at h2
    by_cases he : x.i = i
    · rw [if_pos he]; subst he
      simp
    · rw [if_neg he, List.getElem_set_ne (by omega)]
      exact h2
  · unfold ref08At
    rw [if_neg hi, cellAt_int_out (by rw [List.length_set]; omega)]

section
variable {B : RO} {h0 h : Heap}
/-- A result that lies in a captured variable is told. -/
theorem ret8 {k8 : Nat} {v : Bool} {u : Value} {Q : Bool → Heap → Prop} (p8 : PF h k8 0 u) (le : Le h0 h) (z : h0 k8 = none) (hQ : Q v h0) :
    ∃ h', storeH h ⟨k8, 0, none⟩ (Value.bool v) = some h' ∧ ∃ b : Bool, cellH B h' ⟨k8, 0, none⟩ = some (Value.bool b) ∧ Fin B h' (Q b) := by
  obtain ⟨t, fs, n, hb, hi⟩ := p8
  have hl := (List.getElem?_eq_some_iff.1 hi).1
  exact ⟨_, storeH_vec hb hi, v, cellH_vec (Heap.set_same _ _ _) (by simp [hl]), Fin.ent (Ent.forget (le.set z)) (Fin.of hQ)⟩
/-- The answer's row. -/
def ans8 (n first : Int) (sets : List SetR) : AObj := .vec TY.countermandref08_Row [.plain (.int .i64 n), .plain (.int .i64 first), .own TY.countermandref08_Set 3 (sets.flatMap SetR.cells)] 3
/-- What holds while the sets are played. -/
structure CS (B : RO) (h0 : Heap) (k8 k17 k18 k20 k22 : Nat) (n first : Int) (l : List (Int × Int)) (sets : List SetR) (h : Heap) : Prop where
  le : Le h0 h
  nw : NewOver B h0 h
  p8 : ∃ b : Bool, PF h k8 0 (.bool b)
  r : h k17 = some (rowO_int l)
  ans : h k18 = some (ans8 (max n 0) first sets)
  p20 : PF h k20 0 (.pointer (some ⟨k17, 0, none⟩))
  p22 : PF h k22 0 (.pointer (some ⟨k18, 0, none⟩))
theorem PF.le {b i : Nat} {v : Value} {h' : Heap} (f : PF h b i v) (w : Le h h') : PF h' b i v := let ⟨t, fs, n, hb, hi⟩ := f; ⟨t, fs, n, w _ _ hb, hi⟩
theorem FV.le {b i : Nat} {e : TypeId} {sz : Nat} {xs : List Value} {h' : Heap} (f : FV h b i e sz xs) (w : Le h h') : FV h' b i e sz xs := by
  rcases f with ⟨t, fs, n, hb, hi⟩ | ⟨t, fs, n, a, m, c, hb, hi, hr⟩
  · exact .inl ⟨t, fs, n, w _ _ hb, hi⟩
  · exact .inr ⟨t, fs, n, a, m, c, w _ _ hb, hi, hr.wk w⟩
theorem CS.an {k8 k17 k18 k20 k22 : Nat} {n first : Int} {l : List (Int × Int)} {sets : List SetR} (s : CS B h0 k8 k17 k18 k20 k22 n first l sets h) : PF h k18 0 (.int .i64 (max n 0)) := ⟨_, _, _, s.ans, rfl⟩
theorem CS.af {k8 k17 k18 k20 k22 : Nat} {n first : Int} {l : List (Int × Int)} {sets : List SetR} (s : CS B h0 k8 k17 k18 k20 k22 n first l sets h) : PF h k18 1 (.int .i64 first) := ⟨_, _, _, s.ans, rfl⟩
theorem CS.aset {k8 k17 k18 k20 k22 : Nat} {n first : Int} {l : List (Int × Int)} {sets : List SetR} (s : CS B h0 k8 k17 k18 k20 k22 n first l sets h) : FV h k18 2 TY.countermandref08_Set 3 (sets.flatMap SetR.cells) := .inl ⟨_, _, _, s.ans, rfl⟩
theorem CS.wk {k8 k17 k18 k20 k22 : Nat} {n first : Int} {l : List (Int × Int)} {sets : List SetR} {h' : Heap} (s : CS B h0 k8 k17 k18 k20 k22 n first l sets h) (w : Wk B h h') : CS B h0 k8 k17 k18 k20 k22 n first l sets h' :=
  ⟨s.le.trans w.1, s.nw.trans w.2, s.p8.imp fun _ p => p.le w.1, w.1 _ _ s.r, w.1 _ _ s.ans, s.p20.le w.1, s.p22.le w.1⟩
end
end Go.Proofs.Ythlnibaechobmaa.H
