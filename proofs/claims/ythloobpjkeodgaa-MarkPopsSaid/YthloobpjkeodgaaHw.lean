/- The heap logic, part 23: what slices.Insert does. No condition. -/
import Derived.Test.YthloobpjkeodgaaHv
namespace Go.Proofs.Ythloobpjkeodgaa.H
open Go
set_option linter.unusedVariables false
set_option maxRecDepth 100000

/-- A list, begun elsewhere. -/
def rotL {α : Type} (l : List α) (p : Nat) : List α := l.drop p ++ l.take p
theorem rotL_len {α : Type} (l : List α) (p : Nat) : (rotL l p).length = l.length := by unfold rotL; rw [List.length_append, List.length_drop, List.length_take]; omega
theorem rotL_perm {α : Type} (l : List α) (p : Nat) : (rotL l p).Perm l := by
  have := List.perm_append_comm (l₁ := l.drop p) (l₂ := l.take p)
  rw [List.take_append_drop] at this
  exact this
theorem rotL_get {α : Type} (l : List α) (p j : Nat) (hp : p ≤ l.length) (hj : j < l.length) : (rotL l p)[j]? = l[(j + p) % l.length]? := by
  unfold rotL
  by_cases h : j + p < l.length
  · rw [List.getElem?_append_left (by rw [List.length_drop]; omega), List.getElem?_drop, Nat.mod_eq_of_lt h, Nat.add_comm]
  · rw [List.getElem?_append_right (by rw [List.length_drop]; omega), List.length_drop, Nat.mod_eq_sub_mod (by omega), Nat.mod_eq_of_lt (by omega), List.getElem?_take_of_lt (by omega)]
    congr 1; omega
section
variable {P : Program} {B : RO} {h0 h h' : Heap} {L : List (Option (Nat × AObj))} {r : Option (Nat × AObj)} {e : TypeId} {sz : Nat} {xs : List Value} {a : Option Addr} {m c : Nat}
theorem optAddZ (a : Option Addr) (n k : Nat) : (if n = 0 then a else Option.map (fun x => Addr.add x (0 * k)) a) = a := by
  split
  · rfl
  · cases a
    · rfl
    · show some (Addr.add _ (0 * k)) = _
      rw [Nat.zero_mul]; rfl
theorem up_app {L : List (Option (Nat × AObj))} {j : Nat} {x : Option (Nat × AObj)} (y : List (Option (Nat × AObj))) (hj : L[j]? = some x) : (L ++ y)[j]? = some x := by
  rw [List.getElem?_append_left (List.getElem?_eq_some_iff.1 hj).1]; exact hj
/-- Blocks listed in another way. -/
theorem Keep.remap {L' : List (Option (Nat × AObj))} (E : Keep B h0 L h) (f : Nat → Nat) (hf : ∀ (i : Nat) (y : Nat × AObj), L'[i]? = some (some y) → L[f i]? = some (some y)) (hi : ∀ i j, i < L'.length → j < L'.length → f i = f j → i = j) : Keep B h0 L' h :=
  ⟨E.le, E.nw, fun i k o e => E.z _ k o (hf i _ e), fun i k o e => E.get _ k o (hf i _ e), fun i j k o o' e e' => hi i j (List.getElem?_eq_some_iff.1 e).1 (List.getElem?_eq_some_iff.1 e').1 (E.nd _ _ _ _ _ (hf i _ e) (hf j _ e'))⟩
theorem Keep.swapLast {x y : Option (Nat × AObj)} (E : Keep B h0 (L ++ [x] ++ [y]) h) : Keep B h0 (L ++ [y] ++ [x]) h := by
  refine E.remap (fun i => if i < L.length then i else if i = L.length then L.length + 1 else L.length) (fun i z hi => ?_) (fun i j hi hj e => ?_)
  · have hl := (List.getElem?_eq_some_iff.1 hi).1
    simp only [List.length_append, List.length_cons, List.length_nil] at hl
    rw [List.append_assoc] at hi ⊢
    by_cases h1 : i < L.length
    · rw [List.getElem?_append_left h1] at hi
      rw [if_pos h1, List.getElem?_append_left h1]; exact hi
    · rw [List.getElem?_append_right (by omega)] at hi
      by_cases h2 : i = L.length
      · rw [if_neg h1, if_pos h2, List.getElem?_append_right (by omega), show L.length + 1 - L.length = 1 by omega]
        rw [h2, Nat.sub_self] at hi
        exact hi
      · rw [if_neg h1, if_neg h2, List.getElem?_append_right (by omega), Nat.sub_self]
        rw [show i - L.length = 1 by omega] at hi
        exact hi
  · simp only [List.length_append, List.length_cons, List.length_nil] at hi hj
    have e : (if i < L.length then i else if i = L.length then L.length + 1 else L.length) = (if j < L.length then j else if j = L.length then L.length + 1 else L.length) := e
    split at e <;> split at e <;> (try split at e) <;> (try split at e) <;> omega
/-- The last block takes another one's place. -/
theorem Keep.moveLast {x : Option (Nat × AObj)} (E : Keep B h0 (L ++ [x]) h) (q : Nat) : Keep B h0 (L.set q x) h := by
  let f : Nat → Nat := fun i => if i = q then L.length else i
  have key : ∀ (i : Nat) (y : Nat × AObj), (L.set q x)[i]? = some (some y) → (L ++ [x])[f i]? = some (some y) ∧ i < L.length := fun i y hi => by
    have hl := (List.getElem?_eq_some_iff.1 hi).1
    rw [List.length_set] at hl
    by_cases h : i = q
    · subst h
      rw [List.getElem?_set_self hl] at hi
      simp [f]; exact ⟨Option.some.inj hi, hl⟩
    · rw [List.getElem?_set_ne (Ne.symm h)] at hi
      simp only [f, if_neg h]
      rw [List.getElem?_append_left hl]; exact ⟨hi, hl⟩
  refine ⟨E.le, E.nw, fun i k o e => E.z _ k o (key i _ e).1, fun i k o e => E.get _ k o (key i _ e).1, fun i j k o o' e e' => ?_⟩
  obtain ⟨a1, a2⟩ := key i _ e
  obtain ⟨b1, b2⟩ := key j _ e'
  have := E.nd _ _ _ _ _ a1 b1
  simp only [f] at this
  by_cases h1 : i = q <;> by_cases h2 : j = q
  · rw [h1, h2]
  · rw [if_pos h1, if_neg h2] at this; omega
  · rw [if_neg h1, if_pos h2] at this; omega
  · rw [if_neg h1, if_neg h2] at this; exact this
theorem Keep.storesV (E : Keep B h0 L h) (i : Nat) {k nn : Nat} {t : TypeId} {fs gs : List Value} (hi : L[i]? = some (some (k, .vec t (plains (fs ++ gs)) nn))) (ys : List Value) (ho : ∀ y ∈ ys, isOne y = true) (o : Nat) (hf : fs.length = o) (hn : o + ys.length ≤ nn) :
    ∃ h', StoresAt ⟨k, o, none⟩ h 0 ys h' ∧ Keep B h0 (L.set i (some (k, .vec t (plains (fs ++ ys ++ gs.drop ys.length)) nn))) h' := by
  obtain ⟨h', s1, s2, s3⟩ := StoresAt.over ys h o 0 fs gs ho (E.at i hi) (by omega) (by omega)
  refine ⟨h', s1, ?_⟩
  by_cases hy : ys = []
  · rw [s2 hy, hy]
    have : L.set i (some (k, .vec t (plains (fs ++ [] ++ gs.drop ([] : List Value).length)) nn)) = L := by
      obtain ⟨hl, e⟩ := List.getElem?_eq_some_iff.1 hi
      rw [List.append_nil, List.length_nil, List.drop_zero, ← e]; exact List.set_getElem_self hl
    rw [this]; exact E
  · rw [s3 hy]; exact E.put i hi
theorem Keep.storesLast {k nn : Nat} {t : TypeId} {fs gs : List Value} (E : Keep B h0 (L ++ [some (k, .vec t (plains (fs ++ gs)) nn)]) h) (ys : List Value) (ho : ∀ y ∈ ys, isOne y = true) (o : Nat) (hf : fs.length = o) (hn : o + ys.length ≤ nn) :
    ∃ h', StoresAt ⟨k, o, none⟩ h 0 ys h' ∧ Keep B h0 (L ++ [some (k, .vec t (plains (fs ++ ys ++ gs.drop ys.length)) nn)]) h' := by
  obtain ⟨h', s, E'⟩ := E.storesV L.length (by rw [List.getElem?_append_right (Nat.le_refl _), Nat.sub_self]; rfl) ys ho o hf hn
  rw [List.set_append_right _ _ (Nat.le_refl _), Nat.sub_self] at E'
  exact ⟨h', s, E'⟩
theorem Keep.cellsV (E : Keep B h0 L h) (i : Nat) {k nn : Nat} {t : TypeId} {fs ys gs : List Value} (hi : L[i]? = some (some (k, .vec t (plains (fs ++ ys ++ gs)) nn))) (o : Nat) (hf : fs.length = o) : CellsAt B h ⟨k, o, none⟩ 0 ys :=
  CellsAt.of_vec ys 0 (E.at i hi) fun j y hj => by
    have hl := (List.getElem?_eq_some_iff.1 hj).1
    rw [plains_get, Nat.add_zero, List.append_assoc, List.getElem?_append_right (by omega), show o + j - fs.length = j by omega, List.getElem?_append_left hl, hj]
    rfl
def InsP (P : Program) (ts sz tb ti : Nat) (rot : RO → Option Addr → Nat → Nat → Int → Heap → (Heap → Prop) → Prop) (B : RO) (a1 : Option Addr) (n2 : Nat) (c3 : Nat) (i4 : Int) (a5 : Option Addr) (n6 : Nat) (c7 : Nat) (h : Heap) (Q : Option Addr → Nat → Nat → Heap → Prop) : Prop :=
 0 ≤ (i4 : Int) ∧ (i4 : Int) ≤ ((n2 : Nat) : Int) ∧ ((n2 : Nat) : Int) ≤ (c3 : Nat) ∧
 (((n6 : Nat) : Int) = 0 →
 Fin B h (Q a1 n2 c3)) ∧ (¬ (((n6 : Nat) : Int) = 0) →
 ((i4 : Int) = (n2 : Nat) →
 semH P B (Builtin.append_ #[ts, ts] ts #[(Value.slice a1 n2 c3), (Value.slice a5 n6 c7)]) h (fun v h13 => ∃ a14 : Option Addr, ∃ n15 : Nat, ∃ c16 : Nat, v = (Value.slice a14 n15 c16) ∧
 Fin B h13 (Q a14 n15 c16))) ∧ (¬ ((i4 : Int) = (n2 : Nat)) →
 ((IntKind.wrap .i64 (((n2 : Nat)) + ((n6 : Nat))) : Int) > ((c3 : Nat)) →
 0 ≤ (0 : Int) ∧ (0 : Int) ≤ (i4 : Int) ∧ (i4 : Int) ≤ (c3 : Nat) ∧
 semH P B (Builtin.append_ #[ts, ti] ts #[(Value.slice (if c3 = Int.toNat (0) then a1 else Option.map (·.add (Int.toNat (0) * sz)) a1) (Int.toNat (i4) - Int.toNat (0)) (c3 - Int.toNat (0))), (Value.int .i64 (IntKind.wrap .i64 ((IntKind.wrap .i64 (((n2 : Nat)) + ((n6 : Nat)))) - (i4))))]) h (fun v h18 => ∃ a19 : Option Addr, ∃ n20 : Nat, ∃ c21 : Nat, v = (Value.slice a19 n20 c21) ∧
 0 ≤ (i4 : Int) ∧ (i4 : Int) ≤ ((n20 : Nat) : Int) ∧ ((n20 : Nat) : Int) ≤ (c21 : Nat) ∧
 semH P B (Builtin.copy_ #[ts, ts] ti #[(Value.slice (if c21 = Int.toNat (i4) then a19 else Option.map (·.add (Int.toNat (i4) * sz)) a19) (Int.toNat ((n20 : Nat)) - Int.toNat (i4)) (c21 - Int.toNat (i4))), (Value.slice a5 n6 c7)]) h18 (fun v h22 => ∃ i23 : Int, v = (Value.int .i64 (i23)) ∧
 0 ≤ (IntKind.wrap .i64 ((i4) + ((n6 : Nat))) : Int) ∧ (IntKind.wrap .i64 ((i4) + ((n6 : Nat))) : Int) ≤ ((n20 : Nat) : Int) ∧ ((n20 : Nat) : Int) ≤ (c21 : Nat) ∧
 0 ≤ (i4 : Int) ∧ (i4 : Int) ≤ ((n2 : Nat) : Int) ∧ ((n2 : Nat) : Int) ≤ (c3 : Nat) ∧
 semH P B (Builtin.copy_ #[ts, ts] ti #[(Value.slice (if c21 = Int.toNat (IntKind.wrap .i64 ((i4) + ((n6 : Nat)))) then a19 else Option.map (·.add (Int.toNat (IntKind.wrap .i64 ((i4) + ((n6 : Nat)))) * sz)) a19) (Int.toNat ((n20 : Nat)) - Int.toNat (IntKind.wrap .i64 ((i4) + ((n6 : Nat))))) (c21 - Int.toNat (IntKind.wrap .i64 ((i4) + ((n6 : Nat)))))), (Value.slice (if c3 = Int.toNat (i4) then a1 else Option.map (·.add (Int.toNat (i4) * sz)) a1) (Int.toNat ((n2 : Nat)) - Int.toNat (i4)) (c3 - Int.toNat (i4)))]) h22 (fun v h24 => ∃ i25 : Int, v = (Value.int .i64 (i25)) ∧
 Fin B h24 (Q a19 n20 c21))))) ∧ (¬ ((IntKind.wrap .i64 (((n2 : Nat)) + ((n6 : Nat))) : Int) > ((c3 : Nat))) →
 0 ≤ (0 : Int) ∧ (0 : Int) ≤ (IntKind.wrap .i64 (((n2 : Nat)) + ((n6 : Nat))) : Int) ∧ (IntKind.wrap .i64 (((n2 : Nat)) + ((n6 : Nat))) : Int) ≤ (c3 : Nat) ∧
 0 ≤ (IntKind.wrap .i64 ((i4) + ((n6 : Nat))) : Int) ∧ (IntKind.wrap .i64 ((i4) + ((n6 : Nat))) : Int) ≤ (((Int.toNat (IntKind.wrap .i64 (((n2 : Nat)) + ((n6 : Nat)))) - Int.toNat (0)) : Nat) : Int) ∧ (((Int.toNat (IntKind.wrap .i64 (((n2 : Nat)) + ((n6 : Nat)))) - Int.toNat (0)) : Nat) : Int) ≤ ((c3 - Int.toNat (0)) : Nat) ∧
 semH P B (Extern.SlicesOverlaps.overlaps #[ts, ts] #[tb] #[(Value.slice a5 n6 c7), (Value.slice (if (c3 - Int.toNat (0)) = Int.toNat (IntKind.wrap .i64 ((i4) + ((n6 : Nat)))) then (if c3 = Int.toNat (0) then a1 else Option.map (·.add (Int.toNat (0) * sz)) a1) else Option.map (·.add (Int.toNat (IntKind.wrap .i64 ((i4) + ((n6 : Nat)))) * sz)) (if c3 = Int.toNat (0) then a1 else Option.map (·.add (Int.toNat (0) * sz)) a1)) (Int.toNat (((Int.toNat (IntKind.wrap .i64 (((n2 : Nat)) + ((n6 : Nat)))) - Int.toNat (0)) : Nat)) - Int.toNat (IntKind.wrap .i64 ((i4) + ((n6 : Nat))))) ((c3 - Int.toNat (0)) - Int.toNat (IntKind.wrap .i64 ((i4) + ((n6 : Nat))))))]) h (fun v h26 => ∃ b27 : Bool, v = (Value.bool b27) ∧
 (b27 = true →
 0 ≤ ((n2 : Nat) : Int) ∧ ((n2 : Nat) : Int) ≤ (((Int.toNat (IntKind.wrap .i64 (((n2 : Nat)) + ((n6 : Nat)))) - Int.toNat (0)) : Nat) : Int) ∧ (((Int.toNat (IntKind.wrap .i64 (((n2 : Nat)) + ((n6 : Nat)))) - Int.toNat (0)) : Nat) : Int) ≤ ((c3 - Int.toNat (0)) : Nat) ∧
 semH P B (Builtin.copy_ #[ts, ts] ti #[(Value.slice (if (c3 - Int.toNat (0)) = Int.toNat ((n2 : Nat)) then (if c3 = Int.toNat (0) then a1 else Option.map (·.add (Int.toNat (0) * sz)) a1) else Option.map (·.add (Int.toNat ((n2 : Nat)) * sz)) (if c3 = Int.toNat (0) then a1 else Option.map (·.add (Int.toNat (0) * sz)) a1)) (Int.toNat (((Int.toNat (IntKind.wrap .i64 (((n2 : Nat)) + ((n6 : Nat)))) - Int.toNat (0)) : Nat)) - Int.toNat ((n2 : Nat))) ((c3 - Int.toNat (0)) - Int.toNat ((n2 : Nat)))), (Value.slice a5 n6 c7)]) h26 (fun v h32 => ∃ i33 : Int, v = (Value.int .i64 (i33)) ∧
 0 ≤ (i4 : Int) ∧ (i4 : Int) ≤ (((Int.toNat (IntKind.wrap .i64 (((n2 : Nat)) + ((n6 : Nat)))) - Int.toNat (0)) : Nat) : Int) ∧ (((Int.toNat (IntKind.wrap .i64 (((n2 : Nat)) + ((n6 : Nat)))) - Int.toNat (0)) : Nat) : Int) ≤ ((c3 - Int.toNat (0)) : Nat) ∧
 rot B (if (c3 - Int.toNat (0)) = Int.toNat (i4) then (if c3 = Int.toNat (0) then a1 else Option.map (·.add (Int.toNat (0) * sz)) a1) else Option.map (·.add (Int.toNat (i4) * sz)) (if c3 = Int.toNat (0) then a1 else Option.map (·.add (Int.toNat (0) * sz)) a1)) (Int.toNat (((Int.toNat (IntKind.wrap .i64 (((n2 : Nat)) + ((n6 : Nat)))) - Int.toNat (0)) : Nat)) - Int.toNat (i4)) ((c3 - Int.toNat (0)) - Int.toNat (i4)) ((n6 : Nat)) h32 (fun h34 =>
 Fin B h34 (Q (if c3 = Int.toNat (0) then a1 else Option.map (·.add (Int.toNat (0) * sz)) a1) (Int.toNat (IntKind.wrap .i64 (((n2 : Nat)) + ((n6 : Nat)))) - Int.toNat (0)) (c3 - Int.toNat (0)))))) ∧ (b27 = false →
 0 ≤ (IntKind.wrap .i64 ((i4) + ((n6 : Nat))) : Int) ∧ (IntKind.wrap .i64 ((i4) + ((n6 : Nat))) : Int) ≤ (((Int.toNat (IntKind.wrap .i64 (((n2 : Nat)) + ((n6 : Nat)))) - Int.toNat (0)) : Nat) : Int) ∧ (((Int.toNat (IntKind.wrap .i64 (((n2 : Nat)) + ((n6 : Nat)))) - Int.toNat (0)) : Nat) : Int) ≤ ((c3 - Int.toNat (0)) : Nat) ∧
 0 ≤ (i4 : Int) ∧ (i4 : Int) ≤ (((Int.toNat (IntKind.wrap .i64 (((n2 : Nat)) + ((n6 : Nat)))) - Int.toNat (0)) : Nat) : Int) ∧ (((Int.toNat (IntKind.wrap .i64 (((n2 : Nat)) + ((n6 : Nat)))) - Int.toNat (0)) : Nat) : Int) ≤ ((c3 - Int.toNat (0)) : Nat) ∧
 semH P B (Builtin.copy_ #[ts, ts] ti #[(Value.slice (if (c3 - Int.toNat (0)) = Int.toNat (IntKind.wrap .i64 ((i4) + ((n6 : Nat)))) then (if c3 = Int.toNat (0) then a1 else Option.map (·.add (Int.toNat (0) * sz)) a1) else Option.map (·.add (Int.toNat (IntKind.wrap .i64 ((i4) + ((n6 : Nat)))) * sz)) (if c3 = Int.toNat (0) then a1 else Option.map (·.add (Int.toNat (0) * sz)) a1)) (Int.toNat (((Int.toNat (IntKind.wrap .i64 (((n2 : Nat)) + ((n6 : Nat)))) - Int.toNat (0)) : Nat)) - Int.toNat (IntKind.wrap .i64 ((i4) + ((n6 : Nat))))) ((c3 - Int.toNat (0)) - Int.toNat (IntKind.wrap .i64 ((i4) + ((n6 : Nat)))))), (Value.slice (if (c3 - Int.toNat (0)) = Int.toNat (i4) then (if c3 = Int.toNat (0) then a1 else Option.map (·.add (Int.toNat (0) * sz)) a1) else Option.map (·.add (Int.toNat (i4) * sz)) (if c3 = Int.toNat (0) then a1 else Option.map (·.add (Int.toNat (0) * sz)) a1)) (Int.toNat (((Int.toNat (IntKind.wrap .i64 (((n2 : Nat)) + ((n6 : Nat)))) - Int.toNat (0)) : Nat)) - Int.toNat (i4)) ((c3 - Int.toNat (0)) - Int.toNat (i4)))]) h26 (fun v h28 => ∃ i29 : Int, v = (Value.int .i64 (i29)) ∧
 0 ≤ (i4 : Int) ∧ (i4 : Int) ≤ (((Int.toNat (IntKind.wrap .i64 (((n2 : Nat)) + ((n6 : Nat)))) - Int.toNat (0)) : Nat) : Int) ∧ (((Int.toNat (IntKind.wrap .i64 (((n2 : Nat)) + ((n6 : Nat)))) - Int.toNat (0)) : Nat) : Int) ≤ ((c3 - Int.toNat (0)) : Nat) ∧
 semH P B (Builtin.copy_ #[ts, ts] ti #[(Value.slice (if (c3 - Int.toNat (0)) = Int.toNat (i4) then (if c3 = Int.toNat (0) then a1 else Option.map (·.add (Int.toNat (0) * sz)) a1) else Option.map (·.add (Int.toNat (i4) * sz)) (if c3 = Int.toNat (0) then a1 else Option.map (·.add (Int.toNat (0) * sz)) a1)) (Int.toNat (((Int.toNat (IntKind.wrap .i64 (((n2 : Nat)) + ((n6 : Nat)))) - Int.toNat (0)) : Nat)) - Int.toNat (i4)) ((c3 - Int.toNat (0)) - Int.toNat (i4))), (Value.slice a5 n6 c7)]) h28 (fun v h30 => ∃ i31 : Int, v = (Value.int .i64 (i31)) ∧
 Fin B h30 (Q (if c3 = Int.toNat (0) then a1 else Option.map (·.add (Int.toNat (0) * sz)) a1) (Int.toNat (IntKind.wrap .i64 (((n2 : Nat)) + ((n6 : Nat)))) - Int.toNat (0)) (c3 - Int.toNat (0))))))))))
theorem insP_wp {ts tb ti bz kx c7 : Nat} {ki : IntKind} {zs ys : List Value} {rot : RO → Option Addr → Nat → Nat → Int → Heap → (Heap → Prop) → Prop} {Q : Option Addr → Nat → Nat → Heap → Prop}
    (ht : slcB P ts = some (e, sz, bz)) (hz : zeroB P e = some zs) (hzs : zs.length = sz) (hsz : 0 < sz) (hbz : 0 < bz) (hst : slT P ts = true) (hti : intB P ti = some ki) (h5 : e ≠ 5)
    (E : Keep B h0 L h) (q : Nat) (hq : L[q]? = some r) (R : Row r (.slice a m c) e sz xs) (hxo : ∀ y ∈ xs, isOne y = true) (j : Nat) (hj : L[j]? = some (some (kx, .vec e (plains ys) sz))) (hys : ys.length = sz) (hone : ∀ y ∈ ys, isOne y = true) (hjq : j ≠ q) (i : Nat) (hi : i ≤ m) (hb : (xs.length + sz) * bz ≤ 1099511627776)
    (hQ : ∀ a' c' r' h', Row r' (.slice a' (m + 1) c') e sz (xs.take (i * sz) ++ ys ++ xs.drop (i * sz)) → Keep B h0 (L.set q r') h' → Q a' (m + 1) c' h') : InsP P ts sz tb ti rot B a m c (i : Nat) (some ⟨kx, 0, none⟩) 1 c7 h Q := by
  have hmx := Row.len R
  have hcap := Row.cap R
  have hm1 : m ≤ xs.length := by rw [← hmx]; exact Nat.le_mul_of_pos_right _ hsz
  have hlim : xs.length + sz ≤ 1099511627776 := Nat.le_trans (Nat.le_mul_of_pos_right _ hbz) hb
  have hw1 : IntKind.wrap .i64 (((m : Nat) : Int) + ((1 : Nat) : Int)) = ((m + 1 : Nat) : Int) := by rw [w64 (by omega) (by omega)]; omega
  have hw2 : IntKind.wrap .i64 (((i : Nat) : Int) + ((1 : Nat) : Int)) = ((i + 1 : Nat) : Int) := by rw [w64 (by omega) (by omega)]; omega
  have hw3 : IntKind.wrap .i64 (((m + 1 : Nat) : Int) - ((i : Nat) : Int)) = ((m + 1 - i : Nat) : Int) := by rw [w64 (by omega) (by omega)]; omega
  have him : i * sz ≤ m * sz := Nat.mul_le_mul_right _ hi
  have hsrc : ∀ {L' : List (Option (Nat × AObj))} {h1 : Heap}, Keep B h0 L' h1 → L'[j]? = some (some (kx, .vec e (plains ys) sz)) → CellsAt B h1 ⟨kx, 0, none⟩ 0 ys := fun E1 hj1 => E1.cellsV (fs := []) (gs := []) j (by rw [List.append_nil]; exact hj1) 0 rfl
  unfold InsP
  simp only [hw1, hw2, hw3, Int.toNat_natCast, Int.toNat_zero, Nat.sub_zero, optAddZ]
  refine ⟨by omega, by omega, by omega, fun e0 => absurd e0 (by decide), fun _ => ⟨fun hin => ?_, fun hin => ⟨fun hgr => ?_, fun hroom => ?_⟩⟩⟩
  · refine E.pushS q (n := 1) (ys := ys) hq R ht hz hzs hsz hbz hst ⟨by omega, hone, .inl ⟨_, _, rfl, hsrc E hj⟩⟩ (by rw [hys]; exact hb) fun a' m' c' r' h'' R' E' => ?_
    have hm' := Row.len R'
    have : m' = m + 1 := by
      have h1 : m' * sz = (m + 1) * sz := by rw [hm', List.length_append, hys, Nat.add_mul, hmx, Nat.one_mul]
      exact Nat.eq_of_mul_eq_mul_right hsz h1
    subst this
    have hie : i = m := by omega
    refine ⟨_, _, _, rfl, Fin.of (hQ _ _ _ _ ?_ E')⟩
    rw [hie, hmx, List.take_length, List.drop_length, List.append_nil]; exact R'
  · have hil : i < m := by omega
    have Rc := R.cut (n := i) hi
    refine ⟨by omega, by omega, by omega, semH_appendZ (n := m + 1 - i) (m := i) ht hz hzs hsz hbz hti (E.sl q hq Rc) (by omega) (by omega) ?_ fun b nc nn zz js hb1 hb2 hzl hnc hnn => ?_⟩
    · refine Nat.le_trans (Nat.mul_le_mul_right _ ?_) hb
      omega
    have him1 : (i + 1) * sz ≤ m * sz := Nat.mul_le_mul_right _ hil
    have e1 : (i + 1) * sz = i * sz + sz := by rw [Nat.add_mul, Nat.one_mul]
    have e2 : (m + 1 - i) * sz + i * sz = m * sz + sz := by rw [← Nat.add_mul, show m + 1 - i + i = m + 1 by omega, Nat.add_mul, Nat.one_mul]
    have hnc2 : (i + (m + 1 - i)) * sz ≤ nc * sz := Nat.mul_le_mul_right _ hnc
    rw [Nat.add_mul] at hnc2
    have htl : (xs.take (i * sz)).length = i * sz := by rw [List.length_take]; omega
    have E1 := E.new (o := .vec e (plains (xs.take (i * sz) ++ (zz ++ js))) nn) hb1 hb2
    rw [List.append_assoc]
    refine ⟨_, _, _, rfl, by omega, by omega, by omega, ?_⟩
    rw [if_neg (by omega), Option.map_some, addr_more, Nat.zero_add]
    obtain ⟨h22, st, E2⟩ := E1.storesLast ys hone (i * sz) htl (by omega)
    refine semH_copySl ht (hsrc E1 (by rw [List.getElem?_append_left (List.getElem?_eq_some_iff.1 hj).1]; exact hj)) (by rw [Nat.min_eq_left (by omega)]; omega) st ⟨_, rfl, by omega, by omega, by omega, by omega, by omega, by omega, ?_⟩
    rcases R with ⟨_, e3, e4⟩ | ⟨k, m', c', nk, jk, rfl, e3, e4, e5, e6⟩
    · cases e3; omega
    cases e3
    rw [if_neg (by omega), Option.map_some, addr_more, Nat.zero_add, if_neg (by omega), Option.map_some, addr_more, Nat.zero_add]
    have hql : q < L.length := (List.getElem?_eq_some_iff.1 hq).1
    have hdl : (xs.drop (i * sz)).length = (m - i) * sz := by rw [List.length_drop, Nat.sub_mul]; omega
    have hc2 : CellsAt B h22 ⟨k, i * sz, none⟩ 0 (xs.drop (i * sz)) := E2.cellsV (fs := xs.take (i * sz)) (gs := jk) q (by rw [List.getElem?_append_left hql, hq, List.take_append_drop]) (i * sz) htl
    obtain ⟨h24, st2, E3⟩ := E2.storesLast (xs.drop (i * sz)) (fun y hy => hxo y (List.mem_of_mem_drop hy)) ((i + 1) * sz) (by rw [List.length_append, htl, hys]; omega) (by rw [List.length_drop]; omega)
    refine semH_copySl ht hc2 (by rw [hdl, Nat.min_eq_left (by omega)]) st2 ⟨_, rfl, Fin.of ?_⟩
    have e7 : i + (m + 1 - i) = m + 1 := by omega
    rw [e7]
    refine hQ _ _ _ _ (.inr ⟨b, m + 1, nc, nn, _, rfl, rfl, ?_, by omega, hnn⟩) (E3.moveLast q)
    rw [List.length_append, List.length_append, htl, hys, List.length_drop, Nat.add_mul, Nat.one_mul]; omega
  · have hil : i < m := by omega
    have hmc : m + 1 ≤ c := by omega
    rcases R with ⟨_, e3, e4⟩ | ⟨k, m', c', nk, jk, rfl, e3, e4, e5, e6⟩
    · cases e3; omega
    cases e3
    have him1 : (i + 1) * sz ≤ m * sz := Nat.mul_le_mul_right _ hil
    have e1 : (i + 1) * sz = i * sz + sz := by rw [Nat.add_mul, Nat.one_mul]
    have hmc2 : (m + 1) * sz ≤ c * sz := Nat.mul_le_mul_right _ hmc
    rw [Nat.add_mul, Nat.one_mul] at hmc2
    have htl : (xs.take (i * sz)).length = i * sz := by rw [List.length_take]; omega
    have htl1 : (xs.take ((i + 1) * sz)).length = (i + 1) * sz := by rw [List.length_take]; omega
    have hql : q < L.length := (List.getElem?_eq_some_iff.1 hq).1
    refine ⟨by omega, by omega, by omega, by omega, by omega, by omega, ?_⟩
    have ni1 : ¬ c = i + 1 := by omega
    have ni : ¬ c = i := by omega
    simp only [if_neg ni1, if_neg ni, Option.map_some, addr_more, Nat.zero_add]
    refine semH_overlaps ht (E.at j hj) (E.at q hq) (fun e0 => hjq (E.nd j q kx _ _ hj (by rw [e0]; exact hq))) ⟨h5, h5⟩ ⟨by omega, by omega⟩ ⟨_, rfl, fun e0 => (by cases e0), fun _ => ⟨by omega, by omega, by omega, by omega, by omega, by omega, ?_⟩⟩
    have hdl : (xs.drop (i * sz)).length = (m - i) * sz := by rw [List.length_drop, Nat.sub_mul]; omega
    have hc2 : CellsAt B h ⟨k, i * sz, none⟩ 0 (xs.drop (i * sz)) := E.cellsV (fs := xs.take (i * sz)) (gs := jk) q (by rw [hq, List.take_append_drop]) (i * sz) htl
    obtain ⟨h28, st, E2⟩ := E.storesV q (fs := xs.take ((i + 1) * sz)) (gs := xs.drop ((i + 1) * sz) ++ jk) (by rw [hq, ← List.append_assoc, List.take_append_drop]) (xs.drop (i * sz)) (fun y hy => hxo y (List.mem_of_mem_drop hy)) ((i + 1) * sz) htl1 (by rw [List.length_drop]; omega)
    refine semH_copySl ht hc2 (by rw [hdl, Nat.min_eq_right (by omega)]; congr 1; omega) st ⟨_, rfl, by omega, by omega, by omega, ?_⟩
    have e8 : xs.take ((i + 1) * sz) = xs.take (i * sz) ++ (xs.drop (i * sz)).take sz := by rw [e1, List.take_add]
    generalize hrest : (xs.drop ((i + 1) * sz) ++ jk).drop (xs.drop (i * sz)).length = rest at E2
    obtain ⟨h30, st2, E3⟩ := E2.storesV q (k := k) (nn := nk) (t := e) (fs := xs.take (i * sz)) (gs := (xs.drop (i * sz)).take sz ++ (xs.drop (i * sz) ++ rest)) (by rw [List.getElem?_set_self hql, e8]; simp only [List.append_assoc]) ys hone (i * sz) htl (by omega)
    refine semH_copySl ht (hsrc E2 (by rw [List.getElem?_set_ne (Ne.symm hjq)]; exact hj)) (by rw [Nat.min_eq_left (by omega)]; omega) st2 ⟨_, rfl, Fin.of ?_⟩
    rw [List.set_set] at E3
    have e9 : ((xs.drop (i * sz)).take sz ++ (xs.drop (i * sz) ++ rest)).drop ys.length = xs.drop (i * sz) ++ rest := by
      rw [List.drop_left']
      rw [List.length_take, List.length_drop, hys]; omega
    rw [e9, ← List.append_assoc] at E3
    refine hQ _ _ _ _ (.inr ⟨k, m + 1, c, nk, rest, rfl, rfl, ?_, hmc, e6⟩) E3
    rw [List.length_append, List.length_append, htl, hys, List.length_drop, Nat.add_mul, Nat.one_mul]; omega
end
end Go.Proofs.Ythloobpjkeodgaa.H
