/- The heap logic, part 18: more about blocks of one's own: rows that are read, cut, and made longer. No condition. -/
import Derived.Test.YthloobpjkeodgaaHq
namespace Go.Proofs.Ythloobpjkeodgaa.H
open Go
set_option linter.unusedVariables false

theorem addr_more (k m i : Nat) : Addr.add ⟨k, m, none⟩ i = ⟨k, m + i, none⟩ := by unfold Addr.add; split <;> simp_all
theorem addr_zero (A : Addr) : A.add 0 = A := rfl
theorem slT_facts {P : Program} {t : TypeId} (h : slT P t = true) : (P.underlying t).isSome = true ∧ intB P t = none := by
  unfold slT at h
  unfold intB
  split at h
  · rename_i e' hu; rw [hu]; exact ⟨rfl, rfl⟩
  · cases h

section
variable {P : Program} {B : RO} {h0 h h' : Heap} {L L' : List (Option (Nat × AObj))}
theorem Keep.append (E : Keep B h0 L h) (E' : Keep B h L' h') : Keep B h0 (L ++ L') h' := by
  have key : ∀ (i k : Nat) (o : AObj), (L ++ L')[i]? = some (some (k, o)) → (i < L.length ∧ L[i]? = some (some (k, o))) ∨ (L.length ≤ i ∧ L'[i - L.length]? = some (some (k, o))) := fun i k o e => by
    rw [List.getElem?_append] at e
    split at e
    · exact .inl ⟨by assumption, e⟩
    · exact .inr ⟨by omega, e⟩
  refine ⟨E.le.trans E'.le, E.nw.trans E'.nw, fun i k o e => ?_, fun i k o e => ?_, fun i j k o o' e1 e2 => ?_⟩
  · rcases key _ _ _ e with ⟨_, e⟩ | ⟨_, e⟩
    · exact E.z _ _ _ e
    · exact ⟨E.le.none (E'.z _ _ _ e).1, (E'.z _ _ _ e).2⟩
  · rcases key _ _ _ e with ⟨_, e⟩ | ⟨_, e⟩
    · exact E'.le _ _ (E.get _ _ _ e)
    · exact E'.get _ _ _ e
  · have cross : ∀ {i j : Nat} {o o' : AObj}, L[i]? = some (some (k, o)) → L'[j]? = some (some (k, o')) → False := fun a b => by
      have := E.get _ _ _ a
      rw [(E'.z _ _ _ b).1] at this
      cases this
    rcases key _ _ _ e1 with ⟨a1, f1⟩ | ⟨a1, f1⟩
    · rcases key _ _ _ e2 with ⟨a2, f2⟩ | ⟨a2, f2⟩
      · exact E.nd _ _ _ _ _ f1 f2
      · exact (cross f1 f2).elim
    · rcases key _ _ _ e2 with ⟨a2, f2⟩ | ⟨a2, f2⟩
      · exact (cross f2 f1).elim
      · have := E'.nd _ _ _ _ _ f1 f2
        omega
theorem Keep.popL (E : Keep B h0 (L ++ L') h) : Keep B h0 L h := E.sub fun i x e => by
  rw [List.getElem?_append_left (List.getElem?_eq_some_iff.1 e).1]; exact e
theorem Keep.pop {x : Option (Nat × AObj)} (E : Keep B h0 (L ++ [x]) h) : Keep B h0 L h := E.popL
theorem Keep.drop1 {x y : Option (Nat × AObj)} (E : Keep B h0 (L ++ [x] ++ [y]) h) : Keep B h0 (L ++ [y]) h := by
  have key : ∀ (j : Nat) (z : Nat × AObj), (L ++ [y])[j]? = some (some z) → (j < L.length ∧ (L ++ [x] ++ [y])[j]? = some (some z)) ∨ (j = L.length ∧ (L ++ [x] ++ [y])[L.length + 1]? = some (some z)) := fun j z e => by
    rcases Nat.lt_or_ge j L.length with hl | hl
    · left
      rw [List.getElem?_append_left hl] at e
      exact ⟨hl, by rw [List.append_assoc, List.getElem?_append_left hl]; exact e⟩
    · right
      rw [List.getElem?_append_right hl] at e
      have hj : j - L.length = 0 := by
        cases hd : j - L.length with
        | zero => rfl
        | succ d => rw [hd] at e; simp at e
      rw [hj] at e
      refine ⟨by omega, ?_⟩
      rw [List.append_assoc, List.getElem?_append_right (by omega)]
      simpa using e
  refine ⟨E.le, E.nw, fun j k o e => ?_, fun j k o e => ?_, fun j j' k o o' e1 e2 => ?_⟩
  · rcases key _ _ e with ⟨_, e⟩ | ⟨_, e⟩ <;> exact E.z _ _ _ e
  · rcases key _ _ e with ⟨_, e⟩ | ⟨_, e⟩ <;> exact E.get _ _ _ e
  · rcases key _ _ e1 with ⟨a1, f1⟩ | ⟨a1, f1⟩ <;> rcases key _ _ e2 with ⟨a2, f2⟩ | ⟨a2, f2⟩
    · exact E.nd _ _ _ _ _ f1 f2
    · have := E.nd _ _ _ _ _ f1 f2; omega
    · have := E.nd _ _ _ _ _ f1 f2; omega
    · omega
theorem Keep.sub2 {x y : Option (Nat × AObj)} (E : Keep B h0 L h) (i j : Nat) (hi : L[i]? = some x) (hj : L[j]? = some y) (hn : i ≠ j := by decide) : Keep B h0 [x, y] h := by
  have key : ∀ (q k : Nat) (o : AObj), [x, y][q]? = some (some (k, o)) → (q = 0 ∧ L[i]? = some (some (k, o))) ∨ (q = 1 ∧ L[j]? = some (some (k, o))) := fun q k o e => by
    match q, e with
    | 0, e => simp at e; exact .inl ⟨rfl, by rw [hi, e]⟩
    | 1, e => simp at e; exact .inr ⟨rfl, by rw [hj, e]⟩
    | q + 2, e => simp at e
  refine ⟨E.le, E.nw, fun q k o e => ?_, fun q k o e => ?_, fun q q' k o o' e1 e2 => ?_⟩
  · rcases key _ _ _ e with ⟨_, e⟩ | ⟨_, e⟩ <;> exact E.z _ _ _ e
  · rcases key _ _ _ e with ⟨_, e⟩ | ⟨_, e⟩ <;> exact E.get _ _ _ e
  · rcases key _ _ _ e1 with ⟨a1, f1⟩ | ⟨a1, f1⟩ <;> rcases key _ _ _ e2 with ⟨a2, f2⟩ | ⟨a2, f2⟩
    · omega
    · exact absurd (E.nd _ _ _ _ _ f1 f2) hn
    · exact absurd (E.nd _ _ _ _ _ f1 f2) (Ne.symm hn)
    · omega
theorem Keep.sub3 {x y z : Option (Nat × AObj)} (E : Keep B h0 L h) (i j k : Nat) (hi : L[i]? = some x) (hj : L[j]? = some y) (hk : L[k]? = some z) (hn : i ≠ j ∧ i ≠ k ∧ j ≠ k := by decide) : Keep B h0 [x, y, z] h := by
  have key : ∀ (q b : Nat) (o : AObj), [x, y, z][q]? = some (some (b, o)) → (q = 0 ∧ L[i]? = some (some (b, o))) ∨ (q = 1 ∧ L[j]? = some (some (b, o))) ∨ (q = 2 ∧ L[k]? = some (some (b, o))) := fun q b o e => by
    match q, e with
    | 0, e => simp at e; exact .inl ⟨rfl, by rw [hi, e]⟩
    | 1, e => simp at e; exact .inr (.inl ⟨rfl, by rw [hj, e]⟩)
    | 2, e => simp at e; exact .inr (.inr ⟨rfl, by rw [hk, e]⟩)
    | q + 3, e => simp at e
  refine ⟨E.le, E.nw, fun q b o e => ?_, fun q b o e => ?_, fun q q' b o o' e1 e2 => ?_⟩
  · rcases key _ _ _ e with ⟨_, e⟩ | ⟨_, e⟩ | ⟨_, e⟩ <;> exact E.z _ _ _ e
  · rcases key _ _ _ e with ⟨_, e⟩ | ⟨_, e⟩ | ⟨_, e⟩ <;> exact E.get _ _ _ e
  · rcases key _ _ _ e1 with ⟨a1, f1⟩ | ⟨a1, f1⟩ | ⟨a1, f1⟩ <;> rcases key _ _ _ e2 with ⟨a2, f2⟩ | ⟨a2, f2⟩ | ⟨a2, f2⟩ <;> have hh := E.nd _ _ _ _ _ f1 f2 <;> omega
theorem Keep.pick {x : Option (Nat × AObj)} (E : Keep B h0 L h) (i : Nat) (hi : L[i]? = some x) : Keep B h0 [x] h := by
  have key : ∀ (j k : Nat) (o : AObj), [x][j]? = some (some (k, o)) → j = 0 ∧ L[i]? = some (some (k, o)) := fun j k o e => by
    cases j with
    | zero => simp at e; exact ⟨rfl, by rw [hi, e]⟩
    | succ j => simp at e
  exact ⟨E.le, E.nw, fun j k o e => E.z _ _ _ (key _ _ _ e).2, fun j k o e => E.get _ _ _ (key _ _ _ e).2, fun j j' k o o' e1 e2 => by rw [(key _ _ _ e1).1, (key _ _ _ e2).1]⟩
theorem Keep.last {k : Nat} {o : AObj} (E : Keep B h0 (L ++ [some (k, o)]) h) : h k = some o := E.get L.length k o (by simp)
theorem Keep.putLast {k : Nat} {o : AObj} (o' : AObj) (E : Keep B h0 (L ++ [some (k, o)]) h) : Keep B h0 (L ++ [some (k, o')]) (h.set k o') := by
  have := E.put (o := o) (o' := o') L.length (k := k) (by simp)
  rw [List.set_append_right _ _ (Nat.le_refl _), Nat.sub_self] at this
  exact this

variable {r : Option (Nat × AObj)} {v : Value} {e : TypeId} {sz : Nat} {xs : List Value} {α : Type} {cells : α → List Value} {l : List α} {a : Option Addr} {m c : Nat}
/-- A row of things that is read wherever its block stands. -/
def RowRd (B : RO) (r : Option (Nat × AObj)) (a : Option Addr) (sz : Nat) (cells : α → List Value) (l : List α) : Prop := ∀ h : Heap, (∀ k o, r = some (k, o) → h k = some o) → Reads B h a sz cells l
theorem Row.rd (R : Row r (.slice a m c) e sz (l.flatMap cells)) (hc : ∀ x, (cells x).length = sz) (h0 : 0 < sz) : m = l.length ∧ RowRd B r a sz cells l := by
  refine ⟨?_, fun h hr => ((R.in hr).reads (B := B) hc h0).2⟩
  have hl := flatMap_length hc l
  rcases R with ⟨_, e1, e2⟩ | ⟨k, m', c', nn, js, e0, e1, e3, e4, e5⟩
  · cases e1
    rw [e2] at hl
    have : l.length * sz = 0 := hl.symm
    rcases Nat.mul_eq_zero.1 this with h | h <;> omega
  · cases e1
    rw [hl] at e3
    exact Nat.eq_of_mul_eq_mul_right h0 e3
theorem Row.len (R : Row r (.slice a m c) e sz xs) : m * sz = xs.length := by
  rcases R with ⟨_, e1, e2⟩ | ⟨k, m', c', nn, js, e0, e1, e3, e4, e5⟩
  · cases e1; rw [e2]; simp
  · cases e1; exact e3
theorem Row.cap (R : Row r (.slice a m c) e sz xs) : m ≤ c := by
  rcases R with ⟨_, e1, e2⟩ | ⟨k, m', c', nn, js, e0, e1, e3, e4, e5⟩
  · cases e1; exact Nat.le_refl _
  · cases e1; exact e4
theorem Row.rd_drop (R : Row r (.slice a m c) e sz (l.flatMap cells)) (hc : ∀ x, (cells x).length = sz) (h0 : 0 < sz) (n : Nat) : RowRd B r (if c = n then a else Option.map (·.add (n * sz)) a) sz cells (l.drop n) := by
  obtain ⟨hm, hrd⟩ := R.rd (B := B) hc h0
  have hcap := R.cap
  intro h hr i x hx
  rw [List.getElem?_drop] at hx
  have hlt := (List.getElem?_eq_some_iff.1 hx).1
  rw [if_neg (by omega)]
  obtain ⟨A, e1, e2, e3⟩ := hrd h hr (n + i) x hx
  rcases R with ⟨_, f1, f2⟩ | ⟨k, m', c', nn, js, f0, f1, f3, f4, f5⟩
  · cases f1; cases e1
  · cases f1; cases e1
    refine ⟨_, rfl, ?_, ?_⟩
    · rw [Addr.add_block']; exact e2
    · show CellsAt B h (((⟨k, 0, none⟩ : Addr).add (n * sz)).add (i * sz)) 0 (cells x)
      rw [addr_more, addr_more, show 0 + n * sz + i * sz = (n + i) * sz by rw [Nat.add_mul]; omega]
      rw [addr_more, Nat.zero_add] at e3
      exact e3
/-- The first ones alone; what is appended behind them is written elsewhere. -/
theorem Row.first (R : Row r (.slice a m c) e sz xs) {n : Nat} (hn : n ≤ m) : Row r (.slice a n n) e sz (xs.take (n * sz)) := by
  rcases R with ⟨e0, e1, e2⟩ | ⟨k, m', c', nn, js, e0, e1, e3, e4, e5⟩
  · cases e1
    have : n = 0 := by omega
    subst this
    exact .inl ⟨e0, rfl, by rw [e2]; simp⟩
  · cases e1
    have h1 : n * sz ≤ m * sz := Nat.mul_le_mul_right _ hn
    have h2 : m * sz ≤ c * sz := Nat.mul_le_mul_right _ e4
    refine .inr ⟨k, n, n, nn, xs.drop (n * sz) ++ js, ?_, rfl, by rw [List.length_take]; omega, Nat.le_refl _, by omega⟩
    rw [← List.append_assoc, List.take_append_drop]; exact e0
theorem take_flatMap (hc : ∀ x, (cells x).length = sz) : ∀ (l : List α) (n : Nat), (l.flatMap cells).take (n * sz) = (l.take n).flatMap cells
  | [], n => by simp
  | x :: l, 0 => by simp
  | x :: l, n + 1 => by
    rw [List.take_succ_cons, List.flatMap_cons, List.flatMap_cons, Nat.add_mul, Nat.one_mul, Nat.add_comm, List.take_append, hc, Nat.add_sub_cancel_left, take_flatMap hc l n, List.take_of_length_le (by rw [hc]; omega)]
/-- One thing is appended, out of a block of its own. -/
theorem Keep.push1 (E : Keep B h0 L h) (q : Nat) {t : TypeId} {bz nk : Nat} {zs ys : List Value} (hq : L[q]? = some r) (R : Row r (.slice a m c) e sz xs) (ht : slcB P t = some (e, sz, bz)) (hz : zeroB P e = some zs) (hzs : zs.length = sz) (hsz : 0 < sz) (hbz : 0 < bz) (hst : slT P t = true)
    (hys : ys.length = sz) (ho : ∀ y ∈ ys, isOne y = true) (hb : (xs.length + ys.length) * bz ≤ 1099511627776) {k : Nat} (hk : h k = none) (hB : B k = none) (hh : h' = h.set k (.vec e (plains ys) nk)) {K : Value → Heap → Prop}
    (hK : ∀ a' m' c' r' h'', Row r' (.slice a' m' c') e sz (xs ++ ys) → Keep B h0 (L.set q r') h'' → K (.slice a' m' c') h'') : semH P B (Builtin.append_ #[t, t] t #[.slice a m c, .slice (some ⟨k, 0, none⟩) 1 1]) h' K := by
  have E1 : Keep B h0 L h' := by rw [hh]; exact E.wk (Wk.new hk hB)
  have g : h' k = some (.vec e (plains ys) nk) := by rw [hh]; exact Heap.set_same _ _ _
  have tf := slT_facts hst
  have row := E1.sl q hq R
  refine semH_append (n := 1) (ys := ys) ht hz hzs hsz hbz tf.1 tf.2 row ⟨by rw [hys, Nat.one_mul], ho, .inl ⟨_, _, rfl, CellsAt.of_vec _ 0 g fun j y hy => by simp [plains, hy]⟩⟩ hb ?_
  intro v' h'' ap
  obtain ⟨r', R', E'⟩ := E1.appd q hq R ap
  obtain ⟨a', m', c', rfl⟩ := R'.slice
  exact hK _ _ _ _ _ R' E'
end
end Go.Proofs.Ythloobpjkeodgaa.H
