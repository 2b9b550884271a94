/- What the law's proof stands on, part 2. No condition. -/
import Derived.Test.YtcncdfmnpmmikaaProg
import Derived.KernelRfl
import Derived.Test.YtcncdfmnpmmikaaG1
namespace Go.Proofs.Ytcncdfmnpmmikaa.H
open Go
set_option linter.unusedVariables false
theorem addr_more (k m i : Nat) : Addr.add ⟨k, m, none⟩ i = ⟨k, m + i, none⟩ := by unfold Addr.add; split <;> simp_all
theorem slT_facts {P : Program} {t : TypeId} (h : slT P t = true) : (P.underlying t).isSome = true ∧ intB P t = none := by
  unfold slT at h
  unfold intB
  split at h
  · rename_i e' hu; rw [hu]; exact ⟨rfl, rfl⟩
  · cases h
section
variable {P : Program} {B : RO} {h0 h h' : Heap} {L L' : List (Option (Nat × AObj))}
theorem Keep.append (E : Keep B h0 L h) (E' : Keep B h L' h') : Keep B h0 (L ++ L') h' := by
  have key : ∀ (i k : Nat) (o : AObj), (L ++ L')[i]? = some (some (k, o)) → (i < L.length ∧ L[i]? = some (some (k, o))) ∨ (L.length ≤ i ∧ L'[i - L.length]? = some (some (k, o))) := fun i k o e => by
    rw [List.getElem?_append] at e
    split at e
    · exact .inl ⟨by assumption, e⟩
    · exact .inr ⟨by omega, e⟩
  refine ⟨E.le.trans E'.le, E.nw.trans E'.nw, fun i k o e => ?_, fun i k o e => ?_, fun i j k o o' e1 e2 => ?_⟩
  · rcases key _ _ _ e with ⟨_, e⟩ | ⟨_, e⟩
    · exact E.z _ _ _ e
    · exact ⟨E.le.none (E'.z _ _ _ e).1, (E'.z _ _ _ e).2⟩
  · rcases key _ _ _ e with ⟨_, e⟩ | ⟨_, e⟩
    · exact E'.le _ _ (E.get _ _ _ e)
    · exact E'.get _ _ _ e
  · have cross : ∀ {i j : Nat} {o o' : AObj}, L[i]? = some (some (k, o)) → L'[j]? = some (some (k, o')) → False := fun a b => by
      have := E.get _ _ _ a
      rw [(E'.z _ _ _ b).1] at this
      cases this
    rcases key _ _ _ e1 with ⟨a1, f1⟩ | ⟨a1, f1⟩
    · rcases key _ _ _ e2 with ⟨a2, f2⟩ | ⟨a2, f2⟩
      · exact E.nd _ _ _ _ _ f1 f2
      · exact (cross f1 f2).elim
    · rcases key _ _ _ e2 with ⟨a2, f2⟩ | ⟨a2, f2⟩
      · exact (cross f2 f1).elim
      · have := E'.nd _ _ _ _ _ f1 f2
        omega
theorem Keep.popL (E : Keep B h0 (L ++ L') h) : Keep B h0 L h := E.sub fun i x e => by
  rw [List.getElem?_append_left (List.getElem?_eq_some_iff.1 e).1]; exact e
theorem Keep.pop {x : Option (Nat × AObj)} (E : Keep B h0 (L ++ [x]) h) : Keep B h0 L h := E.popL
theorem Keep.sub2 {x y : Option (Nat × AObj)} (E : Keep B h0 L h) (i j : Nat) (hi : L[i]? = some x) (hj : L[j]? = some y) (hn : i ≠ j := by decide) : Keep B h0 [x, y] h := by
  have key : ∀ (q k : Nat) (o : AObj), [x, y][q]? = some (some (k, o)) → (q = 0 ∧ L[i]? = some (some (k, o))) ∨ (q = 1 ∧ L[j]? = some (some (k, o))) := fun q k o e => by
    match q, e with
    | 0, e => simp at e; exact .inl ⟨rfl, by rw [hi, e]⟩
    | 1, e => simp at e; exact .inr ⟨rfl, by rw [hj, e]⟩
    | q + 2, e => simp at e
  refine ⟨E.le, E.nw, fun q k o e => ?_, fun q k o e => ?_, fun q q' k o o' e1 e2 => ?_⟩
  · rcases key _ _ _ e with ⟨_, e⟩ | ⟨_, e⟩ <;> exact E.z _ _ _ e
  · rcases key _ _ _ e with ⟨_, e⟩ | ⟨_, e⟩ <;> exact E.get _ _ _ e
  · rcases key _ _ _ e1 with ⟨a1, f1⟩ | ⟨a1, f1⟩ <;> rcases key _ _ _ e2 with ⟨a2, f2⟩ | ⟨a2, f2⟩
    · omega
    · exact absurd (E.nd _ _ _ _ _ f1 f2) hn
    · exact absurd (E.nd _ _ _ _ _ f1 f2) (Ne.symm hn)
    · omega
theorem Keep.sub3 {x y z : Option (Nat × AObj)} (E : Keep B h0 L h) (i j k : Nat) (hi : L[i]? = some x) (hj : L[j]? = some y) (hk : L[k]? = some z) (hn : i ≠ j ∧ i ≠ k ∧ j ≠ k := by decide) : Keep B h0 [x, y, z] h := by
  have key : ∀ (q b : Nat) (o : AObj), [x, y, z][q]? = some (some (b, o)) → (q = 0 ∧ L[i]? = some (some (b, o))) ∨ (q = 1 ∧ L[j]? = some (some (b, o))) ∨ (q = 2 ∧ L[k]? = some (some (b, o))) := fun q b o e => by
    match q, e with
    | 0, e => simp at e; exact .inl ⟨rfl, by rw [hi, e]⟩
    | 1, e => simp at e; exact .inr (.inl ⟨rfl, by rw [hj, e]⟩)
    | 2, e => simp at e; exact .inr (.inr ⟨rfl, by rw [hk, e]⟩)
    | q + 3, e => simp at e
  refine ⟨E.le, E.nw, fun q b o e => ?_, fun q b o e => ?_, fun q q' b o o' e1 e2 => ?_⟩
  · rcases key _ _ _ e with ⟨_, e⟩ | ⟨_, e⟩ | ⟨_, e⟩ <;> exact E.z _ _ _ e
  · rcases key _ _ _ e with ⟨_, e⟩ | ⟨_, e⟩ | ⟨_, e⟩ <;> exact E.get _ _ _ e
  · rcases key _ _ _ e1 with ⟨a1, f1⟩ | ⟨a1, f1⟩ | ⟨a1, f1⟩ <;> rcases key _ _ _ e2 with ⟨a2, f2⟩ | ⟨a2, f2⟩ | ⟨a2, f2⟩ <;> have hh := E.nd _ _ _ _ _ f1 f2 <;> omega
theorem Keep.pick {x : Option (Nat × AObj)} (E : Keep B h0 L h) (i : Nat) (hi : L[i]? = some x) : Keep B h0 [x] h := by
  have key : ∀ (j k : Nat) (o : AObj), [x][j]? = some (some (k, o)) → j = 0 ∧ L[i]? = some (some (k, o)) := fun j k o e => by
    cases j with
    | zero => simp at e; exact ⟨rfl, by rw [hi, e]⟩
    | succ j => simp at e
  exact ⟨E.le, E.nw, fun j k o e => E.z _ _ _ (key _ _ _ e).2, fun j k o e => E.get _ _ _ (key _ _ _ e).2, fun j j' k o o' e1 e2 => by rw [(key _ _ _ e1).1, (key _ _ _ e2).1]⟩
theorem Keep.last {k : Nat} {o : AObj} (E : Keep B h0 (L ++ [some (k, o)]) h) : h k = some o := E.get L.length k o (by simp)
theorem Keep.putLast {k : Nat} {o : AObj} (o' : AObj) (E : Keep B h0 (L ++ [some (k, o)]) h) : Keep B h0 (L ++ [some (k, o')]) (h.set k o') := by
  have := E.put (o := o) (o' := o') L.length (k := k) (by simp)
  rw [List.set_append_right _ _ (Nat.le_refl _), Nat.sub_self] at this
  exact this
variable {r : Option (Nat × AObj)} {v : Value} {e : TypeId} {sz : Nat} {xs : List Value} {α : Type} {cells : α → List Value} {l : List α} {a : Option Addr} {m c : Nat}
def RowRd (B : RO) (r : Option (Nat × AObj)) (a : Option Addr) (sz : Nat) (cells : α → List Value) (l : List α) : Prop := ∀ h : Heap, (∀ k o, r = some (k, o) → h k = some o) → Reads B h a sz cells l
theorem Row.rd (R : Row r (.slice a m c) e sz (l.flatMap cells)) (hc : ∀ x, (cells x).length = sz) (h0 : 0 < sz) : m = l.length ∧ RowRd B r a sz cells l := by
  refine ⟨?_, fun h hr => ((R.in hr).reads (B := B) hc h0).2⟩
  have hl := flatMap_length hc l
  rcases R with ⟨_, e1, e2⟩ | ⟨k, m', c', nn, js, e0, e1, e3, e4, e5⟩
  · cases e1
    rw [e2] at hl
    have : l.length * sz = 0 := hl.symm
    rcases Nat.mul_eq_zero.1 this with h | h <;> omega
  · cases e1
    rw [hl] at e3
    exact Nat.eq_of_mul_eq_mul_right h0 e3
theorem Row.len (R : Row r (.slice a m c) e sz xs) : m * sz = xs.length := by
  rcases R with ⟨_, e1, e2⟩ | ⟨k, m', c', nn, js, e0, e1, e3, e4, e5⟩
  · cases e1; rw [e2]; simp
  · cases e1; exact e3
theorem Row.cap (R : Row r (.slice a m c) e sz xs) : m ≤ c := by
  rcases R with ⟨_, e1, e2⟩ | ⟨k, m', c', nn, js, e0, e1, e3, e4, e5⟩
  · cases e1; exact Nat.le_refl _
  · cases e1; exact e4
theorem Row.first (R : Row r (.slice a m c) e sz xs) {n : Nat} (hn : n ≤ m) : Row r (.slice a n n) e sz (xs.take (n * sz)) := by
  rcases R with ⟨e0, e1, e2⟩ | ⟨k, m', c', nn, js, e0, e1, e3, e4, e5⟩
  · cases e1
    have : n = 0 := by omega
    subst this
    exact .inl ⟨e0, rfl, by rw [e2]; simp⟩
  · cases e1
    have h1 : n * sz ≤ m * sz := Nat.mul_le_mul_right _ hn
    have h2 : m * sz ≤ c * sz := Nat.mul_le_mul_right _ e4
    refine .inr ⟨k, n, n, nn, xs.drop (n * sz) ++ js, ?_, rfl, by rw [List.length_take]; omega, Nat.le_refl _, by omega⟩
    rw [← List.append_assoc, List.take_append_drop]; exact e0
theorem take_flatMap (hc : ∀ x, (cells x).length = sz) : ∀ (l : List α) (n : Nat), (l.flatMap cells).take (n * sz) = (l.take n).flatMap cells
  | [], n => by simp
  | x :: l, 0 => by simp
  | x :: l, n + 1 => by
    rw [List.take_succ_cons, List.flatMap_cons, List.flatMap_cons, Nat.add_mul, Nat.one_mul, Nat.add_comm, List.take_append, hc, Nat.add_sub_cancel_left, take_flatMap hc l n, List.take_of_length_le (by rw [hc]; omega)]
theorem Keep.push1 (E : Keep B h0 L h) (q : Nat) {t : TypeId} {bz nk : Nat} {zs ys : List Value} (hq : L[q]? = some r) (R : Row r (.slice a m c) e sz xs) (ht : slcB P t = some (e, sz, bz)) (hz : zeroB P e = some zs) (hzs : zs.length = sz) (hsz : 0 < sz) (hbz : 0 < bz) (hst : slT P t = true)
    (hys : ys.length = sz) (ho : ∀ y ∈ ys, isOne y = true) (hb : (xs.length + ys.length) * bz ≤ 1099511627776) {k : Nat} (hk : h k = none) (hB : B k = none) (hh : h' = h.set k (.vec e (plains ys) nk)) {K : Value → Heap → Prop}
    (hK : ∀ a' m' c' r' h'', Row r' (.slice a' m' c') e sz (xs ++ ys) → Keep B h0 (L.set q r') h'' → K (.slice a' m' c') h'') : semH P B (Builtin.append_ #[t, t] t #[.slice a m c, .slice (some ⟨k, 0, none⟩) 1 1]) h' K := by
  have E1 : Keep B h0 L h' := by rw [hh]; exact E.wk (Wk.new hk hB)
  have g : h' k = some (.vec e (plains ys) nk) := by rw [hh]; exact Heap.set_same _ _ _
  have tf := slT_facts hst
  have row := E1.sl q hq R
  refine semH_append (n := 1) (ys := ys) ht hz hzs hsz hbz tf.1 tf.2 row ⟨by rw [hys, Nat.one_mul], ho, .inl ⟨_, _, rfl, CellsAt.of_vec _ 0 g fun j y hy => by simp [plains, hy]⟩⟩ hb ?_
  intro v' h'' ap
  obtain ⟨r', R', E'⟩ := E1.appd q hq R ap
  obtain ⟨a', m', c', rfl⟩ := R'.slice
  exact hK _ _ _ _ _ R' E'
end
end Go.Proofs.Ytcncdfmnpmmikaa.H
namespace Go.Proofs.Ytcncdfmnpmmikaa.H
open Go
set_option linter.unusedVariables false
section
variable {P : Program} {B : RO}
theorem storeH_frame {h h2 : Heap} {b : Nat} {ob : AObj} {a : Addr} {v : Value} (hb : h b = none) (hs : storeH h a v = some h2) : storeH (h.set b ob) a v = some (h2.set b ob) ∧ h2 b = none := by
  unfold storeH at hs ⊢
  by_cases hsp : a.spot.isSome = true
  · rw [if_pos hsp] at hs; cases hs
  rw [if_neg hsp] at hs ⊢
  cases e : h a.block with
  | none => rw [e] at hs; cases hs
  | some o =>
    have hne : a.block ≠ b := fun x => by rw [x, hb] at e; cases e
    rw [Heap.set_ne _ _ _ _ hne, e]
    rw [e] at hs
    cases o with
    | raw o => cases hs
    | vec t fs n =>
      simp only at hs ⊢
      split at hs
      · rename_i h1
        rw [if_pos h1]
        split at hs
        · cases hs
          exact ⟨by rw [Heap.set_comm _ _ _ _ _ hne], by rw [Heap.set_ne _ _ _ _ (Ne.symm hne)]; exact hb⟩
        · cases hs
      · rename_i h1
        rw [if_neg h1]
        split at hs
        · rename_i h2
          rw [if_pos h2]
          cases hs
          exact ⟨by rw [Heap.set_comm _ _ _ _ _ hne], by rw [Heap.set_ne _ _ _ _ (Ne.symm hne)]; exact hb⟩
        · cases hs
theorem semH_frame {α : Type} {s : Sem α} {b : Nat} {ob : AObj} {K : α → Heap → Prop} : ∀ {h : Heap}, h b = none → B b = none → semH P B s h K → semH P B s (h.set b ob) (fun a h' => ∃ h1, h1 b = none ∧ h' = h1.set b ob ∧ K a h1) := by
  induction s with
  | pure a => intro h hb _ hs; exact ⟨h, hb, rfl, hs⟩
  | load m a k ih => rintro h hb hB ⟨v, hv, hs⟩; exact ⟨v, (Wk.new hb hB).cell hv, ih v hb hB hs⟩
  | store m a v k ih =>
    rintro h hb hB ⟨h1, h2, hh, hs⟩
    obtain ⟨e1, e2⟩ := storeH_frame (ob := ob) hb hh
    exact ⟨h1, _, e1, ih e2 hB hs⟩
  | new o k ih =>
    intro h hb hB hs c h1 h2
    have hne : c ≠ b := fun x => by rw [x, Heap.set_same] at h1; cases h1
    rw [Heap.set_ne _ _ _ _ hne] at h1
    rw [Heap.set_comm _ _ _ _ _ (Ne.symm hne)]
    exact ih c (by rw [Heap.set_ne _ _ _ _ (Ne.symm hne)]; exact hb) hB (hs c h1 h2)
  | shape r k ih => rintro h hb hB ⟨s, hs, hk'⟩; exact ⟨s, (Wk.new hb hB).shape hs, ih s hb hB hk'⟩
  | freeze a n k ih =>
    rintro h hb hB ⟨⟨t, fs, m, h1, h1'⟩, h2, hs⟩
    exact ⟨⟨t, fs, m, (Wk.new hb hB).1 _ _ h1, h1'⟩, h2, ih hb hB hs⟩
  | frozen a k ih => intro h hb hB hs c h1; exact ih c hb hB (hs c (fun x hc => h1 x ((Wk.new hb hB).frozen hc)))
  | getObj r k ih => rintro h hb hB ⟨o, h1, h2, hs⟩; exact ⟨o, (Wk.new hb hB).1 _ _ h1, h2, ih o hb hB hs⟩
  | setObj r o k ih =>
    rintro h hb hB ⟨⟨o', h1, h1'⟩, h2, hs⟩
    have hne : r ≠ b := fun x => by rw [x, hb] at h1; cases h1
    refine ⟨⟨o', (Wk.new hb hB).1 _ _ h1, h1'⟩, h2, ?_⟩
    rw [Heap.set_comm _ _ _ _ _ (Ne.symm hne)]
    exact ih (by rw [Heap.set_ne _ _ _ _ (Ne.symm hne)]; exact hb) hB hs
  | choose q k ih =>
    intro h hb hB hs
    simp only [semH] at hs ⊢
    split
    · rename_i hf; rw [if_pos hf] at hs; exact ih 0 hb hB hs
    · rename_i hf; rw [if_neg hf] at hs; intro n; exact ih _ hb hB (hs n)
  | sys c k ih => intro h hb hB hs; exact hs.elim
  | program k ih => intro h hb hB hs; exact ih P hb hB hs
  | mark m k ih => intro h hb hB hs; exact ih hb hB hs
  | halt e => intro h hb hB hs; exact hs.elim
def PlainO (ob : AObj) : Prop := ∃ t vs n, ob = .vec t (plains vs) n
theorem Rel.aside {F : Fr} {h : Heap} {w : World} {b : Nat} {ob : AObj} (hb : h b = none) (hB : B b = none) (hp : PlainO ob) (R : Rel B F (h.set b ob) w) :
    ∃ o, F.blocks b = none ∧ Rel B (F.add b o) h w ∧ ∀ (h1 : Heap) (w' : World), Rel B (F.add b o) h1 w' → h1 b = none ∧ Rel B F (h1.set b ob) w' := by
  obtain ⟨own, R⟩ := R
  obtain ⟨t, vs, n, rfl⟩ := hp
  obtain ⟨hob, hle, cs, fr, h1, h2, h3, h4⟩ := R.obj b _ (Heap.set_same _ _ _)
  have hF : F.blocks b = none := by
    cases e : F.blocks b with
    | none => rfl
    | some o => have := (R.fr b o e).2.1; rw [Heap.set_same] at this; cases this
  refine ⟨.cells cs t fr, hF, ⟨own, R.os, R.tape, R.output, R.low, ?_, ?_, ?_, R.owned⟩, ?_⟩
  · intro c o hc
    simp only [Fr.add] at hc
    split at hc
    · rename_i e; cases hc; subst e; exact ⟨h1, hb, hob⟩
    · rename_i e
      have := R.fr c o hc
      rw [Heap.set_ne _ _ _ _ e] at this
      exact this
  · intro c o hc
    have hcb : c ≠ b := fun e => by rw [e, hB] at hc; cases hc
    have := R.ro c o hc
    rw [Heap.set_ne _ _ _ _ hcb] at this
    simp only [Fr.add, if_neg hcb]
    exact this
  · intro c o hc
    have hcb : c ≠ b := fun e => by rw [e, hb] at hc; cases hc
    exact R.obj c o (by rw [Heap.set_ne _ _ _ _ hcb]; exact hc)
  · rintro h1' w' ⟨own', R'⟩
    have hfb := R'.fr b (.cells cs t fr) (by simp [Fr.add])
    refine ⟨hfb.2.1, own', R'.os, R'.tape, R'.output, R'.low, ?_, ?_, ?_, R'.owned⟩
    · intro c o hc
      have hcb : c ≠ b := fun e => by rw [e, hF] at hc; cases hc
      have := R'.fr c o (by simp only [Fr.add, if_neg hcb]; exact hc)
      rw [Heap.set_ne _ _ _ _ hcb]
      exact this
    · intro c o hc
      have hcb : c ≠ b := fun e => by rw [e, hB] at hc; cases hc
      have := R'.ro c o hc
      simp only [Fr.add, if_neg hcb] at this
      rw [Heap.set_ne _ _ _ _ hcb]
      exact this
    · intro c o hc
      by_cases hcb : c = b
      · subst hcb
        rw [Heap.set_same] at hc
        cases hc
        exact ⟨hfb.2.2, hle, cs, fr, hfb.1, h2, h3, fun i v hi f hf => by
          have := h4 i v hi f hf
          simp only [plains, List.getElem?_map] at hf
          cases hx : vs[i]? with
          | none => rw [hx] at hf; cases hf
          | some x => rw [hx] at hf; cases hf; exact this⟩
      · rw [Heap.set_ne _ _ _ _ hcb] at hc
        exact R'.obj c o hc
theorem Ent.frame1 {h h' : Heap} {b : Nat} {ob : AObj} (hb : h b = none) (hB : B b = none) (hp : PlainO ob) (he : Ent B h h') : Ent B (h.set b ob) (h'.set b ob) := by
  refine ⟨fun c e => ?_, fun F w R => ?_⟩
  · have hcb : c ≠ b := fun x => by rw [x, Heap.set_same] at e; cases e
    rw [Heap.set_ne _ _ _ _ hcb] at e ⊢
    exact he.1 c e
  · obtain ⟨o, hF, R1, back⟩ := Rel.aside hb hB hp R
    exact (back h' w (he.2 _ _ R1)).2
theorem Spec.frame1 {f : FuncId} {args : Array Value} {h : Heap} {b : Nat} {ob : AObj} {Post : Value → Heap → Prop} (hb : h b = none) (hB : B b = none) (hp : PlainO ob) (hs : Spec P B f args h Post) :
    Spec P B f args (h.set b ob) (fun v h' => ∃ h1, h1 b = none ∧ h' = h1.set b ob ∧ Post v h1) := by
  intro F w R
  obtain ⟨o, hF, R1, back⟩ := Rel.aside hb hB hp R
  refine (hs (F.add b o) w R1).mono fun ed w' ⟨v, h', e, R2, hpost⟩ => ?_
  obtain ⟨k1, k2⟩ := back h' w' R2
  exact ⟨v, _, e, k2, h', k1, rfl, hpost⟩
theorem RoundSpec.frame1 {l : Nat} {f : FuncId} {tmps : Array Value} {assign body : Code} {h : Heap} {b : Nat} {ob : AObj} {K : Value → Heap → Prop} (hb : h b = none) (hB : B b = none) (hp : PlainO ob) (hs : RoundSpec P B l f tmps assign body h K) :
    RoundSpec P B l f tmps assign body (h.set b ob) (fun v h' => ∃ h1, h1 b = none ∧ h' = h1.set b ob ∧ K v h1) := by
  intro F w c cs R
  obtain ⟨o, hF, R1, back⟩ := Rel.aside hb hB hp R
  obtain ⟨v, w', h', s1, R2, hk⟩ := hs (F.add b o) w c cs R1
  obtain ⟨k1, k2⟩ := back h' w' R2
  exact ⟨v, w', _, s1, k2, h', k1, rfl, hk⟩
theorem After.frame1 {nx : Next} {h : Heap} {b : Nat} {ob : AObj} {K : Value → Heap → Prop} (hb : h b = none) (hB : B b = none) (hp : PlainO ob) (ha : After P B nx h K) : After P B nx (h.set b ob) (fun v h' => ∃ h1, h1 b = none ∧ h' = h1.set b ob ∧ K v h1) := by
  cases nx with
  | value v => exact ⟨h, hb, rfl, ha⟩
  | skip => exact ⟨h, hb, rfl, ha⟩
  | enter f args => exact Spec.frame1 hb hB hp ha
  | round l f tmps assign body => exact RoundSpec.frame1 hb hB hp ha
  | _ => exact ha.elim
theorem CallV.frame1 {f : Value} {args : List Value} {h : Heap} {b : Nat} {ob : AObj} {K : Value → Heap → Prop} (hb : h b = none) (hB : B b = none) (hp : PlainO ob) (hc : CallV P B f args h K) : CallV P B f args (h.set b ob) (fun v h' => ∃ h1, h1 b = none ∧ h' = h1.set b ob ∧ K v h1) := by
  refine semH_mono (fun nx h' ⟨h1, k1, k2, ha⟩ => ?_) (semH_frame (ob := ob) hb hB hc)
  subst k2
  exact ha.frame1 k1 hB hp
end
inductive Ord where
  | nil
  | q (i : Nat) (t : Ord)
  | x (i : Nat) (t alt : Ord)
  | no
def okT (ops : Array Oper) (z : List Nat) : Ord → Nat → Array Bool → Option (List Nat) → Bool
  | .nil, n, listed, none => n == 0 && (Region.ready .any ops listed).isEmpty
  | .q i t, n + 1, listed, none => (Region.ready .any ops listed).contains i && Region.free .any ops listed i && lastWaits ops z i && needC z listed && okT ops z t n (listed.setIfInBounds i true) none
  | .x i t alt, n + 1, listed, none => match Region.ready .any ops listed with
    | r :: rs => r == i && okT ops z t n (listed.setIfInBounds i true) none && okT ops z alt (n + 1) listed (some rs)
    | [] => false
  | .x i t alt, n + 1, listed, some (r :: rs) => r == i && okT ops z t n (listed.setIfInBounds i true) none && okT ops z alt (n + 1) listed (some rs)
  | .no, _, _, some [] => true
  | _, _, _, _ => false
def maskOf : List Nat → Nat
  | [] => 0
  | j :: l => maskOf l ||| 2 ^ j
theorem maskOf_bit (l : List Nat) (j : Nat) : (maskOf l).testBit j = decide (j ∈ l) := by
  induction l with
  | nil => simp [maskOf]
  | cons i l ih =>
    rw [maskOf, Nat.testBit_or, ih, Nat.testBit_two_pow]
    by_cases h : i = j
    · subst h; simp
    · simp [h, Ne.symm h]
def needL (o : Oper) : List Nat := (o.after.toList.filter (Region.binds .any)).map (·.on)
def freeB (ops : Array Oper) (i j : Nat) : Bool := j == i || match ops[j]? with
  | some oj => oj.after.any (fun e => Region.binds .any e && e.on == i) || (match ops[i]? with | some oi => oi.apart ops oj | none => false)
  | none => true
def listBeq : List Nat → List Nat → Bool
  | [], [] => true
  | a :: l, b :: m => Nat.beq a b && listBeq l m
  | _, _ => false
theorem listBeq_eq : ∀ {l m : List Nat}, listBeq l m = true → l = m
  | [], [], _ => rfl
  | a :: l, b :: m, h => by
    simp only [listBeq, Bool.and_eq_true] at h
    rw [Nat.eq_of_beq_eq_true h.1, listBeq_eq h.2]
  | [], _ :: _, h => by cases h
  | _ :: _, [], h => by cases h
structure Tab where
  nt : List Nat
  ft : List Nat
  rt : List Nat
  zm : Nat
def orL (rt : List Nat) : List Nat → Nat
  | [] => 0
  | j :: l => orL rt l ||| rt.getD j 0
def rtOk (rt : List Nat) : List Oper → Nat → Bool
  | [], _ => true
  | o :: l, j => Nat.beq (rt.getD j 0 ||| (maskOf (needL o) ||| orL rt (needL o))) (maskOf (needL o) ||| orL rt (needL o)) && (needL o).all (fun e => Nat.blt e j) && rtOk rt l (j + 1)
def tabOk (l : List Oper) (z : List Nat) (T : Tab) : Bool :=
  listBeq (l.map fun o => maskOf (needL o)) T.nt && listBeq ((List.range l.length).map fun i => maskOf ((List.range l.length).filter (freeB l.toArray i))) T.ft &&
    rtOk T.rt l 0 && Nat.beq (maskOf z) T.zm && z.all (fun z => Nat.blt z l.length)
def readyA : List Nat → Nat → Nat → List Nat
  | [], _, _ => []
  | x :: xs, i, m => if (!m.testBit i && Nat.beq (x &&& m) x) = true then i :: readyA xs (i + 1) m else readyA xs (i + 1) m
def okM (n : Nat) (z : List Nat) (T : Tab) : Ord → Nat → Nat → Option (List Nat) → Bool
  | .nil, c, m, none => Nat.beq c 0 && (readyA T.nt 0 m).isEmpty
  | .q i t, c + 1, m, none => Nat.blt i n && !m.testBit i && Nat.beq (T.nt.getD i 0 &&& m) (T.nt.getD i 0) && Nat.beq (T.ft.getD i 0 ||| m) (2 ^ n - 1) && z.all (fun z => z != i && (T.rt.getD z 0).testBit i) && Nat.beq (T.zm &&& m) 0 && okM n z T t c (m ||| 2 ^ i) none
  | .x i t alt, c + 1, m, none => match readyA T.nt 0 m with
    | r :: rs => Nat.beq r i && okM n z T t c (m ||| 2 ^ i) none && okM n z T alt (c + 1) m (some rs)
    | [] => false
  | .x i t alt, c + 1, m, some (r :: rs) => Nat.beq r i && okM n z T t c (m ||| 2 ^ i) none && okM n z T alt (c + 1) m (some rs)
  | .no, _, _, some [] => true
  | _, _, _, _ => false
structure Rep (n : Nat) (listed : Array Bool) (m : Nat) : Prop where
  sz : listed.size = n
  bit : ∀ i, listed.getD i false = m.testBit i
theorem Rep.bitT {n : Nat} {listed : Array Bool} {m : Nat} (R : Rep n listed m) {i : Nat} (hi : i < n) : listed.getD i true = m.testBit i := by
  rw [← R.bit i]
  have : i < listed.size := by rw [R.sz]; exact hi
  simp [Array.getD, this]
theorem Rep.set {n : Nat} {listed : Array Bool} {m : Nat} (R : Rep n listed m) {i : Nat} (hi : i < n) : Rep n (listed.setIfInBounds i true) (m ||| 2 ^ i) := by
  refine ⟨by rw [Array.size_setIfInBounds]; exact R.sz, fun j => ?_⟩
  have hs : i < listed.size := by rw [R.sz]; exact hi
  rw [Nat.testBit_or, Nat.testBit_two_pow, ← R.bit j, Array.getD_eq_getD_getElem?, Array.getD_eq_getD_getElem?, Array.getElem?_setIfInBounds]
  by_cases h : i = j
  · subst h; simp [hs]
  · simp [h]
theorem readyA_eq (m : Nat) : ∀ (xs : List Nat) (s : Nat), readyA xs s m = (List.range' s xs.length).filter fun i => !m.testBit i && Nat.beq (xs.getD (i - s) 0 &&& m) (xs.getD (i - s) 0)
  | [], s => rfl
  | x :: xs, s => by
    rw [List.length_cons, List.range'_succ, List.filter_cons, readyA, readyA_eq m xs (s + 1)]
    have hc : (List.range' (s + 1) xs.length).filter (fun i => !m.testBit i && Nat.beq (xs.getD (i - (s + 1)) 0 &&& m) (xs.getD (i - (s + 1)) 0)) = (List.range' (s + 1) xs.length).filter fun i => !m.testBit i && Nat.beq ((x :: xs).getD (i - s) 0 &&& m) ((x :: xs).getD (i - s) 0) := by
      refine List.filter_congr fun i hi => ?_
      have := List.mem_range'_1.1 hi
      have e : i - s = (i - (s + 1)) + 1 := by omega
      rw [e]
      simp
    rw [hc, Nat.sub_self]
    rfl
theorem sub_mask {x m : Nat} : Nat.beq (x &&& m) x = true ↔ ∀ j, x.testBit j = true → m.testBit j = true := by
  rw [show (Nat.beq (x &&& m) x = true) = (x &&& m = x) from propext ⟨Nat.eq_of_beq_eq_true, fun e => by rw [e]; exact Nat.beq_refl x⟩]
  constructor
  · intro h j hj
    rw [← h, Nat.testBit_and, Bool.and_eq_true] at hj; exact hj.2
  · intro h
    apply Nat.eq_of_testBit_eq
    intro j
    rw [Nat.testBit_and]
    cases hx : x.testBit j
    · rfl
    · rw [h j hx]; rfl
section
variable {l : List Oper} {z : List Nat} {T : Tab} {listed : Array Bool} {m : Nat}
theorem tab_facts (hT : tabOk l z T = true) : (l.map fun o => maskOf (needL o)) = T.nt ∧ ((List.range l.length).map fun i => maskOf ((List.range l.length).filter (freeB l.toArray i))) = T.ft ∧ rtOk T.rt l 0 = true ∧ maskOf z = T.zm ∧ ∀ x ∈ z, x < l.length := by
  simp only [tabOk, Bool.and_eq_true] at hT
  obtain ⟨⟨⟨⟨a, b⟩, c⟩, d⟩, e⟩ := hT
  refine ⟨listBeq_eq a, listBeq_eq b, c, Nat.eq_of_beq_eq_true d, fun x hx => ?_⟩
  have := List.all_eq_true.1 e x hx
  exact Nat.lt_of_succ_le (Nat.le_of_ble_eq_true this)
theorem rtOk_at {rt : List Nat} : ∀ {l : List Oper} {j i : Nat} {o : Oper}, rtOk rt l j = true → l[i]? = some o → (∀ b, (rt.getD (j + i) 0).testBit b = true → b ∈ needL o ∨ ∃ e ∈ needL o, (rt.getD e 0).testBit b = true) ∧ ∀ e ∈ needL o, e < j + i
  | [], _, _, _, _, hi => by simp at hi
  | p :: l, j, i, o, h, hi => by
    simp only [rtOk, Bool.and_eq_true] at h
    obtain ⟨⟨h1, h2⟩, h3⟩ := h
    cases i with
    | zero =>
      simp at hi
      subst hi
      refine ⟨fun b hb => ?_, fun e he => Nat.lt_of_succ_le (Nat.le_of_ble_eq_true (List.all_eq_true.1 h2 e he))⟩
      have : (maskOf (needL p) ||| orL rt (needL p)).testBit b = true := by
        rw [← Nat.eq_of_beq_eq_true h1, Nat.testBit_or, Bool.or_eq_true]; exact .inl hb
      rw [Nat.testBit_or, Bool.or_eq_true, maskOf_bit, decide_eq_true_eq] at this
      rcases this with h | h
      · exact .inl h
      · right
        have key : ∀ m : List Nat, (orL rt m).testBit b = true → ∃ e ∈ m, (rt.getD e 0).testBit b = true := fun m => by
          induction m with
          | nil => intro h; simp [orL] at h
          | cons x m ih =>
            intro h
            rw [orL, Nat.testBit_or, Bool.or_eq_true] at h
            rcases h with h | h
            · obtain ⟨e, he, hh⟩ := ih h; exact ⟨e, by simp [he], hh⟩
            · exact ⟨x, by simp, h⟩
        exact key _ h
    | succ i =>
      have := rtOk_at (i := i) h3 (by simpa using hi)
      rw [show j + 1 + i = j + (i + 1) by omega] at this
      exact this
theorem mem_needL {o : Oper} {x : Nat} (h : x ∈ needL o) : ∃ e ∈ o.after, Region.binds .any e = true ∧ e.on = x := by
  obtain ⟨e, he, rfl⟩ := List.mem_map.1 h
  obtain ⟨h1, h2⟩ := List.mem_filter.1 he
  exact ⟨e, Array.mem_toList_iff.1 h1, h2, rfl⟩
theorem waits_succ {ops : Array Oper} : ∀ {n z i : Nat}, waits ops n z i = true → waits ops (n + 1) z i = true
  | 0, _, _, h => by cases h
  | n + 1, z, i, h => by
    rw [waits] at h ⊢
    cases ho : ops[z]? with
    | none => rw [ho] at h; cases h
    | some o =>
      rw [ho] at h
      simp only [Bool.or_eq_true, Array.any_eq_true', Bool.and_eq_true] at h ⊢
      rcases h with h | ⟨e, he, hb, hr⟩
      · exact .inl h
      · exact .inr ⟨e, he, hb, waits_succ hr⟩
theorem waits_mono {ops : Array Oper} {n m z i : Nat} (h : n ≤ m) (hw : waits ops n z i = true) : waits ops m z i = true := by
  induction h with
  | refl => exact hw
  | step _ ih => exact waits_succ ih
theorem rt_waits {rt : List Nat} (h : rtOk rt l 0 = true) (x : Nat) : x < l.length → ∀ i, (rt.getD x 0).testBit i = true → waits l.toArray (x + 1) x i = true := by
  induction x using Nat.strongRecOn with
  | _ x ih =>
    intro hx i hi
    have ho := List.getElem?_eq_getElem hx
    obtain ⟨h1, h2⟩ := rtOk_at h ho
    rw [Nat.zero_add] at h1 h2
    rw [waits, List.getElem?_toArray, ho]
    simp only [Bool.or_eq_true, Array.any_eq_true', Bool.and_eq_true, beq_iff_eq]
    rcases h1 i hi with h | ⟨e, he, hr⟩
    · obtain ⟨e, h1, h3, h4⟩ := mem_needL h
      exact .inl ⟨e, h1, h3, h4⟩
    · have hlt := h2 e he
      obtain ⟨e', h1, h3, rfl⟩ := mem_needL he
      exact .inr ⟨e', h1, h3, waits_mono (by omega) (ih _ hlt (by omega) i hr)⟩
theorem need_at (hT : tabOk l z T = true) {i : Nat} {o : Oper} (ho : l[i]? = some o) : T.nt.getD i 0 = maskOf (needL o) := by
  rw [← (tab_facts hT).1, List.getD_eq_getElem?_getD, List.getElem?_map, ho]; rfl
theorem ready_bit (hT : tabOk l z T = true) (R : Rep l.length listed m) {i : Nat} {o : Oper} (ho : l[i]? = some o) :
    (o.after.all fun e => !Region.binds .any e || listed.getD e.on false) = Nat.beq (T.nt.getD i 0 &&& m) (T.nt.getD i 0) := by
  rw [need_at hT ho, Bool.eq_iff_iff, sub_mask, Array.all_eq_true_iff_forall_mem]
  constructor
  · intro h j hj
    rw [maskOf_bit, decide_eq_true_eq] at hj
    obtain ⟨e, he, rfl⟩ := List.mem_map.1 hj
    obtain ⟨h1, h2⟩ := List.mem_filter.1 he
    have := h e (Array.mem_toList_iff.1 h1)
    rw [h2, R.bit] at this
    simpa using this
  · intro h e he
    cases hb : Region.binds .any e
    · rfl
    · rw [R.bit, h e.on (by rw [maskOf_bit, decide_eq_true_eq]; exact List.mem_map.2 ⟨e, List.mem_filter.2 ⟨Array.mem_toList_iff.2 he, hb⟩, rfl⟩)]; rfl
theorem ready_eq (hT : tabOk l z T = true) (R : Rep l.length listed m) : Region.ready .any l.toArray listed = readyA T.nt 0 m := by
  have hl : T.nt.length = l.length := by rw [← (tab_facts hT).1, List.length_map]
  rw [readyA_eq, hl, ← List.range_eq_range']
  unfold Region.ready
  rw [List.size_toArray]
  refine List.filter_congr fun i hi => ?_
  have hi' : i < l.length := List.mem_range.1 hi
  rw [R.bitT hi', Nat.sub_zero]
  congr 1
  rw [List.getElem?_toArray, List.getElem?_eq_getElem hi', Option.map_some, Option.getD_some]
  exact ready_bit hT R (List.getElem?_eq_getElem hi')
theorem okM_okT (hT : tabOk l z T = true) : ∀ (t : Ord) (c : Nat) (m : Nat) (listed : Array Bool) (rs : Option (List Nat)), Rep l.length listed m → (∀ r, rs = some r → ∀ x ∈ r, x < l.length) → okM l.length z T t c m rs = true → okT l.toArray z t c listed rs = true := by
  intro t
  induction t with
  | nil =>
    intro c m listed rs R hr h
    cases rs with
    | some r => simp [okM] at h
    | none =>
      simp only [okM, Bool.and_eq_true] at h
      simp only [okT, Bool.and_eq_true, beq_iff_eq]
      exact ⟨Nat.eq_of_beq_eq_true h.1, by rw [ready_eq hT R]; exact h.2⟩
  | q i t ih =>
    intro c m listed rs R hr h
    cases rs with
    | some r => simp [okM] at h
    | none =>
      cases c with
      | zero => simp [okM] at h
      | succ c =>
        simp only [okM, Bool.and_eq_true] at h
        obtain ⟨⟨⟨⟨⟨⟨h1, h2⟩, h3⟩, h4⟩, h5⟩, h6⟩, h7⟩ := h
        have hi : i < l.length := Nat.lt_of_succ_le (Nat.le_of_ble_eq_true h1)
        simp only [okT, Bool.and_eq_true]
        obtain ⟨f1, f2, f3, f4, f5⟩ := tab_facts hT
        refine ⟨⟨⟨⟨?_, ?_⟩, ?_⟩, ?_⟩, ih c _ _ none (R.set hi) (fun r e => by cases e) h7⟩
        · rw [List.contains_iff_mem, mem_ready]
          refine ⟨by rw [R.bitT hi]; simpa using h2, l[i], by rw [List.getElem?_toArray, List.getElem?_eq_getElem hi], fun e he hb => ?_⟩
          have := ready_bit hT R (List.getElem?_eq_getElem hi)
          rw [h3, Array.all_eq_true_iff_forall_mem] at this
          have := this e he
          rw [hb] at this; simpa using this
        · unfold Region.free
          rw [List.getElem?_toArray, List.getElem?_eq_getElem hi]
          simp only [List.all_eq_true, List.size_toArray, List.mem_range]
          intro j hj
          have hb : (T.ft.getD i 0 ||| m).testBit j = true := by
            rw [Nat.eq_of_beq_eq_true h4, Nat.testBit_two_pow_sub_one]; simpa using hj
          rw [Nat.testBit_or, ← f2, List.getD_eq_getElem?_getD, List.getElem?_map, List.getElem?_range hi] at hb
          simp only [Option.map_some, Option.getD_some, maskOf_bit, Bool.or_eq_true, decide_eq_true_eq, List.mem_filter, List.mem_range] at hb
          rw [R.bitT hj]
          rcases hb with ⟨_, hb⟩ | hb
          · unfold freeB at hb
            rw [List.getElem?_toArray, List.getElem?_toArray, List.getElem?_eq_getElem hi] at hb
            rw [Bool.or_eq_true] at hb
            rcases hb with hb | hb
            · simp [hb]
            · rw [List.getElem?_toArray]
              rw [Bool.or_eq_true]; exact .inr hb
          · simp [hb]
        · unfold lastWaits
          rw [List.all_eq_true] at h5 ⊢
          intro x hx
          have := h5 x hx
          rw [Bool.and_eq_true] at this ⊢
          exact ⟨this.1, waits_mono (by rw [List.size_toArray]; exact f5 x hx) (rt_waits f3 x (f5 x hx) i this.2)⟩
        · unfold needC
          rw [List.all_eq_true]
          intro x hx
          rw [R.bitT (f5 x hx)]
          have h0 : (T.zm &&& m).testBit x = false := by rw [Nat.eq_of_beq_eq_true h6]; simp
          rw [Nat.testBit_and, ← f4, maskOf_bit, decide_eq_true hx] at h0
          simpa using h0
  | x i t alt iht ihalt =>
    intro c m listed rs R hr h
    have hlt : ∀ r ∈ Region.ready .any l.toArray listed, r < l.length := fun r hm => by
      obtain ⟨_, o, ho, _⟩ := mem_ready.1 hm
      have := (Array.getElem?_eq_some_iff.1 ho).1
      simpa using this
    cases c with
    | zero => cases rs <;> simp [okM] at h
    | succ c =>
      cases rs with
      | none =>
        simp only [okM] at h
        simp only [okT]
        have e := ready_eq hT R
        rw [← e] at h
        cases hq : Region.ready .any l.toArray listed with
        | nil => rw [hq] at h; cases h
        | cons r rs =>
          rw [hq] at h
          simp only [Bool.and_eq_true] at h ⊢
          obtain ⟨⟨h1, h2⟩, h3⟩ := h
          have hri := Nat.eq_of_beq_eq_true h1
          subst hri
          exact ⟨⟨by simp, iht c _ _ none (R.set (hlt r (by rw [hq]; simp))) (fun _ e => by cases e) h2⟩, ihalt (c + 1) m listed (some rs) R (fun r' e x hx => hlt x (by rw [hq]; cases e; simp [hx])) h3⟩
      | some rr =>
        cases rr with
        | nil => simp [okM] at h
        | cons r rs =>
          simp only [okM, Bool.and_eq_true] at h
          simp only [okT, Bool.and_eq_true]
          obtain ⟨⟨h1, h2⟩, h3⟩ := h
          have hri := Nat.eq_of_beq_eq_true h1
          subst hri
          exact ⟨⟨by simp, iht c _ _ none (R.set (hr _ rfl r (by simp))) (fun _ e => by cases e) h2⟩, ihalt (c + 1) m listed (some rs) R (fun r' e x hx => hr _ rfl x (by cases e; simp [hx])) h3⟩
  | no =>
    intro c m listed rs R hr h
    cases rs with
    | none => cases c <;> simp [okM] at h
    | some r =>
      cases r with
      | nil => cases c <;> rfl
      | cons => cases c <;> simp [okM] at h
theorem rep0 (l : List Oper) : Rep l.length (Array.replicate l.length false) 0 := by
  refine ⟨by simp, fun i => ?_⟩
  simp [Array.getD_eq_getD_getElem?, Array.getElem?_replicate]
  split <;> rfl
end
section
variable {P : Program} {B : RO} {N : Nat} {ops : Array Oper} {k : List Item} {Φ : Lv → Env → Heap → Prop} {C : Heap → Prop} {z : List Nat}
def RunT (P : Program) (B : RO) (N : Nat) (ops : Array Oper) (k : List Item) (Φ : Lv → Env → Heap → Prop) (C : Heap → Prop) (z : List Nat) : Ord → Env → Heap → Prop
  | .nil, e, h => Run P B N k e h Φ
  | .q i t, e, h => ∃ o v, ops[i]? = some o ∧ YieldsC P B N ops C o v e ∧ RunT P B N ops k Φ C z t (updO e o.dst v) h
  | .x i t alt, e, h => OpH P B N ops i (fun e' h' => (z.contains i = false → C h') ∧ RunT P B N ops k Φ C z t e' h') e h ∧ RunT P B N ops k Φ C z alt e h
  | .no, _, _ => True
theorem RunT.joinJ {t t0 : Ord} {e0 : Env} {h0 : Heap} (J : Env → Heap → Prop) (hj : ∀ e h, J e h → RunT P B N ops k Φ C z t e h) (hx : (∀ e h, J e h → RunT P B N ops k Φ C z t e h) → RunT P B N ops k Φ C z t0 e0 h0) : RunT P B N ops k Φ C z t0 e0 h0 := hx hj
theorem RunT.env {t : Ord} {l : List (Nat × Value)} {e : Env} {h : Heap} (ha : Agree l e) (hr : RunT P B N ops k Φ C z t (updL l e) h) : RunT P B N ops k Φ C z t e h := by rwa [updL_eq ha] at hr
theorem RunT.any (hs : Region.noSelect ops = true) : ∀ (t : Ord),
    (∀ (n : Nat) (listed : Array Bool) (e : Env) (h : Heap), ClosedL ops listed → okT ops z t n listed none = true → (needC z listed = true → C h) → RunT P B N ops k Φ C z t e h → RunAny P B N ops k Φ C z n listed e h) ∧
    (∀ (n : Nat) (listed : Array Bool) (rs : List Nat) (e : Env) (h : Heap), ClosedL ops listed → okT ops z t n listed (some rs) = true → (∀ j ∈ rs, j ∈ Region.ready .any ops listed) → RunT P B N ops k Φ C z t e h → ∀ j ∈ rs, OpH P B N ops j (RunAny P B N ops k Φ C z (n - 1) (listed.setIfInBounds j true)) e h) := by
  have lateIn : ∀ {listed : Array Bool} {j : Nat}, j ∈ Region.ready .any ops listed → needC z (listed.setIfInBounds j true) = true → z.contains j = false := fun {listed j} hj' hn => by
    have hlt : j < listed.size := by
      have hun := (mem_ready.1 hj').1
      rcases Nat.lt_or_ge j listed.size with h' | h'
      · exact h'
      · simp [Array.getD, Nat.not_lt.2 h'] at hun
    cases hc : z.contains j with
    | false => rfl
    | true =>
      have hm : j ∈ z := by simpa using hc
      have := List.all_eq_true.1 hn j hm
      simp [Array.getD, hlt] at this
  intro t
  induction t with
  | nil =>
    refine ⟨fun n listed e h hcl hok hC hr => ?_, fun n listed rs e h hcl hok => by simp [okT] at hok⟩
    simp only [okT, Bool.and_eq_true, beq_iff_eq] at hok
    obtain ⟨rfl, h2⟩ := hok
    exact ⟨hC, by simpa using h2, hr⟩
  | no =>
    refine ⟨fun n listed e h hcl hok => by simp [okT] at hok, fun n listed rs e h hcl hok _ _ j hj => ?_⟩
    cases rs with
    | nil => cases hj
    | cons r rs => simp [okT] at hok
  | q i t ih =>
    refine ⟨fun n listed e h hcl hok hC hr => ?_, fun n listed rs e h hcl hok => by simp [okT] at hok⟩
    cases n with
    | zero => simp [okT] at hok
    | succ n =>
      simp only [okT, Bool.and_eq_true] at hok
      obtain ⟨⟨⟨⟨h1, h2⟩, h3⟩, h4⟩, h5⟩ := hok
      obtain ⟨o, v, ho, hy, hr⟩ := hr
      exact RunAny.first ho (Region.noSelect_spec hs) h3 n listed e h hcl (Region.free_spec ho h2) (by simpa using h1) hy (hC h4) h4 (ih.1 _ _ _ _ (hcl.set (by simpa using h1)) h5 (fun _ => hC h4) hr)
  | x i t alt iht iha =>
    have one : ∀ {n : Nat} {listed : Array Bool} {e : Env} {h : Heap}, ClosedL ops listed → i ∈ Region.ready .any ops listed → okT ops z t n (listed.setIfInBounds i true) none = true →
        OpH P B N ops i (fun e' h' => (z.contains i = false → C h') ∧ RunT P B N ops k Φ C z t e' h') e h → OpH P B N ops i (RunAny P B N ops k Φ C z n (listed.setIfInBounds i true)) e h := fun hcl hi hok ho =>
      ho.mono fun e' h' hh => iht.1 _ _ _ _ (hcl.set hi) hok (fun hn => hh.1 (lateIn hi hn)) hh.2
    refine ⟨fun n listed e h hcl hok hC hr => ?_, fun n listed rs e h hcl hok hrs hr j hj => ?_⟩
    · cases n with
      | zero => simp [okT] at hok
      | succ n =>
        simp only [okT] at hok
        cases hrd : Region.ready .any ops listed with
        | nil => rw [hrd] at hok; cases hok
        | cons r rs =>
          rw [hrd] at hok
          simp only [Bool.and_eq_true, beq_iff_eq] at hok
          obtain ⟨⟨rfl, h2⟩, h3⟩ := hok
          have hmem : r ∈ Region.ready .any ops listed := by rw [hrd]; simp
          refine ⟨hC, fun h0 => (by rw [hrd] at h0; cases h0), fun j hj => ?_⟩
          rw [hrd] at hj
          rcases List.mem_cons.1 hj with rfl | hj
          · exact one hcl hmem h2 hr.1
          · exact iha.2 (n + 1) listed rs e h hcl h3 (fun j' hj' => by rw [hrd]; exact List.mem_cons_of_mem _ hj') hr.2 j hj
    · cases n with
      | zero => cases rs <;> simp [okT] at hok
      | succ n =>
        cases rs with
        | nil => simp [okT] at hok
        | cons r rs =>
          simp only [okT, Bool.and_eq_true, beq_iff_eq] at hok
          obtain ⟨⟨rfl, h2⟩, h3⟩ := hok
          rcases List.mem_cons.1 hj with rfl | hj
          · exact one hcl (hrs j (by simp)) h2 hr.1
          · exact iha.2 (n + 1) listed rs e h hcl h3 (fun j' hj' => hrs j' (List.mem_cons_of_mem _ hj')) hr.2 j hj
theorem Run.drawT {id : Nat} {l : List Oper} {e : Env} {h : Heap} (C : Heap → Prop) (z : List Nat) (ord : Ord) (hm : P.follows .mixedOrders = true) (hs : (Region.noSelect l.toArray && okT l.toArray z ord l.length (Array.replicate l.length false) none) = true)
    (hC : C h) (hr : RunT P B N l.toArray k Φ C z ord e h) : Run P B N (.code (.region id l.toArray true) :: k) e h Φ := by
  simp only [Bool.and_eq_true] at hs
  refine Run.region_draw fun t => ?_
  simp only [Region.schedule, hm, Bool.true_or, if_true, Region.linearise]
  have := (RunT.any (C := C) (z := z) hs.1 ord).1 l.length (Array.replicate l.length false) e h (fun m om hm hl => by
    have hlt := (Array.getElem?_eq_some_iff.1 hm).1
    simp only [List.size_toArray] at hlt
    simp [Array.getD, hlt] at hl) hs.2 (fun _ => hC) hr
  simpa using RunAny.sound l.length t _ e h this
theorem Run.drawM {id : Nat} {l : List Oper} {e : Env} {h : Heap} (C : Heap → Prop) (z : List Nat) (T : Tab) (ord : Ord) (hm : P.follows .mixedOrders = true) (hs : (Region.noSelect l.toArray && tabOk l z T && okM l.length z T ord l.length 0 none) = true)
    (hC : C h) (hr : RunT P B N l.toArray k Φ C z ord e h) : Run P B N (.code (.region id l.toArray true) :: k) e h Φ := by
  simp only [Bool.and_eq_true] at hs
  refine Run.drawT C z ord hm ?_ hC hr
  rw [Bool.and_eq_true]
  exact ⟨hs.1.1, okM_okT hs.1.2 ord _ _ _ none (rep0 l) (fun r e => by cases e) hs.2⟩
theorem RunT.quiet {i : Nat} {t : Ord} {o : Oper} {v : Value} {e : Env} {h : Heap} (ho : ops[i]? = some o) (hd : (dstOK N o && noDefer o) = true) (hw : Region.wanted o (yieldE ops e) = true) (hq : ∀ h', C h' → QuietAt P B o e h' v) (hr : RunT P B N ops k Φ C z t (updO e o.dst v) h) : RunT P B N ops k Φ C z (.q i t) e h := by
  simp only [Bool.and_eq_true] at hd
  exact ⟨o, v, ho, ⟨hd.1, hd.2, .inl ⟨hw, hq⟩⟩, hr⟩
theorem RunT.skip {i : Nat} {t : Ord} {o : Oper} {e : Env} {h : Heap} (ho : ops[i]? = some o) (hd : (dstOK N o && noDefer o) = true) (hw : Region.wanted o (yieldE ops e) = false) (hr : RunT P B N ops k Φ C z t (updO e o.dst undef) h) : RunT P B N ops k Φ C z (.q i t) e h := by
  simp only [Bool.and_eq_true] at hd
  exact ⟨o, undef, ho, ⟨hd.1, hd.2, .inr ⟨hw, rfl⟩⟩, hr⟩
end
section
variable {P : Program} {B : RO} {h : Heap} {ρ : Operand → Value} {d : Option Nat} {ty : TypeId} {pos : String} {aft : Array Edge} {g : Option (Nat × Bool)} {K : Next → Heap → Prop}
theorem sem_capSl {x : Operand} {t : TypeId} (a : Option Addr) (n c : Nat) (hx : ρ x = .slice a n c) (ht : slT P t = true) (k : K (.value (.int .i64 c)) h) : semH P B (execOp ρ ⟨d, .call ⟨.builtin .cap, #[x], #[t]⟩, ty, pos, aft, g⟩) h K := by
  unfold slT at ht
  split at ht
  · rename_i e hu
    rw [exec_builtin #[ρ x] (by simp)]
    show semH P B (do pure (.value (← Builtin.cap_ #[t] ty #[ρ x]))) h K
    rw [semH_value, hx]
    simp only [Builtin.cap_, List.getElem?_toArray, List.getElem?_cons_zero]
    rw [semH_und hu]
    exact k
  · cases ht
end
end Go.Proofs.Ytcncdfmnpmmikaa.H
namespace Go.Proofs.Ytcncdfmnpmmikaa.H
open Go
set_option linter.unusedVariables false
abbrev LE := List (Nat × Value)
def lk : LE → Nat → Option Value
  | [], _ => none
  | (t, v) :: l, s => bif Nat.beq s t then some v else lk l s
theorem lk_updL {e : Env} {s : Nat} {v : Value} : ∀ {L : LE}, lk L s = some v → updL L e s = v := by
  intro L
  induction L with
  | nil => intro h; cases h
  | cons p L ih =>
    obtain ⟨t, u⟩ := p
    intro h
    simp only [lk] at h
    simp only [updL, upd]
    cases hb : Nat.beq s t with
    | true => rw [hb] at h; simpa using h
    | false => rw [hb] at h; simpa using ih h
def lkO (L : LE) : Operand → Option Value
  | .tmp t => lk L t
  | .const v => some v
  | .global g => some (.pointer (some ⟨g, 0, none⟩))
  | .func f => some (.func (.func f) #[] #[])
theorem lkO_eval {e : Env} {L : LE} {x : Operand} {v : Value} (h : lkO L x = some v) : evalE (updL L e) x = v := by
  cases x with
  | tmp t => exact lk_updL h
  | const u => exact Option.some.inj h
  | global g => exact Option.some.inj h
  | func f => exact Option.some.inj h
def putO (L : LE) (d : Option Nat) (v : Value) : LE := match d with
  | some d => (d, v) :: L
  | none => L
theorem putO_eq {e : Env} {L : LE} {d : Option Nat} {v : Value} : updL (putO L d v) e = updO (updL L e) d v := by cases d <;> rfl
def nthO {α : Type} : List α → Nat → Option α
  | [], _ => none
  | a :: _, 0 => some a
  | _ :: l, i + 1 => nthO l i
theorem nthO_eq {α : Type} : ∀ (l : List α) (i : Nat), nthO l i = l[i]? := by
  intro l
  induction l with
  | nil => intro i; simp [nthO]
  | cons a l ih => intro i; cases i <;> simp [nthO, ih]
theorem nthO_arr {α : Type} {a : Array α} {i : Nat} : nthO a.toList i = a[i]? := by rw [nthO_eq]; simp
def ikN : IntKind → Nat
  | .i8 => 0 | .i16 => 1 | .i32 => 2 | .i64 => 3 | .u8 => 4 | .u16 => 5 | .u32 => 6 | .u64 => 7
theorem ikN_inj {a b : IntKind} (h : Nat.beq (ikN a) (ikN b) = true) : a = b := by
  cases a <;> cases b <;> first | rfl | (simp [ikN] at h)
abbrev FT := List (Nat × Nat × Nat)
def ftAt : FT → Nat → Nat → Option Nat
  | [], _, _ => none
  | (s, f, o) :: l, s', f' => bif Nat.beq s' s && Nat.beq f' f then some o else ftAt l s' f'
def FTok (P : Program) (ft : FT) : Prop := ∀ p ∈ ft, fldB P p.1 p.2.1 = some p.2.2
theorem ftAt_ok {P : Program} : ∀ {ft : FT} {s f o : Nat}, FTok P ft → ftAt ft s f = some o → fldB P s f = some o := by
  intro ft
  induction ft with
  | nil => intro s f o _ h; cases h
  | cons p ft ih =>
    obtain ⟨s', f', o'⟩ := p
    intro s f o hp h
    simp only [ftAt] at h
    cases hb : (Nat.beq s s' && Nat.beq f f') with
    | true =>
      rw [hb] at h
      simp only [Bool.and_eq_true] at hb
      have h1 := Nat.eq_of_beq_eq_true hb.1
      have h2 := Nat.eq_of_beq_eq_true hb.2
      subst h1 h2
      have := hp (s, f, o') (by simp)
      simpa [this] using h
    | false => rw [hb] at h; exact ih (fun q hq => hp q (by simp [hq])) h
def ftB (P : Program) : FT → Bool
  | [] => true
  | (s, f, o) :: l => match fldB P s f with
    | some o' => Nat.beq o' o && ftB P l
    | none => false
theorem ftB_ok {P : Program} : ∀ {ft : FT}, ftB P ft = true → FTok P ft := by
  intro ft
  induction ft with
  | nil => intro _ p hp; cases hp
  | cons q ft ih =>
    obtain ⟨s, f, o⟩ := q
    intro h p hp
    simp only [ftB] at h
    split at h
    · rename_i o' ho
      simp only [Bool.and_eq_true] at h
      rcases List.mem_cons.1 hp with rfl | hp
      · rw [ho, Nat.eq_of_beq_eq_true h.1]
      · exact ih h.2 p hp
    · cases h
def mapO (L : LE) : List Operand → Option (List Value)
  | [] => some []
  | x :: l => match lkO L x, mapO L l with
    | some v, some vs => some (v :: vs)
    | _, _ => none
theorem mapO_eval {e : Env} {L : LE} : ∀ {l : List Operand} {vs : List Value}, mapO L l = some vs → l.map (evalE (updL L e)) = vs := by
  intro l
  induction l with
  | nil => intro vs h; simp [mapO] at h; subst h; rfl
  | cons x l ih =>
    intro vs h
    simp only [mapO] at h
    split at h
    · rename_i v ws h1 h2
      simp only [Option.some.injEq] at h
      subst h
      simp [lkO_eval h1, ih h2]
    · cases h
def pureV (ft : FT) (L : LE) : Op → Option Value
  | .move x => lkO L x
  | .assign x => lkO L x
  | .pick c x y => match lkO L c with
    | some (.bool true) => lkO L x
    | some (.bool false) => lkO L y
    | _ => none
  | .extract x i => match lkO L x with
    | some (.tuple vs) => nthO vs.toList i
    | _ => none
  | .unOp .not _ x => match lkO L x with
    | some (.bool b) => some (.bool (!b))
    | _ => none
  | .binOp op _ x y _ => match lkO L x, lkO L y with
    | some (.int k a), some (.int k' b) => bif Nat.beq (ikN k) (ikN k') then binI op k a b else none
    | _, _ => none
  | .fieldAddr s x f => match lkO L x with
    | some (.pointer (some A)) => match ftAt ft s f with
      | some off => some (.pointer (some (A.add off)))
      | none => none
    | _ => none
  | .nilCheck x => match lkO L x with
    | some (.pointer (some A)) => some (.pointer (some A))
    | some (.func (.func g) a b) => some (.func (.func g) a b)
    | _ => none
  | .makeFunc (.func g) a b => match mapO L a.toList, mapO L b.toList with
    | some vs, some ws => some (.func (.func g) vs.toArray ws.toArray)
    | _, _ => none
  | _ => none
theorem pureV_sem {P : Program} {B : RO} {ft : FT} (hft : FTok P ft) {L : LE} {e : Env} {o : Oper} {v : Value} {h : Heap} {K : Next → Heap → Prop} (hp : pureV ft L o.op = some v) (k : K (.value v) h) : semH P B (execOp (evalE (updL L e)) o) h K := by
  obtain ⟨d, op, ty, pos, aft, g⟩ := o
  simp only at hp
  unfold pureV at hp
  split at hp
  · exact sem_move v (lkO_eval hp) k
  · exact sem_assign v (lkO_eval hp) k
  · split at hp
    · rename_i hc; exact sem_pick true v (lkO_eval hc) ((if_pos rfl).trans (lkO_eval hp)) k
    · rename_i hc; exact sem_pick false v (lkO_eval hc) ((if_neg Bool.false_ne_true).trans (lkO_eval hp)) k
    · cases hp
  · split at hp
    · rename_i vs hx
      rw [nthO_arr] at hp
      exact sem_extract vs v (lkO_eval hx) hp k
    · cases hp
  · split at hp
    · rename_i b hx; cases hp; exact sem_not b (lkO_eval hx) k
    · cases hp
  · split at hp
    · rename_i k1 a k2 b hx hy
      cases hb : Nat.beq (ikN k1) (ikN k2) with
      | true =>
        rw [hb] at hp
        have := ikN_inj hb
        subst this
        exact sem_binI k1 a b v (lkO_eval hx) (lkO_eval hy) (by simpa using hp) k
      | false => rw [hb] at hp; cases hp
    · cases hp
  · split at hp
    · rename_i A hx
      split at hp
      · rename_i off ho
        cases hp
        exact sem_fieldAddr A off (lkO_eval hx) (ftAt_ok hft ho) k
      · cases hp
    · cases hp
  · split at hp
    · rename_i A hx; cases hp; exact sem_nilCheck A (lkO_eval hx) k
    · rename_i g' a b hx; cases hp; exact sem_nilCheckF g' a b (lkO_eval hx) k
    · cases hp
  · split at hp
    · rename_i g' a b vs ws ha hb
      cases hp
      have h1 := mapO_eval (e := e) ha
      have h2 := mapO_eval (e := e) hb
      exact sem_makeFunc _ _ (Array.toList_inj.1 (by simp [h1])) (Array.toList_inj.1 (by simp [h2])) k
    · cases hp
  · cases hp
def okO (N : Nat) (o : Oper) : Bool := dstOK N o && noDefer o
def wantL (ops : List Oper) (L : LE) (o : Oper) : Option Bool := match o.guard with
  | none => some true
  | some (j, w) => match nthO ops j with
    | none => none
    | some oj => match oj.dst with
      | none => none
      | some d => match lk L d with
        | some (.bool true) => some w
        | some (.bool false) => some (bif w then false else true)
        | some (.tuple _) => some false
        | _ => none
theorem wantL_eq {ops : Array Oper} {L : LE} {e : Env} {o : Oper} {b : Bool} (h : wantL ops.toList L o = some b) : Region.wanted o (yieldE ops (updL L e)) = b := by
  unfold wantL at h
  unfold Region.wanted
  split at h
  · rename_i hg; rw [hg]; simpa using h
  · rename_i j w hg
    rw [hg]
    simp only
    split at h
    · cases h
    · rename_i oj hj
      rw [nthO_arr] at hj
      split at h
      · cases h
      · rename_i d hd
        have hb : (ops[j]?).bind (·.dst) = some d := by rw [hj]; exact hd
        unfold yieldE
        rw [hb]
        simp only
        split at h
        · rename_i hl; rw [lk_updL hl]; cases w <;> simp_all
        · rename_i hl; rw [lk_updL hl]; cases w <;> simp_all
        · rename_i hl; rw [lk_updL hl]; cases w <;> simp_all
        · cases h
def quiet1 (ft : FT) (N : Nat) (ops : List Oper) (i : Nat) (L : LE) : Option LE := match nthO ops i with
  | none => none
  | some o => match okO N o, wantL ops L o with
    | true, some true => match pureV ft L o.op with
      | some v => some (putO L o.dst v)
      | none => none
    | true, some false => some (putO L o.dst undef)
    | _, _ => none
def st1 (ft : FT) (N : Nat) (L : LE) : List Item → Option (List Item × LE)
  | .code .skip :: k => some (k, L)
  | .code (.label _) :: k => some (k, L)
  | .inBlock _ :: k => some (k, L)
  | .inScope _ :: k => some (k, L)
  | .code (.scope c) :: k => some (.code c :: .inScope c :: k, L)
  | .code (.seq x y) :: k => some (.code x :: .code y :: k, L)
  | .code (.block id c) :: k => some (.code c :: .inBlock id :: k, L)
  | .code (.exit id) :: k => match exitTo id k with
    | some k' => some (k', L)
    | none => none
  | .code (.cond c x y) :: k => match lkO L c with
    | some (.bool true) => some (.code x :: k, L)
    | some (.bool false) => some (.code y :: k, L)
    | _ => none
  | .code (.region _ ops false) :: k => some (.inRegion ops (List.range ops.size) :: k, L)
  | .inRegion _ [] :: k => some (k, L)
  | .inRegion ops (i :: r) :: k => match quiet1 ft N ops.toList i L with
    | some L' => some (.inRegion ops r :: k, L')
    | none => none
  | _ => none
def aut (ft : FT) (N : Nat) : Nat → List Item → LE → Option (List Item × LE)
  | 0, t, L => some (t, L)
  | n + 1, t, L => match st1 ft N L t with
    | some (t', L') => aut ft N n t' L'
    | none => none
def autT (ft : FT) (N : Nat) (ops : List Oper) : Nat → Ord → LE → Option (Ord × LE)
  | 0, t, L => some (t, L)
  | n + 1, .q i t, L => match quiet1 ft N ops i L with
    | some L' => autT ft N ops n t L'
    | none => none
  | _ + 1, _, _ => none
section
variable {P : Program} {B : RO} {N : Nat} {k : List Item} {e : Env} {h : Heap} {Φ : Lv → Env → Heap → Prop} {ft : FT}
theorem st1_run (hft : FTok P ft) {t t' : List Item} {L L' : LE} (hs : st1 ft N L t = some (t', L')) (hr : Run P B N t' (updL L' e) h Φ) : Run P B N t (updL L e) h Φ := by
  unfold st1 at hs
  split at hs <;> try (cases hs; done)
  · cases hs; exact hr.skip
  · cases hs; exact hr.label
  · cases hs; exact hr.inBlock
  · cases hs; exact hr.inScope
  · cases hs; exact hr.scope
  · cases hs; exact hr.seq
  · cases hs; exact hr.block
  · split at hs
    · rename_i k' hk; cases hs; exact hr.exit hk
    · cases hs
  · split at hs
    · rename_i hc; cases hs; exact Run.condT (lkO_eval hc) hr
    · rename_i hc; cases hs; exact Run.condF (lkO_eval hc) hr
    · cases hs
  · cases hs; exact hr.region
  · cases hs; exact hr.region_end
  · rename_i ops i r k0
    split at hs
    · rename_i L1 hq
      cases hs
      unfold quiet1 at hq
      split at hq
      · cases hq
      · rename_i o ho
        rw [nthO_arr] at ho
        split at hq
        · rename_i hok hw
          have hok' : (dstOK N o && noDefer o) = true := hok
          split at hq
          · rename_i v hv
            cases hq
            refine Run.go ho hok' (wantL_eq hw) (pureV_sem hft hv ?_)
            show Run P B N _ (updO (updL L e) o.dst v) h Φ
            rw [← putO_eq]; exact hr
          · cases hq
        · rename_i hok hw
          cases hq
          have hok' : (dstOK N o && noDefer o) = true := hok
          refine Run.no ho hok' (wantL_eq hw) ?_
          rw [← putO_eq]; exact hr
        · cases hq
    · cases hs
theorem aut_run (hft : FTok P ft) : ∀ (n : Nat) {t t' : List Item} {L L' : LE}, aut ft N n t L = some (t', L') → Run P B N t' (updL L' e) h Φ → Run P B N t (updL L e) h Φ := by
  intro n
  induction n with
  | zero => intro t t' L L' ha hr; simp only [aut, Option.some.injEq, Prod.mk.injEq] at ha; obtain ⟨rfl, rfl⟩ := ha; exact hr
  | succ n ih =>
    intro t t' L L' ha hr
    simp only [aut] at ha
    split at ha
    · rename_i t1 L1 h1; exact st1_run hft h1 (ih ha hr)
    · cases ha
theorem autT_run (hft : FTok P ft) {ops : Array Oper} {C : Heap → Prop} {z : List Nat} : ∀ (n : Nat) {t t' : Ord} {L L' : LE}, autT ft N ops.toList n t L = some (t', L') → RunT P B N ops k Φ C z t' (updL L' e) h → RunT P B N ops k Φ C z t (updL L e) h := by
  intro n
  induction n with
  | zero => intro t t' L L' ha hr; simp only [autT, Option.some.injEq, Prod.mk.injEq] at ha; obtain ⟨rfl, rfl⟩ := ha; exact hr
  | succ n ih =>
    intro t t' L L' ha hr
    unfold autT at ha
    split at ha
    · rename_i heq; cases heq
    · rename_i i t heq
      cases heq
      split at ha
      · rename_i L1 hq
        unfold quiet1 at hq
        split at hq
        · cases hq
        · rename_i o ho
          rw [nthO_arr] at ho
          split at hq
          · rename_i hok hw
            have hok' : (dstOK N o && noDefer o) = true := hok
            split at hq
            · rename_i v hv
              cases hq
              refine RunT.quiet (v := v) ho hok' (wantL_eq hw) (fun h' hC => pureV_sem hft hv ⟨rfl, rfl⟩) ?_
              rw [← putO_eq]; exact ih ha hr
            · cases hq
          · rename_i hok hw
            cases hq
            have hok' : (dstOK N o && noDefer o) = true := hok
            refine RunT.skip ho hok' (wantL_eq hw) ?_
            rw [← putO_eq]; exact ih ha hr
          · cases hq
      · cases ha
    · cases ha
def at1 (N : Nat) (ops : List Oper) (i : Nat) (L : LE) : Option Oper := match nthO ops i with
  | none => none
  | some o => match okO N o, wantL ops L o with
    | true, some true => some o
    | _, _ => none
theorem at1_ok {ops : Array Oper} {i : Nat} {L : LE} {o : Oper} (h : at1 N ops.toList i L = some o) : ops[i]? = some o ∧ (dstOK N o && noDefer o) = true ∧ Region.wanted o (yieldE ops (updL L e)) = true := by
  unfold at1 at h
  split at h
  · cases h
  · rename_i o' ho
    rw [nthO_arr] at ho
    split at h
    · rename_i hok hw
      cases h
      exact ⟨ho, hok, wantL_eq hw⟩
    · cases h
variable {ops : Array Oper} {i : Nat} {idx : List Nat} {L : LE} {d : Nat} {op : Op} {ty : TypeId} {pos : String} {aft : Array Edge} {g : Option (Nat × Bool)}
theorem zg (ho : at1 N ops.toList i L = some ⟨some d, op, ty, pos, aft, g⟩) (hs : semH P B (execOp (evalE (updL L e)) ⟨some d, op, ty, pos, aft, g⟩) h (fun nx h' => After P B nx h' (fun v h'' => Run P B N (.inRegion ops idx :: k) (updL ((d, v) :: L) e) h'' Φ))) :
    Run P B N (.inRegion ops (i :: idx) :: k) (updL L e) h Φ := by
  obtain ⟨h1, h2, h3⟩ := at1_ok (e := e) ho
  exact Run.go h1 h2 h3 hs
theorem zg0 (ho : at1 N ops.toList i L = some ⟨none, op, ty, pos, aft, g⟩) (hs : semH P B (execOp (evalE (updL L e)) ⟨none, op, ty, pos, aft, g⟩) h (fun nx h' => After P B nx h' (fun v h'' => Run P B N (.inRegion ops idx :: k) (updL L e) h'' Φ))) :
    Run P B N (.inRegion ops (i :: idx) :: k) (updL L e) h Φ := by
  obtain ⟨h1, h2, h3⟩ := at1_ok (e := e) ho
  exact Run.go h1 h2 h3 hs
theorem zo {K : Env → Heap → Prop} (ho : at1 N ops.toList i L = some ⟨some d, op, ty, pos, aft, g⟩) (hs : semH P B (execOp (evalE (updL L e)) ⟨some d, op, ty, pos, aft, g⟩) h (fun nx h' => After P B nx h' (fun v h'' => K (updL ((d, v) :: L) e) h''))) : OpH P B N ops i K (updL L e) h := by
  obtain ⟨h1, h2, h3⟩ := at1_ok (e := e) ho
  exact OpH.go h1 h2 h3 hs
theorem zo0 {K : Env → Heap → Prop} (ho : at1 N ops.toList i L = some ⟨none, op, ty, pos, aft, g⟩) (hs : semH P B (execOp (evalE (updL L e)) ⟨none, op, ty, pos, aft, g⟩) h (fun nx h' => After P B nx h' (fun v h'' => K (updL L e) h''))) : OpH P B N ops i K (updL L e) h := by
  obtain ⟨h1, h2, h3⟩ := at1_ok (e := e) ho
  exact OpH.go h1 h2 h3 hs
def no1 (N : Nat) (ops : List Oper) (i : Nat) (L : LE) : Option LE := match nthO ops i with
  | none => none
  | some o => match okO N o, wantL ops L o with
    | true, some false => some (putO L o.dst undef)
    | _, _ => none
theorem zon {K : Env → Heap → Prop} {L' : LE} (ho : no1 N ops.toList i L = some L') (hs : K (updL L' e) h) : OpH P B N ops i K (updL L e) h := by
  unfold no1 at ho
  split at ho
  · cases ho
  · rename_i o h1
    rw [nthO_arr] at h1
    split at ho
    · rename_i hok hw
      cases ho
      refine OpH.no h1 hok (wantL_eq hw) ?_
      rw [← putO_eq]; exact hs
    · cases ho
theorem zq {C : Heap → Prop} {z : List Nat} {t : Ord} {v : Value} (ho : at1 N ops.toList i L = some ⟨some d, op, ty, pos, aft, g⟩) (hq : ∀ h', C h' → QuietAt P B ⟨some d, op, ty, pos, aft, g⟩ (updL L e) h' v) (hr : RunT P B N ops k Φ C z t (updL ((d, v) :: L) e) h) :
    RunT P B N ops k Φ C z (.q i t) (updL L e) h := by
  obtain ⟨h1, h2, h3⟩ := at1_ok (e := e) ho
  exact RunT.quiet h1 h2 h3 hq hr
theorem zqe {z : List Nat} {t : Ord} {v : Value} {h0 : Heap} (ho : at1 N ops.toList i L = some ⟨some d, op, ty, pos, aft, g⟩) (hq : QuietAt P B ⟨some d, op, ty, pos, aft, g⟩ (updL L e) h0 v) (hr : RunT P B N ops k Φ (fun h' => h' = h0) z t (updL ((d, v) :: L) e) h) :
    RunT P B N ops k Φ (fun h' => h' = h0) z (.q i t) (updL L e) h := zq ho (fun _ e => e ▸ hq) hr
def argO : Nat → List Value → LE → Option LE
  | _, [], acc => some acc
  | n, v :: l, acc => argO (n + 1) l ((n, v) :: acc)
theorem Agree.argO {e : Env} : ∀ (l : List Value) (n : Nat) (acc L : LE), (∀ i v, l[i]? = some v → e (n + i) = v) → Agree acc e → argO n l acc = some L → Agree L e := by
  intro l
  induction l with
  | nil => intro n acc L _ ha h; simp only [H.argO, Option.some.injEq] at h; subst h; exact ha
  | cons v l ih =>
    intro n acc L he ha h
    exact ih (n + 1) ((n, v) :: acc) L (fun i u hu => by have := he (i + 1) u (by simpa using hu); rw [← this]; congr 1; omega) ⟨by simpa using he 0 v (by simp), ha⟩ h
theorem zspec {f : FuncId} {c : Code} {l : List Value} {L : LE} {Post : Value → Heap → Prop} {fn : Func} (hf : P.funcs[f]? = some fn) (rs : List ResultVar) (hc : fn.body = some c) (hrs : fn.results = rs.toArray) (hN : fn.ntmps = N) (hn : Nat.ble l.length N = true) (hL : argO 0 l [] = some L)
    (hr : Run P B N [.code c] (updL L (env0 l.toArray)) h (fun j e h' => (j = .fall ∨ j = .ret) ∧ resH P B h' e rs (fun vs => Fin B h' (Post (pack vs))))) :
    Spec P B f l.toArray h Post := by
  refine Spec.of_run hf hc hrs hN (Nat.le_of_ble_eq_true (by simpa using hn)) ?_
  rwa [updL_eq] at hr
  refine Agree.argO l 0 [] L (fun i v hv => ?_) trivial hL
  simp [env0, Array.getD_eq_getD_getElem?, hv]
def argP : List (Nat × Value) → LE → Option LE
  | [], L => some L
  | (t, v) :: l, L => argP l ((t, v) :: L)
theorem argP_eq {e : Env} : ∀ (l : List (Nat × Value)) (L L' : LE), argP l L = some L' → putE (updL L e) l = updL L' e := by
  intro l
  induction l with
  | nil => intro L L' h; simp only [argP, Option.some.injEq] at h; subst h; rfl
  | cons p l ih => obtain ⟨t, v⟩ := p; intro L L' h; exact ih ((t, v) :: L) L' h
theorem zput {todo : List Item} {l : List (Nat × Value)} {L L' : LE} (ha : argP l L = some L') (hr : Run P B N todo (updL L' e) h Φ) : Run P B N todo (putE (updL L e) l) h Φ := by rwa [argP_eq l L L' ha]
theorem zr {X : Env → Heap → Prop} (hr : X e h) : Run P B N (.code .ret :: k) e h (fun j e h => (j = .fall ∨ j = .ret) ∧ X e h) := Run.ret ⟨.inr rfl, hr⟩
theorem zf {X : Env → Heap → Prop} (hr : X e h) : Run P B N [] e h (fun j e h => (j = .fall ∨ j = .ret) ∧ X e h) := Run.fall ⟨.inl rfl, hr⟩
variable {α : Type} {f : α → Value} {A : Addr} {t : TypeId} {x : Operand}
theorem zl {K : α → Prop} (s : ∃ x : α, cellH B h A = some (f x) ∧ K x) (ho : at1 N ops.toList i L = some ⟨some d, .load t x, ty, pos, aft, g⟩) (hx : lkO L x = some (.pointer (some A))) (ht : aggB P t = some false)
    (hr : ∀ x, K x → Run P B N (.inRegion ops idx :: k) (updL ((d, f x) :: L) e) h Φ) : Run P B N (.inRegion ops (i :: idx) :: k) (updL L e) h Φ := by
  obtain ⟨y, hl, hK⟩ := s
  exact zg ho (sem_load1 A (f y) (lkO_eval hx) ht hl (hr y hK))
theorem zn {vs : List Value} {n : Nat} (hl : CellsAt B h A 0 vs) (ho : at1 N ops.toList i L = some ⟨some d, .load t x, ty, pos, aft, g⟩) (hx : lkO L x = some (.pointer (some A))) (ht : aggB P t = some true) (hn : szB P t = some n) (hv : vs.length = n)
    (hr : Run P B N (.inRegion ops idx :: k) (updL ((d, .agg vs.toArray) :: L) e) h Φ) : Run P B N (.inRegion ops (i :: idx) :: k) (updL L e) h Φ :=
  zg ho (sem_loadN A vs (lkO_eval hx) ht (hn.trans (congrArg some hv.symm)) hl hr)
theorem zs1 {y : Operand} {v : Value} {K : Heap → Prop} (s : ∃ h' : Heap, storeH h A v = some h' ∧ K h') (ho : at1 N ops.toList i L = some ⟨none, .store t x y, ty, pos, aft, g⟩) (hx : lkO L x = some (.pointer (some A))) (hy : lkO L y = some v) (h1 : isOne v = true) (hn : szB P t = some 1)
    (hr : ∀ h', K h' → Run P B N (.inRegion ops idx :: k) (updL L e) h' Φ) : Run P B N (.inRegion ops (i :: idx) :: k) (updL L e) h Φ := by
  obtain ⟨h', hl, hK⟩ := s
  exact zg0 ho (sem_store1 A v h' (lkO_eval hx) (lkO_eval hy) h1 hn hl (hr h' hK))
theorem zsn {y : Operand} {vs : List Value} {n : Nat} {K : Heap → Prop} (s : ∃ h' : Heap, StoresAt A h 0 vs h' ∧ K h') (ho : at1 N ops.toList i L = some ⟨none, .store t x y, ty, pos, aft, g⟩) (hx : lkO L x = some (.pointer (some A))) (hy : lkO L y = some (.agg vs.toArray)) (hn : szB P t = some n) (hv : vs.length = n)
    (hr : ∀ h', K h' → Run P B N (.inRegion ops idx :: k) (updL L e) h' Φ) : Run P B N (.inRegion ops (i :: idx) :: k) (updL L e) h Φ := by
  obtain ⟨h', hl, hK⟩ := s
  exact zg0 ho (sem_storeN A vs h' (lkO_eval hx) (lkO_eval hy) (hn.trans (congrArg some hv.symm)) hl (hr h' hK))
theorem zcall {f : FuncId} {args : List Operand} {tys : Array TypeId} {vs : List Value} {Q : Value → Heap → Prop} (s : Spec P B f vs.toArray h Q) (ho : at1 N ops.toList i L = some ⟨some d, .call ⟨.value (.func f), args.toArray, tys⟩, ty, pos, aft, g⟩) (ha : mapO L args = some vs) (hg : Goes P f)
    (hr : ∀ v h', Q v h' → Run P B N (.inRegion ops idx :: k) (updL ((d, v) :: L) e) h' Φ) : Run P B N (.inRegion ops (i :: idx) :: k) (updL L e) h Φ :=
  zg ho (sem_callL vs hg rfl (mapO_eval ha) (Spec.mono s fun v h' hv => hr v h' hv))
theorem znil {p : Option Addr} {K : Addr → Prop} (s : ∃ A : Addr, p = some A ∧ K A) (ho : at1 N ops.toList i L = some ⟨some d, .nilCheck x, ty, pos, aft, g⟩) (hx : lkO L x = some (.pointer p))
    (hr : ∀ A, K A → Run P B N (.inRegion ops idx :: k) (updL ((d, .pointer (some A)) :: L) e) h Φ) : Run P B N (.inRegion ops (i :: idx) :: k) (updL L e) h Φ := by
  obtain ⟨A, hp, hK⟩ := s
  exact zg ho (sem_nilCheck A ((lkO_eval hx).trans (congrArg Value.pointer hp)) (hr A hK))
theorem zal {K : Nat → Heap → Prop} {zs : List Value} {o : AObj} (s : ∀ b : Nat, h b = none → B b = none → ∀ h' : Heap, h' = h.set b o → K b h') (ho : at1 N ops.toList i L = some ⟨some d, .alloc t, ty, pos, aft, g⟩) (hz : zeroB P t = some zs) (hv : o = .vec t (plains zs) zs.length)
    (hr : ∀ b h', K b h' → Run P B N (.inRegion ops idx :: k) (updL ((d, .pointer (some ⟨b, 0, none⟩)) :: L) e) h' Φ) : Run P B N (.inRegion ops (i :: idx) :: k) (updL L e) h Φ := by
  subst hv
  exact zg ho (sem_alloc zs hz fun b h1 h2 => hr b _ (s b h1 h2 _ rfl))
theorem zb1 {K : Nat → Heap → Prop} {v : Value} {o : AObj} (s : ∀ b : Nat, h b = none → B b = none → ∀ h' : Heap, h' = h.set b o → K b h') (ho : at1 N ops.toList i L = some ⟨some d, .box t x, ty, pos, aft, g⟩) (hx : lkO L x = some v) (h1 : isOne v = true) (hv : o = .vec t [.plain v] 1)
    (hr : ∀ b h', K b h' → Run P B N (.inRegion ops idx :: k) (updL ((d, .pointer (some ⟨b, 0, none⟩)) :: L) e) h' Φ) : Run P B N (.inRegion ops (i :: idx) :: k) (updL L e) h Φ := by
  subst hv
  exact zg ho (sem_box1 v (lkO_eval hx) h1 fun b h1 h2 => hr b _ (s b h1 h2 _ rfl))
theorem zbn {K : Nat → Heap → Prop} {vs : List Value} {o : AObj} (s : ∀ b : Nat, h b = none → B b = none → ∀ h' : Heap, h' = h.set b o → K b h') (ho : at1 N ops.toList i L = some ⟨some d, .box t x, ty, pos, aft, g⟩) (hx : lkO L x = some (.agg vs.toArray)) (hv : o = .vec t (plains vs) vs.length)
    (hr : ∀ b h', K b h' → Run P B N (.inRegion ops idx :: k) (updL ((d, .pointer (some ⟨b, 0, none⟩)) :: L) e) h' Φ) : Run P B N (.inRegion ops (i :: idx) :: k) (updL L e) h Φ := by
  subst hv
  exact zg ho (sem_boxN vs (lkO_eval hx) fun b h1 h2 => hr b _ (s b h1 h2 _ rfl))
theorem zt {p S1 S2 : Prop} {w : BinOp} {t' : TypeId} {y : Operand} {kk : IntKind} {a b : Int} (s : (p → S1) ∧ (¬ p → S2)) (ho : at1 N ops.toList i L = some ⟨some d, .binOp w t x y t', ty, pos, aft, g⟩) (hx : lkO L x = some (.int kk a)) (hy : lkO L y = some (.int kk b))
    (hT : p → binI w kk a b = some (.bool true)) (hF : ¬ p → binI w kk a b = some (.bool false))
    (h1 : S1 → Run P B N (.inRegion ops idx :: k) (updL ((d, .bool true) :: L) e) h Φ) (h2 : S2 → Run P B N (.inRegion ops idx :: k) (updL ((d, .bool false) :: L) e) h Φ) : Run P B N (.inRegion ops (i :: idx) :: k) (updL L e) h Φ := by
  by_cases hp : p
  · exact zg ho (sem_binI kk a b _ (lkO_eval hx) (lkO_eval hy) (hT hp) (h1 (s.1 hp)))
  · exact zg ho (sem_binI kk a b _ (lkO_eval hx) (lkO_eval hy) (hF hp) (h2 (s.2 hp)))
theorem zu {p S1 S2 : Prop} {w : BinOp} {t' : TypeId} {y : Operand} {kk : IntKind} {a b : Int} (s : (p → S1) ∧ (¬ p → S2)) (ho : at1 N ops.toList i L = some ⟨some d, .binOp w t x y t', ty, pos, aft, g⟩) (hx : lkO L x = some (.int kk a)) (hy : lkO L y = some (.int kk b))
    (hT : p → binI w kk a b = some (.bool false)) (hF : ¬ p → binI w kk a b = some (.bool true))
    (h1 : S1 → Run P B N (.inRegion ops idx :: k) (updL ((d, .bool false) :: L) e) h Φ) (h2 : S2 → Run P B N (.inRegion ops idx :: k) (updL ((d, .bool true) :: L) e) h Φ) : Run P B N (.inRegion ops (i :: idx) :: k) (updL L e) h Φ := by
  by_cases hp : p
  · exact zg ho (sem_binI kk a b _ (lkO_eval hx) (lkO_eval hy) (hT hp) (h1 (s.1 hp)))
  · exact zg ho (sem_binI kk a b _ (lkO_eval hx) (lkO_eval hy) (hF hp) (h2 (s.2 hp)))
end
end Go.Proofs.Ytcncdfmnpmmikaa.H
namespace Go.Proofs.Ytcncdfmnpmmikaa.H
open Go
set_option linter.unusedVariables false
set_option maxRecDepth 100000
set_option maxHeartbeats 4000000
noncomputable abbrev PG : Program := Go.Proofs.Try.prog
abbrev TY.int : TypeId := 3
abbrev TY.bool : TypeId := 4
abbrev TY.uint8 : TypeId := 5
abbrev TY.string : TypeId := 9
abbrev TY.p_tome_Tome : TypeId := 25
abbrev TY.file_File : TypeId := 41
abbrev TY.a_6_file_File : TypeId := 71
abbrev TY.p_countermandref14_Sheet : TypeId := 72
abbrev TY.countermandref09_File : TypeId := 76
abbrev TY.s_countermandlaw14_Call : TypeId := 79
abbrev TY.countermandlaw14_Call : TypeId := 81
abbrev TY.countermandref14_Sheet : TypeId := 86
abbrev TY.p_draft_Draft_file_File : TypeId := 95
abbrev TY.p_cell_Row_file_File : TypeId := 110
abbrev TY.tome_Tome : TypeId := 113
abbrev TY.draft_Draft_int : TypeId := 116
abbrev TY.draft_entry_int : TypeId := 121
abbrev TY.sheet_Sheet : TypeId := 128
abbrev TY.p_stylus_Stylus : TypeId := 143
abbrev TY.s_uint8 : TypeId := 144
abbrev TY.stylus_Stylus : TypeId := 146
abbrev TY.s_draft_entry_file_File : TypeId := 158
abbrev TY.draft_Draft_file_File : TypeId := 160
abbrev TY.draft_entry_file_File : TypeId := 162
abbrev TY.s_cell_slot_file_File : TypeId := 166
abbrev TY.cell_Row_file_File : TypeId := 168
abbrev TY.cell_slot_file_File : TypeId := 170
theorem TF.agg_110 : aggB PG 110 = some false := by kernel_rfl
theorem TF.agg_143 : aggB PG 143 = some false := by kernel_rfl
theorem TF.agg_144 : aggB PG 144 = some false := by kernel_rfl
theorem TF.agg_157 : aggB PG 157 = some false := by kernel_rfl
theorem TF.agg_158 : aggB PG 158 = some false := by kernel_rfl
theorem TF.agg_162 : aggB PG 162 = some true := by kernel_rfl
theorem TF.agg_166 : aggB PG 166 = some false := by kernel_rfl
theorem TF.agg_170 : aggB PG 170 = some true := by kernel_rfl
theorem TF.agg_25 : aggB PG 25 = some false := by kernel_rfl
theorem TF.agg_3 : aggB PG 3 = some false := by kernel_rfl
theorem TF.agg_4 : aggB PG 4 = some false := by kernel_rfl
theorem TF.agg_41 : aggB PG 41 = some true := by kernel_rfl
theorem TF.agg_5 : aggB PG 5 = some false := by kernel_rfl
theorem TF.agg_71 : aggB PG 71 = some true := by kernel_rfl
theorem TF.agg_72 : aggB PG 72 = some false := by kernel_rfl
theorem TF.agg_76 : aggB PG 76 = some true := by kernel_rfl
theorem TF.agg_81 : aggB PG 81 = some true := by kernel_rfl
theorem TF.agg_9 : aggB PG 9 = some false := by kernel_rfl
theorem TF.agg_95 : aggB PG 95 = some false := by kernel_rfl
theorem TF.arr_71 : arrB PG 71 = some (6, 41, 2, true) := by kernel_rfl
theorem TF.arr_77 : arrB PG 77 = some (6, 76, 2, true) := by kernel_rfl
theorem TF.arr_84 : arrB PG 84 = some (6, 4, 1, false) := by kernel_rfl
theorem TF.bool_4 : boolT PG 4 = true := by kernel_rfl
theorem TF.eqg_41 : eqGB PG 41 = false := by kernel_rfl
theorem TF.eqg_76 : eqGB PG 76 = false := by kernel_rfl
theorem TF.flat_41 : flat6B PG 41 = some [.bool, .str] := by kernel_rfl
theorem TF.flat_76 : flat6B PG 76 = some [.bool, .str] := by kernel_rfl
theorem TF.goes_104 : Goes PG 104 := ⟨Try.f104, Try.func104, by kernel_rfl, by kernel_rfl⟩
theorem TF.goes_105 : Goes PG 105 := ⟨Try.f105, Try.func105, by kernel_rfl, by kernel_rfl⟩
theorem TF.goes_114 : Goes PG 114 := ⟨Try.f114, Try.func114, by kernel_rfl, by kernel_rfl⟩
theorem TF.goes_115 : Goes PG 115 := ⟨Try.f115, Try.func115, by kernel_rfl, by kernel_rfl⟩
theorem TF.goes_116 : Goes PG 116 := ⟨Try.f116, Try.func116, by kernel_rfl, by kernel_rfl⟩
theorem TF.goes_117 : Goes PG 117 := ⟨Try.f117, Try.func117, by kernel_rfl, by kernel_rfl⟩
theorem TF.goes_118 : Goes PG 118 := ⟨Try.f118, Try.func118, by kernel_rfl, by kernel_rfl⟩
theorem TF.goes_120 : Goes PG 120 := ⟨Try.f120, Try.func120, by kernel_rfl, by kernel_rfl⟩
theorem TF.goes_121 : Goes PG 121 := ⟨Try.f121, Try.func121, by kernel_rfl, by kernel_rfl⟩
theorem TF.goes_122 : Goes PG 122 := ⟨Try.f122, Try.func122, by kernel_rfl, by kernel_rfl⟩
theorem TF.goes_123 : Goes PG 123 := ⟨Try.f123, Try.func123, by kernel_rfl, by kernel_rfl⟩
theorem TF.goes_125 : Goes PG 125 := ⟨Try.f125, Try.func125, by kernel_rfl, by kernel_rfl⟩
theorem TF.goes_126 : Goes PG 126 := ⟨Try.f126, Try.func126, by kernel_rfl, by kernel_rfl⟩
theorem TF.goes_127 : Goes PG 127 := ⟨Try.f127, Try.func127, by kernel_rfl, by kernel_rfl⟩
theorem TF.goes_13 : Goes PG 13 := ⟨Try.f13, Try.func13, by kernel_rfl, by kernel_rfl⟩
theorem TF.goes_138 : Goes PG 138 := ⟨Try.f138, Try.func138, by kernel_rfl, by kernel_rfl⟩
theorem TF.goes_139 : Goes PG 139 := ⟨Try.f139, Try.func139, by kernel_rfl, by kernel_rfl⟩
theorem TF.goes_148 : Goes PG 148 := ⟨Try.f148, Try.func148, by kernel_rfl, by kernel_rfl⟩
theorem TF.goes_15 : Goes PG 15 := ⟨Try.f15, Try.func15, by kernel_rfl, by kernel_rfl⟩
theorem TF.goes_22 : Goes PG 22 := ⟨Try.f22, Try.func22, by kernel_rfl, by kernel_rfl⟩
theorem TF.goes_23 : Goes PG 23 := ⟨Try.f23, Try.func23, by kernel_rfl, by kernel_rfl⟩
theorem TF.goes_42 : Goes PG 42 := ⟨Try.f42, Try.func42, by kernel_rfl, by kernel_rfl⟩
theorem TF.goes_43 : Goes PG 43 := ⟨Try.f43, Try.func43, by kernel_rfl, by kernel_rfl⟩
theorem TF.goes_44 : Goes PG 44 := ⟨Try.f44, Try.func44, by kernel_rfl, by kernel_rfl⟩
theorem TF.goes_45 : Goes PG 45 := ⟨Try.f45, Try.func45, by kernel_rfl, by kernel_rfl⟩
theorem TF.goes_46 : Goes PG 46 := ⟨Try.f46, Try.func46, by kernel_rfl, by kernel_rfl⟩
theorem TF.goes_47 : Goes PG 47 := ⟨Try.f47, Try.func47, by kernel_rfl, by kernel_rfl⟩
theorem TF.goes_48 : Goes PG 48 := ⟨Try.f48, Try.func48, by kernel_rfl, by kernel_rfl⟩
theorem TF.goes_49 : Goes PG 49 := ⟨Try.f49, Try.func49, by kernel_rfl, by kernel_rfl⟩
theorem TF.goes_50 : Goes PG 50 := ⟨Try.f50, Try.func50, by kernel_rfl, by kernel_rfl⟩
theorem TF.goes_51 : Goes PG 51 := ⟨Try.f51, Try.func51, by kernel_rfl, by kernel_rfl⟩
theorem TF.goes_52 : Goes PG 52 := ⟨Try.f52, Try.func52, by kernel_rfl, by kernel_rfl⟩
theorem TF.goes_53 : Goes PG 53 := ⟨Try.f53, Try.func53, by kernel_rfl, by kernel_rfl⟩
theorem TF.goes_54 : Goes PG 54 := ⟨Try.f54, Try.func54, by kernel_rfl, by kernel_rfl⟩
theorem TF.goes_55 : Goes PG 55 := ⟨Try.f55, Try.func55, by kernel_rfl, by kernel_rfl⟩
theorem TF.goes_56 : Goes PG 56 := ⟨Try.f56, Try.func56, by kernel_rfl, by kernel_rfl⟩
theorem TF.goes_60 : Goes PG 60 := ⟨Try.f60, Try.func60, by kernel_rfl, by kernel_rfl⟩
theorem TF.goes_61 : Goes PG 61 := ⟨Try.f61, Try.func61, by kernel_rfl, by kernel_rfl⟩
theorem TF.goes_67 : Goes PG 67 := ⟨Try.f67, Try.func67, by kernel_rfl, by kernel_rfl⟩
theorem TF.goes_68 : Goes PG 68 := ⟨Try.f68, Try.func68, by kernel_rfl, by kernel_rfl⟩
theorem TF.goes_69 : Goes PG 69 := ⟨Try.f69, Try.func69, by kernel_rfl, by kernel_rfl⟩
theorem TF.goes_72 : Goes PG 72 := ⟨Try.f72, Try.func72, by kernel_rfl, by kernel_rfl⟩
theorem TF.goes_73 : Goes PG 73 := ⟨Try.f73, Try.func73, by kernel_rfl, by kernel_rfl⟩
theorem TF.goes_74 : Goes PG 74 := ⟨Try.f74, Try.func74, by kernel_rfl, by kernel_rfl⟩
theorem TF.goes_85 : Goes PG 85 := ⟨Try.f85, Try.func85, by kernel_rfl, by kernel_rfl⟩
theorem TF.goes_86 : Goes PG 86 := ⟨Try.f86, Try.func86, by kernel_rfl, by kernel_rfl⟩
theorem TF.goes_87 : Goes PG 87 := ⟨Try.f87, Try.func87, by kernel_rfl, by kernel_rfl⟩
theorem TF.goes_88 : Goes PG 88 := ⟨Try.f88, Try.func88, by kernel_rfl, by kernel_rfl⟩
theorem TF.goes_89 : Goes PG 89 := ⟨Try.f89, Try.func89, by kernel_rfl, by kernel_rfl⟩
theorem TF.goes_90 : Goes PG 90 := ⟨Try.f90, Try.func90, by kernel_rfl, by kernel_rfl⟩
theorem TF.goes_91 : Goes PG 91 := ⟨Try.f91, Try.func91, by kernel_rfl, by kernel_rfl⟩
theorem TF.goes_92 : Goes PG 92 := ⟨Try.f92, Try.func92, by kernel_rfl, by kernel_rfl⟩
theorem TF.goes_93 : Goes PG 93 := ⟨Try.f93, Try.func93, by kernel_rfl, by kernel_rfl⟩
theorem TF.goes_94 : Goes PG 94 := ⟨Try.f94, Try.func94, by kernel_rfl, by kernel_rfl⟩
theorem TF.goes_95 : Goes PG 95 := ⟨Try.f95, Try.func95, by kernel_rfl, by kernel_rfl⟩
theorem TF.goes_96 : Goes PG 96 := ⟨Try.f96, Try.func96, by kernel_rfl, by kernel_rfl⟩
theorem TF.goes_97 : Goes PG 97 := ⟨Try.f97, Try.func97, by kernel_rfl, by kernel_rfl⟩
theorem TF.goesx_147 : GoesX PG 147 (Extern.SlicesOverlaps.overlaps #[158, 158] #[4]) := ⟨Try.f147, Try.func147, by kernel_rfl, by kernel_rfl, by kernel_rfl, by kernel_rfl⟩
theorem TF.int_3 : intB PG 3 = some .i64 := by kernel_rfl
theorem TF.int_5 : intB PG 5 = some .u8 := by kernel_rfl
theorem TF.int_57 : intB PG 57 = some .u64 := by kernel_rfl
theorem TF.isStr_9 : isStr PG 9 = true := by kernel_rfl
theorem TF.mixed : PG.follows .mixedOrders = true := by kernel_rfl
theorem TF.places_113 : strPlaces PG 113 = some [(0, 1)] := by kernel_rfl
theorem TF.places_128 : strPlaces PG 128 = some [(0, 1)] := by kernel_rfl
theorem TF.places_146 : strPlaces PG 146 = some [(0, 1)] := by kernel_rfl
theorem TF.places_160 : strPlaces PG 160 = some [(0, 1)] := by kernel_rfl
theorem TF.places_162 : strPlaces PG 162 = some [(0, 1), (1, 2)] := by kernel_rfl
theorem TF.places_168 : strPlaces PG 168 = some [(0, 1)] := by kernel_rfl
theorem TF.places_170 : strPlaces PG 170 = some [(0, 2), (2, 1)] := by kernel_rfl
theorem TF.places_41 : strPlaces PG 41 = some [(0, 1), (1, 1)] := by kernel_rfl
theorem TF.places_76 : strPlaces PG 76 = some [(0, 1), (1, 1)] := by kernel_rfl
theorem TF.places_86 : strPlaces PG 86 = some [(0, 12), (12, 12), (24, 6)] := by kernel_rfl
theorem TF.ptr_110 : ptrB PG 110 = true := by kernel_rfl
theorem TF.ptr_25 : ptrB PG 25 = true := by kernel_rfl
theorem TF.ptr_28 : ptrB PG 28 = true := by kernel_rfl
theorem TF.ptr_95 : ptrB PG 95 = true := by kernel_rfl
theorem TF.sl_144 : slT PG 144 = true := by kernel_rfl
theorem TF.sl_158 : slT PG 158 = true := by kernel_rfl
theorem TF.sl_166 : slT PG 166 = true := by kernel_rfl
theorem TF.sl_184 : slT PG 184 = true := by kernel_rfl
theorem TF.sl_45 : slT PG 45 = true := by kernel_rfl
theorem TF.sl_79 : slT PG 79 = true := by kernel_rfl
theorem TF.slc_144 : slcB PG 144 = some (5, 1, 1) := by kernel_rfl
theorem TF.slc_158 : slcB PG 158 = some (162, 3, 32) := by kernel_rfl
theorem TF.slc_166 : slcB PG 166 = some (170, 3, 32) := by kernel_rfl
theorem TF.slc_184 : slcB PG 184 = some (3, 1, 8) := by kernel_rfl
theorem TF.slc_45 : slcB PG 45 = some (9, 1, 16) := by kernel_rfl
theorem TF.slc_79 : slcB PG 79 = some (81, 4, 32) := by kernel_rfl
theorem TF.sz_143 : szB PG 143 = some 1 := by kernel_rfl
theorem TF.sz_144 : szB PG 144 = some 1 := by kernel_rfl
theorem TF.sz_158 : szB PG 158 = some 1 := by kernel_rfl
theorem TF.sz_162 : szB PG 162 = some 3 := by kernel_rfl
theorem TF.sz_166 : szB PG 166 = some 1 := by kernel_rfl
theorem TF.sz_170 : szB PG 170 = some 3 := by kernel_rfl
theorem TF.sz_3 : szB PG 3 = some 1 := by kernel_rfl
theorem TF.sz_4 : szB PG 4 = some 1 := by kernel_rfl
theorem TF.sz_41 : szB PG 41 = some 2 := by kernel_rfl
theorem TF.sz_5 : szB PG 5 = some 1 := by kernel_rfl
theorem TF.sz_71 : szB PG 71 = some 12 := by kernel_rfl
theorem TF.sz_72 : szB PG 72 = some 1 := by kernel_rfl
theorem TF.sz_76 : szB PG 76 = some 2 := by kernel_rfl
theorem TF.sz_81 : szB PG 81 = some 4 := by kernel_rfl
theorem TF.zero_113 : zeroB PG 113 = some [(Value.pointer none)] := by kernel_rfl
theorem TF.zero_128 : zeroB PG 128 = some [(Value.pointer none)] := by kernel_rfl
theorem TF.zero_143 : zeroB PG 143 = some [(Value.pointer none)] := by kernel_rfl
theorem TF.zero_146 : zeroB PG 146 = some [(Value.slice none 0 0)] := by kernel_rfl
theorem TF.zero_160 : zeroB PG 160 = some [(Value.slice none 0 0)] := by kernel_rfl
theorem TF.zero_162 : zeroB PG 162 = some [(Value.int .i64 (0)), (Value.bool false), (Value.string ByteArray.empty)] := by kernel_rfl
theorem TF.zero_168 : zeroB PG 168 = some [(Value.slice none 0 0)] := by kernel_rfl
theorem TF.zero_170 : zeroB PG 170 = some [(Value.bool false), (Value.string ByteArray.empty), (Value.int .i64 (0))] := by kernel_rfl
theorem TF.zero_3 : zeroB PG 3 = some [(Value.int .i64 (0))] := by kernel_rfl
theorem TF.zero_4 : zeroB PG 4 = some [(Value.bool false)] := by kernel_rfl
theorem TF.zero_41 : zeroB PG 41 = some [(Value.bool false), (Value.string ByteArray.empty)] := by kernel_rfl
theorem TF.zero_5 : zeroB PG 5 = some [(Value.int .u8 (0))] := by kernel_rfl
theorem TF.zero_72 : zeroB PG 72 = some [(Value.pointer none)] := by kernel_rfl
theorem TF.zero_76 : zeroB PG 76 = some [(Value.bool false), (Value.string ByteArray.empty)] := by kernel_rfl
theorem TF.zero_81 : zeroB PG 81 = some [(Value.int .i64 (0)), (Value.int .i64 (0)), (Value.int .i64 (0)), (Value.int .u8 (0))] := by kernel_rfl
theorem TF.zero_86 : zeroB PG 86 = some [(Value.bool false), (Value.string ByteArray.empty), (Value.bool false), (Value.string ByteArray.empty), (Value.bool false), (Value.string ByteArray.empty), (Value.bool false), (Value.string ByteArray.empty), (Value.bool false), (Value.string ByteArray.empty), (Value.bool false), (Value.string ByteArray.empty), (Value.bool false), (Value.string ByteArray.empty), (Value.bool false), (Value.string ByteArray.empty), (Value.bool false), (Value.string ByteArray.empty), (Value.bool false), (Value.string ByteArray.empty), (Value.bool false), (Value.string ByteArray.empty), (Value.bool false), (Value.string ByteArray.empty), (Value.bool false), (Value.bool false), (Value.bool false), (Value.bool false), (Value.bool false), (Value.bool false)] := by kernel_rfl
theorem TF.zero_9 : zeroB PG 9 = some [(Value.string ByteArray.empty)] := by kernel_rfl
def FT0 : FT := [(113, 0, 0), (128, 0, 0), (146, 0, 0), (160, 0, 0), (162, 0, 0), (162, 1, 1), (168, 0, 0), (170, 0, 0), (170, 1, 2), (212, 1, 1), (41, 0, 0), (41, 1, 1), (76, 0, 0), (76, 1, 1), (81, 0, 0), (81, 1, 1), (81, 2, 2), (81, 3, 3), (86, 0, 0), (86, 1, 12), (86, 2, 24)]
theorem FT0_ok : FTok PG FT0 := ftB_ok (by kernel_rfl)
theorem au {B : RO} {N : Nat} {e : Env} {h : Heap} {Φ : Lv → Env → Heap → Prop} (n : Nat) {t t' : List Item} {L L' : LE} (ha : aut FT0 N n t L = some (t', L')) (hr : Run PG B N t' (updL L' e) h Φ) : Run PG B N t (updL L e) h Φ := aut_run FT0_ok n ha hr
theorem auT {B : RO} {N : Nat} {k : List Item} {e : Env} {h : Heap} {Φ : Lv → Env → Heap → Prop} {ops : Array Oper} {C : Heap → Prop} {z : List Nat} (n : Nat) {t t' : Ord} {L L' : LE} (ha : autT FT0 N ops.toList n t L = some (t', L')) (hr : RunT PG B N ops k Φ C z t' (updL L' e) h) : RunT PG B N ops k Φ C z t (updL L e) h := autT_run FT0_ok n ha hr
abbrev FN.countermandlaw14_SheetDoes : FuncId := 13
abbrev FN.draft_Draft_file_File_All_1 : FuncId := 95
abbrev FN.tome_Tome_All_1 : FuncId := 121
abbrev FN.strings_Repeat : FuncId := 123
abbrev FN.draft_by_file_File : FuncId := 127
abbrev FN.cell_Row_file_File_All_1 : FuncId := 139
theorem TG.countermandlaw14_SheetDoes : Goes PG FN.countermandlaw14_SheetDoes := TF.goes_13
theorem TG.draft_Draft_file_File_All_1 : Goes PG FN.draft_Draft_file_File_All_1 := TF.goes_95
theorem TG.tome_Tome_All_1 : Goes PG FN.tome_Tome_All_1 := TF.goes_121
theorem TG.strings_Repeat : Goes PG FN.strings_Repeat := TF.goes_123
theorem TG.draft_by_file_File : Goes PG FN.draft_by_file_File := TF.goes_127
theorem TG.cell_Row_file_File_All_1 : Goes PG FN.cell_Row_file_File_All_1 := TF.goes_139
def C_countermandlaw14_SheetDoes (B : RO) (l1 : List Value) (a2 : Option Addr) (n3 : Nat) (c4 : Nat) (h : Heap) (Q : Bool → Heap → Prop) : Prop :=
  Spec PG B 13 #[(Value.agg (List.toArray l1)), (Value.slice a2 n3 c4)] h (fun v h' => ∃ b5 : Bool, v = (Value.bool b5) ∧ Q b5 h')
def C_tome_New (B : RO) (h : Heap) (Q : Option Addr → Heap → Prop) : Prop :=
  Spec PG B 15 #[] h (fun v h' => ∃ p1 : Option Addr, v = (Value.pointer p1) ∧ Q p1 h')
def C_sheet_Sheet_Create (B : RO) (p1 : Option Addr) (p2 : Option Addr) (i3 : Int) (h : Heap) (Q : Bool → Heap → Prop) : Prop :=
  Spec PG B 22 #[(Value.pointer p1), (Value.pointer p2), (Value.int .i64 (i3))] h (fun v h' => ∃ b4 : Bool, v = (Value.bool b4) ∧ Q b4 h')
def C_sheet_Sheet_Get (B : RO) (p1 : Option Addr) (p2 : Option Addr) (i3 : Int) (h : Heap) (Q : Bool → ByteArray → Bool → Heap → Prop) : Prop :=
  Spec PG B 23 #[(Value.pointer p1), (Value.pointer p2), (Value.int .i64 (i3))] h (fun v h' => ∃ b4 : Bool, ∃ s5 : ByteArray, ∃ b6 : Bool, v = Value.tuple #[(Value.agg #[(Value.bool b4), (Value.string s5)]), (Value.bool b6)] ∧ Q b4 s5 b6 h')
def C_countermandlaw14_alive (B : RO) (h : Heap) (Q : Bool → Heap → Prop) : Prop :=
  Spec PG B 42 #[] h (fun v h' => ∃ b1 : Bool, v = (Value.bool b1) ∧ Q b1 h')
def C_countermandlaw14_build (B : RO) (l1 : List Value) (h : Heap) (Q : Option Addr → Option Addr → Option Addr → Bool → Heap → Prop) : Prop :=
  Spec PG B 43 #[(Value.agg (List.toArray l1))] h (fun v h' => ∃ p2 : Option Addr, ∃ p3 : Option Addr, ∃ p4 : Option Addr, ∃ b5 : Bool, v = Value.tuple #[(Value.pointer p2), (Value.pointer p3), (Value.pointer p4), (Value.bool b5)] ∧ Q p2 p3 p4 b5 h')
def C_countermandref14_Is (B : RO) (i1 : Int) (h : Heap) (Q : Bool → Heap → Prop) : Prop :=
  Spec PG B 44 #[(Value.int .i64 (i1))] h (fun v h' => ∃ b2 : Bool, v = (Value.bool b2) ∧ Q b2 h')
def C_sheet_Sheet_Rename (B : RO) (p1 : Option Addr) (p2 : Option Addr) (i3 : Int) (i4 : Int) (h : Heap) (Q : Bool → Heap → Prop) : Prop :=
  Spec PG B 45 #[(Value.pointer p1), (Value.pointer p2), (Value.int .i64 (i3)), (Value.int .i64 (i4))] h (fun v h' => ∃ b5 : Bool, v = (Value.bool b5) ∧ Q b5 h')
def C_countermandlaw14_does (B : RO) (p1 : Option Addr) (p2 : Option Addr) (p3 : Option Addr) (i4 : Int) (i5 : Int) (i6 : Int) (i7 : Int) (h : Heap) (Q : Bool → Heap → Prop) : Prop :=
  Spec PG B 46 #[(Value.pointer p1), (Value.pointer p2), (Value.pointer p3), (Value.agg #[(Value.int .i64 (i4)), (Value.int .i64 (i5)), (Value.int .i64 (i6)), (Value.int .u8 (i7))])] h (fun v h' => ∃ b8 : Bool, v = (Value.bool b8) ∧ Q b8 h')
def C_sheet_Sheet_Copy (B : RO) (p1 : Option Addr) (h : Heap) (Q : Option Addr → Heap → Prop) : Prop :=
  Spec PG B 47 #[(Value.pointer p1)] h (fun v h' => ∃ p2 : Option Addr, v = (Value.pointer p2) ∧ Q p2 h')
def C_sheet_Sheet_Over (B : RO) (p1 : Option Addr) (p2 : Option Addr) (i3 : Int) (h : Heap) (Q : Int → Heap → Prop) : Prop :=
  Spec PG B 48 #[(Value.pointer p1), (Value.pointer p2), (Value.int .i64 (i3))] h (fun v h' => ∃ i4 : Int, v = (Value.int .i64 (i4)) ∧ Q i4 h')
def C_tome_Tome_Get (B : RO) (p1 : Option Addr) (i2 : Int) (h : Heap) (Q : Bool → ByteArray → Int → Heap → Prop) : Prop :=
  Spec PG B 49 #[(Value.pointer p1), (Value.int .i64 (i2))] h (fun v h' => ∃ b3 : Bool, ∃ s4 : ByteArray, ∃ i5 : Int, v = Value.tuple #[(Value.agg #[(Value.bool b3), (Value.string s4)]), (Value.int .i64 (i5))] ∧ Q b3 s4 i5 h')
def C_tome_Tome_Bytes (B : RO) (p1 : Option Addr) (h : Heap) (Q : ByteArray → Heap → Prop) : Prop :=
  Spec PG B 50 #[(Value.pointer p1)] h (fun v h' => ∃ s2 : ByteArray, v = (Value.string s2) ∧ Q s2 h')
def C_sheet_Sheet_Draft (B : RO) (p1 : Option Addr) (h : Heap) (Q : Option Addr → Heap → Prop) : Prop :=
  Spec PG B 51 #[(Value.pointer p1)] h (fun v h' => ∃ p2 : Option Addr, v = (Value.pointer p2) ∧ Q p2 h')
def C_draft_Draft_file_File_All (B : RO) (p1 : Option Addr) (h : Heap) (Q : Value → Heap → Prop) : Prop :=
  Spec PG B 52 #[(Value.pointer p1)] h (fun v h' => ∃ v2 : Value, v = v2 ∧ Q v2 h')
def C_draft_Draft_file_File_Len (B : RO) (p1 : Option Addr) (h : Heap) (Q : Int → Heap → Prop) : Prop :=
  Spec PG B 53 #[(Value.pointer p1)] h (fun v h' => ∃ i2 : Int, v = (Value.int .i64 (i2)) ∧ Q i2 h')
def C_sheet_Sheet_Write (B : RO) (p1 : Option Addr) (p2 : Option Addr) (i3 : Int) (i4 : Int) (i5 : Int) (h : Heap) (Q : Bool → Heap → Prop) : Prop :=
  Spec PG B 54 #[(Value.pointer p1), (Value.pointer p2), (Value.int .i64 (i3)), (Value.int .i64 (i4)), (Value.int .u8 (i5))] h (fun v h' => ∃ b6 : Bool, v = (Value.bool b6) ∧ Q b6 h')
def C_sheet_Sheet_Cut (B : RO) (p1 : Option Addr) (p2 : Option Addr) (i3 : Int) (i4 : Int) (h : Heap) (Q : Bool → Heap → Prop) : Prop :=
  Spec PG B 55 #[(Value.pointer p1), (Value.pointer p2), (Value.int .i64 (i3)), (Value.int .i64 (i4))] h (fun v h' => ∃ b5 : Bool, v = (Value.bool b5) ∧ Q b5 h')
def C_sheet_Sheet_Remove (B : RO) (p1 : Option Addr) (p2 : Option Addr) (i3 : Int) (h : Heap) (Q : Bool → Heap → Prop) : Prop :=
  Spec PG B 56 #[(Value.pointer p1), (Value.pointer p2), (Value.int .i64 (i3))] h (fun v h' => ∃ b4 : Bool, v = (Value.bool b4) ∧ Q b4 h')
def C_cell_New_file_File (B : RO) (i1 : Int) (b2 : Bool) (s3 : ByteArray) (h : Heap) (Q : Option Addr → Heap → Prop) : Prop :=
  Spec PG B 60 #[(Value.int .i64 (i1)), (Value.agg #[(Value.bool b2), (Value.string s3)])] h (fun v h' => ∃ p4 : Option Addr, v = (Value.pointer p4) ∧ Q p4 h')
def C_sheet_New (B : RO) (h : Heap) (Q : Option Addr → Heap → Prop) : Prop :=
  Spec PG B 61 #[] h (fun v h' => ∃ p1 : Option Addr, v = (Value.pointer p1) ∧ Q p1 h')
def C_sheet_Sheet_put (B : RO) (p1 : Option Addr) (p2 : Option Addr) (i3 : Int) (b4 : Bool) (s5 : ByteArray) (h : Heap) (Q : Bool → Heap → Prop) : Prop :=
  Spec PG B 67 #[(Value.pointer p1), (Value.pointer p2), (Value.int .i64 (i3)), (Value.agg #[(Value.bool b4), (Value.string s5)])] h (fun v h' => ∃ b6 : Bool, v = (Value.bool b6) ∧ Q b6 h')
def C_file_Make (B : RO) (b1 : Bool) (s2 : ByteArray) (h : Heap) (Q : Bool → ByteArray → Heap → Prop) : Prop :=
  Spec PG B 68 #[(Value.agg #[(Value.bool b1), (Value.string s2)])] h (fun v h' => ∃ b3 : Bool, ∃ s4 : ByteArray, v = (Value.agg #[(Value.bool b3), (Value.string s4)]) ∧ Q b3 s4 h')
def C_draft_Draft_file_File_Get (B : RO) (p1 : Option Addr) (i2 : Int) (h : Heap) (Q : Bool → ByteArray → Bool → Heap → Prop) : Prop :=
  Spec PG B 69 #[(Value.pointer p1), (Value.int .i64 (i2))] h (fun v h' => ∃ b3 : Bool, ∃ s4 : ByteArray, ∃ b5 : Bool, v = Value.tuple #[(Value.agg #[(Value.bool b3), (Value.string s4)]), (Value.bool b5)] ∧ Q b3 s4 b5 h')
def C_stylus_Stylus_Nat (B : RO) (p1 : Option Addr) (a2 : Option Addr) (n3 : Nat) (c4 : Nat) (h : Heap) (Q : Heap → Prop) : Prop :=
  Spec PG B 72 #[(Value.pointer p1), (Value.slice a2 n3 c4)] h (fun v h' => v = Value.tuple #[] ∧ Q  h')
def C_stylus_Stylus_Raw (B : RO) (p1 : Option Addr) (s2 : ByteArray) (h : Heap) (Q : Heap → Prop) : Prop :=
  Spec PG B 73 #[(Value.pointer p1), (Value.string s2)] h (fun v h' => v = Value.tuple #[] ∧ Q  h')
def C_stylus_Stylus_Bytes (B : RO) (p1 : Option Addr) (h : Heap) (Q : ByteArray → Heap → Prop) : Prop :=
  Spec PG B 74 #[(Value.pointer p1)] h (fun v h' => ∃ s2 : ByteArray, v = (Value.string s2) ∧ Q s2 h')
def C_tome_Tome_Set (B : RO) (p1 : Option Addr) (i2 : Int) (b3 : Bool) (s4 : ByteArray) (i5 : Int) (h : Heap) (Q : Bool → Heap → Prop) : Prop :=
  Spec PG B 85 #[(Value.pointer p1), (Value.int .i64 (i2)), (Value.agg #[(Value.bool b3), (Value.string s4)]), (Value.int .i64 (i5))] h (fun v h' => ∃ b6 : Bool, v = (Value.bool b6) ∧ Q b6 h')
def C_countermandref14_Sheet_Write (B : RO) (p1 : Option Addr) (i2 : Int) (i3 : Int) (i4 : Int) (h : Heap) (Q : Bool → Heap → Prop) : Prop :=
  Spec PG B 86 #[(Value.pointer p1), (Value.int .i64 (i2)), (Value.int .i64 (i3)), (Value.int .u8 (i4))] h (fun v h' => ∃ b5 : Bool, v = (Value.bool b5) ∧ Q b5 h')
def C_countermandref14_Sheet_Cut (B : RO) (p1 : Option Addr) (i2 : Int) (i3 : Int) (h : Heap) (Q : Bool → Heap → Prop) : Prop :=
  Spec PG B 87 #[(Value.pointer p1), (Value.int .i64 (i2)), (Value.int .i64 (i3))] h (fun v h' => ∃ b4 : Bool, v = (Value.bool b4) ∧ Q b4 h')
def C_countermandref14_Sheet_Create (B : RO) (p1 : Option Addr) (i2 : Int) (h : Heap) (Q : Bool → Heap → Prop) : Prop :=
  Spec PG B 88 #[(Value.pointer p1), (Value.int .i64 (i2))] h (fun v h' => ∃ b3 : Bool, v = (Value.bool b3) ∧ Q b3 h')
def C_countermandref14_Sheet_Remove (B : RO) (p1 : Option Addr) (i2 : Int) (h : Heap) (Q : Bool → Heap → Prop) : Prop :=
  Spec PG B 89 #[(Value.pointer p1), (Value.int .i64 (i2))] h (fun v h' => ∃ b3 : Bool, v = (Value.bool b3) ∧ Q b3 h')
def C_countermandref14_Sheet_Rename (B : RO) (p1 : Option Addr) (i2 : Int) (i3 : Int) (h : Heap) (Q : Bool → Heap → Prop) : Prop :=
  Spec PG B 90 #[(Value.pointer p1), (Value.int .i64 (i2)), (Value.int .i64 (i3))] h (fun v h' => ∃ b4 : Bool, v = (Value.bool b4) ∧ Q b4 h')
def C_draft_Draft_file_File_Copy (B : RO) (p1 : Option Addr) (h : Heap) (Q : Option Addr → Heap → Prop) : Prop :=
  Spec PG B 91 #[(Value.pointer p1)] h (fun v h' => ∃ p2 : Option Addr, v = (Value.pointer p2) ∧ Q p2 h')
def C_cell_Row_file_File_Get (B : RO) (p1 : Option Addr) (i2 : Int) (h : Heap) (Q : Bool → ByteArray → Int → Heap → Prop) : Prop :=
  Spec PG B 92 #[(Value.pointer p1), (Value.int .i64 (i2))] h (fun v h' => ∃ b3 : Bool, ∃ s4 : ByteArray, ∃ i5 : Int, v = Value.tuple #[(Value.agg #[(Value.bool b3), (Value.string s4)]), (Value.int .i64 (i5))] ∧ Q b3 s4 i5 h')
def C_tome_Tome_All (B : RO) (p1 : Option Addr) (h : Heap) (Q : Value → Heap → Prop) : Prop :=
  Spec PG B 93 #[(Value.pointer p1)] h (fun v h' => ∃ v2 : Value, v = v2 ∧ Q v2 h')
def C_stylus_Stylus_Text (B : RO) (p1 : Option Addr) (a2 : Option Addr) (n3 : Nat) (c4 : Nat) (h : Heap) (Q : Heap → Prop) : Prop :=
  Spec PG B 94 #[(Value.pointer p1), (Value.slice a2 n3 c4)] h (fun v h' => v = Value.tuple #[] ∧ Q  h')
def C_draft_Draft_file_File_All_1 (B : RO) (v1 : Value) (A2 : Addr) (h : Heap) (Q : Heap → Prop) : Prop :=
  Spec PG B 95 #[v1, (Value.pointer (some A2))] h (fun v h' => v = Value.tuple #[] ∧ Q  h')
def C_file_Put (B : RO) (b1 : Bool) (s2 : ByteArray) (i3 : Int) (i4 : Int) (h : Heap) (Q : Bool → ByteArray → Heap → Prop) : Prop :=
  Spec PG B 96 #[(Value.agg #[(Value.bool b1), (Value.string s2)]), (Value.int .i64 (i3)), (Value.int .u8 (i4))] h (fun v h' => ∃ b5 : Bool, ∃ s6 : ByteArray, v = (Value.agg #[(Value.bool b5), (Value.string s6)]) ∧ Q b5 s6 h')
def C_file_Cut (B : RO) (b1 : Bool) (s2 : ByteArray) (i3 : Int) (h : Heap) (Q : Bool → ByteArray → Heap → Prop) : Prop :=
  Spec PG B 97 #[(Value.agg #[(Value.bool b1), (Value.string s2)]), (Value.int .i64 (i3))] h (fun v h' => ∃ b4 : Bool, ∃ s5 : ByteArray, v = (Value.agg #[(Value.bool b4), (Value.string s5)]) ∧ Q b4 s5 h')
def C_draft_Draft_file_File_Put (B : RO) (p1 : Option Addr) (i2 : Int) (b3 : Bool) (s4 : ByteArray) (h : Heap) (Q : Bool → Heap → Prop) : Prop :=
  Spec PG B 104 #[(Value.pointer p1), (Value.int .i64 (i2)), (Value.agg #[(Value.bool b3), (Value.string s4)])] h (fun v h' => ∃ b5 : Bool, v = (Value.bool b5) ∧ Q b5 h')
def C_draft_Draft_file_File_find (B : RO) (p1 : Option Addr) (i2 : Int) (h : Heap) (Q : Int → Bool → Heap → Prop) : Prop :=
  Spec PG B 105 #[(Value.pointer p1), (Value.int .i64 (i2))] h (fun v h' => ∃ i3 : Int, ∃ b4 : Bool, v = Value.tuple #[(Value.int .i64 (i3)), (Value.bool b4)] ∧ Q i3 b4 h')
def C_file_Good (B : RO) (b1 : Bool) (s2 : ByteArray) (h : Heap) (Q : Bool → Heap → Prop) : Prop :=
  Spec PG B 114 #[(Value.agg #[(Value.bool b1), (Value.string s2)])] h (fun v h' => ∃ b3 : Bool, v = (Value.bool b3) ∧ Q b3 h')
def C_cell_Row_file_File_Set (B : RO) (p1 : Option Addr) (i2 : Int) (b3 : Bool) (s4 : ByteArray) (i5 : Int) (h : Heap) (Q : Bool → Heap → Prop) : Prop :=
  Spec PG B 115 #[(Value.pointer p1), (Value.int .i64 (i2)), (Value.agg #[(Value.bool b3), (Value.string s4)]), (Value.int .i64 (i5))] h (fun v h' => ∃ b6 : Bool, v = (Value.bool b6) ∧ Q b6 h')
def C_countermandref14_Sheet_put (B : RO) (p1 : Option Addr) (i2 : Int) (b3 : Bool) (s4 : ByteArray) (h : Heap) (Q : Heap → Prop) : Prop :=
  Spec PG B 116 #[(Value.pointer p1), (Value.int .i64 (i2)), (Value.agg #[(Value.bool b3), (Value.string s4)])] h (fun v h' => v = Value.tuple #[] ∧ Q  h')
def C_countermandref09_Put (B : RO) (b1 : Bool) (s2 : ByteArray) (i3 : Int) (i4 : Int) (h : Heap) (Q : Bool → ByteArray → Heap → Prop) : Prop :=
  Spec PG B 117 #[(Value.agg #[(Value.bool b1), (Value.string s2)]), (Value.int .i64 (i3)), (Value.int .u8 (i4))] h (fun v h' => ∃ b5 : Bool, ∃ s6 : ByteArray, v = (Value.agg #[(Value.bool b5), (Value.string s6)]) ∧ Q b5 s6 h')
def C_countermandref09_Cut (B : RO) (b1 : Bool) (s2 : ByteArray) (i3 : Int) (h : Heap) (Q : Bool → ByteArray → Heap → Prop) : Prop :=
  Spec PG B 118 #[(Value.agg #[(Value.bool b1), (Value.string s2)]), (Value.int .i64 (i3))] h (fun v h' => ∃ b4 : Bool, ∃ s5 : ByteArray, v = (Value.agg #[(Value.bool b4), (Value.string s5)]) ∧ Q b4 s5 h')
def C_cell_Row_file_File_is (B : RO) (p1 : Option Addr) (i2 : Int) (h : Heap) (Q : Bool → Heap → Prop) : Prop :=
  Spec PG B 120 #[(Value.pointer p1), (Value.int .i64 (i2))] h (fun v h' => ∃ b3 : Bool, v = (Value.bool b3) ∧ Q b3 h')
def C_tome_Tome_All_1 (B : RO) (v1 : Value) (A2 : Addr) (h : Heap) (Q : Heap → Prop) : Prop :=
  Spec PG B 121 #[v1, (Value.pointer (some A2))] h (fun v h' => v = Value.tuple #[] ∧ Q  h')
def C_cell_Row_file_File_All (B : RO) (p1 : Option Addr) (h : Heap) (Q : Value → Heap → Prop) : Prop :=
  Spec PG B 122 #[(Value.pointer p1)] h (fun v h' => ∃ v2 : Value, v = v2 ∧ Q v2 h')
def C_strings_Repeat (B : RO) (s1 : ByteArray) (i2 : Int) (h : Heap) (Q : ByteArray → Heap → Prop) : Prop :=
  Spec PG B 123 #[(Value.string s1), (Value.int .i64 (i2))] h (fun v h' => ∃ s3 : ByteArray, v = (Value.string s3) ∧ Q s3 h')
def C_slices_Insert_s_draft_entry_file_File_draft_entry_file_File (B : RO) (a1 : Option Addr) (n2 : Nat) (c3 : Nat) (i4 : Int) (a5 : Option Addr) (n6 : Nat) (c7 : Nat) (h : Heap) (Q : Option Addr → Nat → Nat → Heap → Prop) : Prop :=
  Spec PG B 125 #[(Value.slice a1 n2 c3), (Value.int .i64 (i4)), (Value.slice a5 n6 c7)] h (fun v h' => ∃ a8 : Option Addr, ∃ n9 : Nat, ∃ c10 : Nat, v = (Value.slice a8 n9 c10) ∧ Q a8 n9 c10 h')
def C_slices_BinarySearchFunc_s_draft_entry_file_File_draft_entry_file_File_int (B : RO) (a1 : Option Addr) (n2 : Nat) (c3 : Nat) (i4 : Int) (v5 : Value) (h : Heap) (Q : Int → Bool → Heap → Prop) : Prop :=
  Spec PG B 126 #[(Value.slice a1 n2 c3), (Value.int .i64 (i4)), v5] h (fun v h' => ∃ i6 : Int, ∃ b7 : Bool, v = Value.tuple #[(Value.int .i64 (i6)), (Value.bool b7)] ∧ Q i6 b7 h')
def C_draft_by_file_File (B : RO) (i1 : Int) (b2 : Bool) (s3 : ByteArray) (i4 : Int) (h : Heap) (Q : Int → Heap → Prop) : Prop :=
  Spec PG B 127 #[(Value.agg #[(Value.int .i64 (i1)), (Value.bool b2), (Value.string s3)]), (Value.int .i64 (i4))] h (fun v h' => ∃ i5 : Int, v = (Value.int .i64 (i5)) ∧ Q i5 h')
def C_countermandref09_At (B : RO) (b1 : Bool) (s2 : ByteArray) (i3 : Int) (h : Heap) (Q : Int → Heap → Prop) : Prop :=
  Spec PG B 138 #[(Value.agg #[(Value.bool b1), (Value.string s2)]), (Value.int .i64 (i3))] h (fun v h' => ∃ i4 : Int, v = (Value.int .i64 (i4)) ∧ Q i4 h')
def C_cell_Row_file_File_All_1 (B : RO) (v1 : Value) (A2 : Addr) (h : Heap) (Q : Heap → Prop) : Prop :=
  Spec PG B 139 #[v1, (Value.pointer (some A2))] h (fun v h' => v = Value.tuple #[] ∧ Q  h')
def C_slices_rotateRight_draft_entry_file_File (B : RO) (a1 : Option Addr) (n2 : Nat) (c3 : Nat) (i4 : Int) (h : Heap) (Q : Heap → Prop) : Prop :=
  Spec PG B 148 #[(Value.slice a1 n2 c3), (Value.int .i64 (i4))] h (fun v h' => v = Value.tuple #[] ∧ Q  h')
end Go.Proofs.Ytcncdfmnpmmikaa.H
namespace Go.Proofs.Ytcncdfmnpmmikaa.H
open Go
set_option linter.unusedVariables false
set_option maxRecDepth 100000
set_option maxHeartbeats 4000000
def S_countermandlaw14_SheetDoes_J4 (B : RO) (k8 : Nat) (p16 : Option Addr) (h47 : Heap) (Q : Bool → Heap → Prop) : Prop :=
 C_sheet_Sheet_Write B none p16 (0) (0) (0) h47 (fun b49 h48 =>
 (b49 = true →
 ∃ h80 : Heap, storeH h48 ⟨k8, 0, none⟩ (.bool false) = some h80 ∧
 ∃ b81 : Bool, cellH B h80 ⟨k8, 0, none⟩ = some (.bool b81) ∧ Fin B h80 (Q (b81))) ∧ (b49 = false →
 C_sheet_Sheet_Cut B none p16 (0) (0) h48 (fun b51 h50 =>
 (b51 = true →
 ∃ h78 : Heap, storeH h50 ⟨k8, 0, none⟩ (.bool false) = some h78 ∧
 ∃ b79 : Bool, cellH B h78 ⟨k8, 0, none⟩ = some (.bool b79) ∧ Fin B h78 (Q (b79))) ∧ (b51 = false →
 C_sheet_Sheet_Create B none p16 (0) h50 (fun b53 h52 =>
 (b53 = true →
 ∃ h76 : Heap, storeH h52 ⟨k8, 0, none⟩ (.bool false) = some h76 ∧
 ∃ b77 : Bool, cellH B h76 ⟨k8, 0, none⟩ = some (.bool b77) ∧ Fin B h76 (Q (b77))) ∧ (b53 = false →
 C_sheet_Sheet_Remove B none p16 (0) h52 (fun b55 h54 =>
 (b55 = true →
 ∃ h74 : Heap, storeH h54 ⟨k8, 0, none⟩ (.bool false) = some h74 ∧
 ∃ b75 : Bool, cellH B h74 ⟨k8, 0, none⟩ = some (.bool b75) ∧ Fin B h74 (Q (b75))) ∧ (b55 = false →
 C_sheet_Sheet_Rename B none p16 (0) (1) h54 (fun b57 h56 =>
 (b57 = true →
 ∃ h72 : Heap, storeH h56 ⟨k8, 0, none⟩ (.bool false) = some h72 ∧
 ∃ b73 : Bool, cellH B h72 ⟨k8, 0, none⟩ = some (.bool b73) ∧ Fin B h72 (Q (b73))) ∧ (b57 = false →
 C_sheet_Sheet_Draft B none h56 (fun p59 h58 =>
 (p59 = none →
 C_sheet_Sheet_Copy B none h58 (fun p62 h61 =>
 (p62 = none →
 C_sheet_Sheet_Over B none p16 (1) h61 (fun i65 h64 =>
 ∃ h66 : Heap, storeH h64 ⟨k8, 0, none⟩ (.bool ((i65 : Int) == (0))) = some h66 ∧
 ∃ b67 : Bool, cellH B h66 ⟨k8, 0, none⟩ = some (.bool b67) ∧ Fin B h66 (Q (b67)))) ∧ (¬ (p62 = none) →
 ∃ h68 : Heap, storeH h61 ⟨k8, 0, none⟩ (.bool false) = some h68 ∧
 ∃ b69 : Bool, cellH B h68 ⟨k8, 0, none⟩ = some (.bool b69) ∧ Fin B h68 (Q (b69))))) ∧ (¬ (p59 = none) →
 ∃ h70 : Heap, storeH h58 ⟨k8, 0, none⟩ (.bool false) = some h70 ∧
 ∃ b71 : Bool, cellH B h70 ⟨k8, 0, none⟩ = some (.bool b71) ∧ Fin B h70 (Q (b71))))))))))))))
def S_countermandlaw14_SheetDoes_J5 (B : RO) (k8 : Nat) (p16 : Option Addr) (k34 : Nat) (i82 : Int) (b115 : Bool) (s116 : ByteArray) (b117 : Bool) (s118 : ByteArray) (h119 : Heap) (Q : Bool → Heap → Prop) : Prop :=
 (eqL [(.bool b115), (.string s116)] [(.bool b117), (.string s118)] = true →
 Fin B h119 (fun h' => S_countermandlaw14_SheetDoes_J4 B k8 p16 h' Q)) ∧ (¬ (eqL [(.bool b115), (.string s116)] [(.bool b117), (.string s118)] = true) →
 ∃ h122 : Heap, storeH h119 ⟨k8, 0, none⟩ (.bool false) = some h122 ∧
 ∃ b123 : Bool, cellH B h122 ⟨k8, 0, none⟩ = some (.bool b123) ∧ Fin B h122 (Q (b123)))
def S_countermandlaw14_SheetDoes_J6 (B : RO) (k8 : Nat) (p16 : Option Addr) (k34 : Nat) (i82 : Int) (h143 : Heap) (Q : Bool → Heap → Prop) : Prop :=
 ∃ h145 : Heap, storeH h143 ⟨k8, 0, none⟩ (.bool false) = some h145 ∧
 ∃ b146 : Bool, cellH B h145 ⟨k8, 0, none⟩ = some (.bool b146) ∧ Fin B h145 (Q (b146))
def S_countermandlaw14_SheetDoes_J7 (B : RO) (k8 : Nat) (p16 : Option Addr) (k34 : Nat) (i82 : Int) (h148 : Heap) (Q : Bool → Heap → Prop) : Prop :=
 ∃ h150 : Heap, storeH h148 ⟨k8, 0, none⟩ (.bool false) = some h150 ∧
 ∃ b151 : Bool, cellH B h150 ⟨k8, 0, none⟩ = some (.bool b151) ∧ Fin B h150 (Q (b151))
def S_countermandlaw14_SheetDoes_J8 (B : RO) (k8 : Nat) (p16 : Option Addr) (k34 : Nat) (i155 : Int) (b188 : Bool) (s189 : ByteArray) (b190 : Bool) (s191 : ByteArray) (h192 : Heap) (Q : Bool → Heap → Prop) : Prop :=
 (eqL [(.bool b188), (.string s189)] [(.bool b190), (.string s191)] = true →
 ∃ h195 : Heap, storeH h192 ⟨k8, 0, none⟩ (.bool false) = some h195 ∧
 ∃ b196 : Bool, cellH B h195 ⟨k8, 0, none⟩ = some (.bool b196) ∧ Fin B h195 (Q (b196))) ∧ (¬ (eqL [(.bool b188), (.string s189)] [(.bool b190), (.string s191)] = true) →
 ∃ h197 : Heap, storeH h192 ⟨k8, 0, none⟩ (.bool false) = some h197 ∧
 ∃ b198 : Bool, cellH B h197 ⟨k8, 0, none⟩ = some (.bool b198) ∧ Fin B h197 (Q (b198)))
def S_countermandlaw14_SheetDoes_J9 (B : RO) (k8 : Nat) (p16 : Option Addr) (k34 : Nat) (i155 : Int) (h218 : Heap) (Q : Bool → Heap → Prop) : Prop :=
 ∃ h220 : Heap, storeH h218 ⟨k8, 0, none⟩ (.bool false) = some h220 ∧
 ∃ b221 : Bool, cellH B h220 ⟨k8, 0, none⟩ = some (.bool b221) ∧ Fin B h220 (Q (b221))
def S_countermandlaw14_SheetDoes_J10 (B : RO) (k8 : Nat) (p16 : Option Addr) (k34 : Nat) (i155 : Int) (h223 : Heap) (Q : Bool → Heap → Prop) : Prop :=
 ∃ h225 : Heap, storeH h223 ⟨k8, 0, none⟩ (.bool false) = some h225 ∧
 ∃ b226 : Bool, cellH B h225 ⟨k8, 0, none⟩ = some (.bool b226) ∧ Fin B h225 (Q (b226))
def S_countermandlaw14_SheetDoes_J3 (B : RO) (k8 : Nat) (p16 : Option Addr) (p17 : Option Addr) (k25 : Nat) (s31 : ByteArray) (k34 : Nat) (h38 : Heap) (Q : Bool → Heap → Prop) : Prop :=
 C_sheet_Sheet_Get B none p16 (0) h38 (fun b40 s41 b42 h39 =>
 (b42 = true →
 ∀ k152 : Nat, h39 k152 = none → B k152 = none → ∀ h153 : Heap, h153 = Heap.set h39 k152 (.vec 41 (plains [(.bool false), (.string ByteArray.empty)]) 2) →
 ∃ h154 : Heap, StoresAt ⟨k152, 0, none⟩ h153 0 [(.bool b40), (.string s41)] h154 ∧
 ∃ i155 : Int, cellH B h154 ⟨k34, 0, none⟩ = some (.int .i64 (i155)) ∧
 C_sheet_Sheet_Draft B p17 h154 (fun p159 h158 =>
 cellH B h158 ⟨k34, 0, none⟩ = some (.int .i64 (i155)) ∧
 C_draft_Draft_file_File_Len B p159 h158 (fun i162 h161 =>
 cellH B h161 ⟨k34, 0, none⟩ = some (.int .i64 (i155)) ∧
 ((i155 : Int) = i162 →
 C_tome_Tome_Bytes B p16 h161 (fun s166 h165 =>
 cellH B h165 ⟨k34, 0, none⟩ = some (.int .i64 (i155)) ∧
 (s166 = s31 →
 (∃ b199 : Bool, ∃ s200 : ByteArray, CellsAt B h165 ⟨k152, 0, none⟩ 0 [(.bool b199), (.string s200)] ∧
 ∃ p201 : Option Addr, cellH B h165 ⟨k25, 0, none⟩ = some (.pointer p201) ∧
 ∃ A202 : Addr, p201 = some A202 ∧
 0 ≤ (0 : Int) ∧ (0 : Int) < (6 : Nat) ∧
 ∃ b204 : Bool, ∃ s205 : ByteArray, CellsAt B h165 A202 0 [(.bool b204), (.string s205)] ∧
 S_countermandlaw14_SheetDoes_J8 B k8 p16 k34 i155 (b199) s200 (b204) s205 h165 Q) ∧
 (∃ p206 : Option Addr, cellH B h165 ⟨k25, 0, none⟩ = some (.pointer p206) ∧
 ∃ A207 : Addr, p206 = some A207 ∧
 0 ≤ (0 : Int) ∧ (0 : Int) < (6 : Nat) ∧
 (∃ b209 : Bool, ∃ s210 : ByteArray, CellsAt B h165 ⟨k152, 0, none⟩ 0 [(.bool b209), (.string s210)] ∧
 ∃ b211 : Bool, ∃ s212 : ByteArray, CellsAt B h165 A207 0 [(.bool b211), (.string s212)] ∧
 S_countermandlaw14_SheetDoes_J8 B k8 p16 k34 i155 (b209) s210 (b211) s212 h165 Q) ∧
 (∃ b213 : Bool, ∃ s214 : ByteArray, CellsAt B h165 A207 0 [(.bool b213), (.string s214)] ∧
 ∃ b215 : Bool, ∃ s216 : ByteArray, CellsAt B h165 ⟨k152, 0, none⟩ 0 [(.bool b215), (.string s216)] ∧
 S_countermandlaw14_SheetDoes_J8 B k8 p16 k34 i155 (b215) s216 (b213) s214 h165 Q))) ∧ (¬ (s166 = s31) →
 (S_countermandlaw14_SheetDoes_J9 B k8 p16 k34 i155 h165 Q) ∧
 ((S_countermandlaw14_SheetDoes_J9 B k8 p16 k34 i155 h165 Q) ∧
 (S_countermandlaw14_SheetDoes_J9 B k8 p16 k34 i155 h165 Q))))) ∧ (¬ ((i155 : Int) = i162) →
 (S_countermandlaw14_SheetDoes_J10 B k8 p16 k34 i155 h161 Q) ∧
 ((S_countermandlaw14_SheetDoes_J10 B k8 p16 k34 i155 h161 Q) ∧
 (S_countermandlaw14_SheetDoes_J10 B k8 p16 k34 i155 h161 Q)))))) ∧ (b42 = false →
 ∀ k43 : Nat, h39 k43 = none → B k43 = none → ∀ h44 : Heap, h44 = Heap.set h39 k43 (.vec 41 (plains [(.bool false), (.string ByteArray.empty)]) 2) →
 ∃ h45 : Heap, StoresAt ⟨k43, 0, none⟩ h44 0 [(.bool b40), (.string s41)] h45 ∧
 ∃ i82 : Int, cellH B h45 ⟨k34, 0, none⟩ = some (.int .i64 (i82)) ∧
 C_sheet_Sheet_Draft B p17 h45 (fun p86 h85 =>
 cellH B h85 ⟨k34, 0, none⟩ = some (.int .i64 (i82)) ∧
 C_draft_Draft_file_File_Len B p86 h85 (fun i89 h88 =>
 cellH B h88 ⟨k34, 0, none⟩ = some (.int .i64 (i82)) ∧
 ((i82 : Int) = i89 →
 C_tome_Tome_Bytes B p16 h88 (fun s93 h92 =>
 cellH B h92 ⟨k34, 0, none⟩ = some (.int .i64 (i82)) ∧
 (s93 = s31 →
 (∃ b124 : Bool, ∃ s125 : ByteArray, CellsAt B h92 ⟨k43, 0, none⟩ 0 [(.bool b124), (.string s125)] ∧
 ∃ p126 : Option Addr, cellH B h92 ⟨k25, 0, none⟩ = some (.pointer p126) ∧
 ∃ A127 : Addr, p126 = some A127 ∧
 0 ≤ (0 : Int) ∧ (0 : Int) < (6 : Nat) ∧
 ∃ b129 : Bool, ∃ s130 : ByteArray, CellsAt B h92 A127 0 [(.bool b129), (.string s130)] ∧
 S_countermandlaw14_SheetDoes_J5 B k8 p16 k34 i82 (b124) s125 (b129) s130 h92 Q) ∧
 (∃ p131 : Option Addr, cellH B h92 ⟨k25, 0, none⟩ = some (.pointer p131) ∧
 ∃ A132 : Addr, p131 = some A132 ∧
 0 ≤ (0 : Int) ∧ (0 : Int) < (6 : Nat) ∧
 (∃ b134 : Bool, ∃ s135 : ByteArray, CellsAt B h92 ⟨k43, 0, none⟩ 0 [(.bool b134), (.string s135)] ∧
 ∃ b136 : Bool, ∃ s137 : ByteArray, CellsAt B h92 A132 0 [(.bool b136), (.string s137)] ∧
 S_countermandlaw14_SheetDoes_J5 B k8 p16 k34 i82 (b134) s135 (b136) s137 h92 Q) ∧
 (∃ b138 : Bool, ∃ s139 : ByteArray, CellsAt B h92 A132 0 [(.bool b138), (.string s139)] ∧
 ∃ b140 : Bool, ∃ s141 : ByteArray, CellsAt B h92 ⟨k43, 0, none⟩ 0 [(.bool b140), (.string s141)] ∧
 S_countermandlaw14_SheetDoes_J5 B k8 p16 k34 i82 (b140) s141 (b138) s139 h92 Q))) ∧ (¬ (s93 = s31) →
 (S_countermandlaw14_SheetDoes_J6 B k8 p16 k34 i82 h92 Q) ∧
 ((S_countermandlaw14_SheetDoes_J6 B k8 p16 k34 i82 h92 Q) ∧
 (S_countermandlaw14_SheetDoes_J6 B k8 p16 k34 i82 h92 Q))))) ∧ (¬ ((i82 : Int) = i89) →
 (S_countermandlaw14_SheetDoes_J7 B k8 p16 k34 i82 h88 Q) ∧
 ((S_countermandlaw14_SheetDoes_J7 B k8 p16 k34 i82 h88 Q) ∧
 (S_countermandlaw14_SheetDoes_J7 B k8 p16 k34 i82 h88 Q)))))))
def S_countermandlaw14_SheetDoes_J11 (B : RO) (k8 : Nat) (k34 : Nat) (q236 : Nat) (J237 : Nat → Heap → Prop) (b243 : Bool) (h244 : Heap) (Q : Bool → Heap → Prop) : Prop :=
 (b243 = true →
 ∃ h247 : Heap, storeH h244 ⟨k8, 0, none⟩ (.bool false) = some h247 ∧
 ∃ b248 : Bool, cellH B h247 ⟨k8, 0, none⟩ = some (.bool b248) ∧ Fin B h247 (Q (b248))) ∧ (b243 = false →
 ∃ i245 : Int, cellH B h244 ⟨k34, 0, none⟩ = some (.int .i64 (i245)) ∧
 ∃ h246 : Heap, storeH h244 ⟨k34, 0, none⟩ (.int .i64 (IntKind.wrap .i64 ((i245) + (1)))) = some h246 ∧
 Fin B h246 (J237 (q236 + 1)))
def S_countermandlaw14_SheetDoes_J12 (B : RO) (k8 : Nat) (k34 : Nat) (q236 : Nat) (J237 : Nat → Heap → Prop) (h254 : Heap) (Q : Bool → Heap → Prop) : Prop :=
 Fin B h254 (fun h' => S_countermandlaw14_SheetDoes_J11 B k8 k34 q236 J237 (true) h' Q)
def S_countermandlaw14_SheetDoes_J13 (B : RO) (k8 : Nat) (k34 : Nat) (q236 : Nat) (J237 : Nat → Heap → Prop) (h260 : Heap) (Q : Bool → Heap → Prop) : Prop :=
 Fin B h260 (fun h' => S_countermandlaw14_SheetDoes_J11 B k8 k34 q236 J237 (true) h' Q)
def S_countermandlaw14_SheetDoes_J14 (B : RO) (k8 : Nat) (k34 : Nat) (q236 : Nat) (J237 : Nat → Heap → Prop) (b280 : Bool) (s281 : ByteArray) (b282 : Bool) (s283 : ByteArray) (h284 : Heap) (Q : Bool → Heap → Prop) : Prop :=
 (eqL [(.bool b280), (.string s281)] [(.bool b282), (.string s283)] = true →
 Fin B h284 (fun h' => S_countermandlaw14_SheetDoes_J11 B k8 k34 q236 J237 (false) h' Q)) ∧ (¬ (eqL [(.bool b280), (.string s281)] [(.bool b282), (.string s283)] = true) →
 Fin B h284 (fun h' => S_countermandlaw14_SheetDoes_J11 B k8 k34 q236 J237 (true) h' Q))
def S_countermandlaw14_SheetDoes_J2 (B : RO) (k8 : Nat) (p16 : Option Addr) (p17 : Option Addr) (k25 : Nat) (s31 : ByteArray) (h33 : Heap) (Q : Bool → Heap → Prop) : Prop :=
 ∀ k34 : Nat, h33 k34 = none → B k34 = none → ∀ h35 : Heap, h35 = Heap.set h33 k34 (.vec 3 (plains [(.int .i64 (0))]) 1) →
 ∃ h36 : Heap, storeH h35 ⟨k34, 0, none⟩ (.int .i64 (0)) = some h36 ∧
 C_sheet_Sheet_Draft B p17 h36 (fun p228 h227 =>
 C_draft_Draft_file_File_All B p228 h227 (fun v230 h229 =>
 ∃ (xs238 : List (Int × Bool × ByteArray)) (G234 : Heap → Prop) (J237 : Nat → Heap → Prop), Iter PG B v230 (xs238.map (fun x : Int × Bool × ByteArray => [(.int .i64 (x.1)), (.agg #[(.bool x.2.1), (.string x.2.2)])])) G234 ∧ Ins G234 ∧ (∀ i h, J237 i h → G234 h) ∧ Fin B h229 (J237 0) ∧
 (∀ (q236 : Nat) (h235 : Heap) (i231 : Int) (b232 : Bool) (s233 : ByteArray), xs238[q236]? = some (i231, b232, s233) → J237 q236 h235 →
 ∀ k239 : Nat, h235 k239 = none → B k239 = none → ∀ h240 : Heap, h240 = Heap.set h235 k239 (.vec 41 (plains [(.bool false), (.string ByteArray.empty)]) 2) →
 ∃ h241 : Heap, StoresAt ⟨k239, 0, none⟩ h240 0 [(.bool b232), (.string s233)] h241 ∧
 C_countermandref14_Is B (i231) h241 (fun b252 h251 =>
 (b252 = true →
 ∃ p255 : Option Addr, cellH B h251 ⟨k25, 0, none⟩ = some (.pointer p255) ∧
 ∃ A256 : Addr, p255 = some A256 ∧
 0 ≤ (i231 : Int) ∧ (i231 : Int) < (6 : Nat) ∧
 ∃ b258 : Bool, cellH B h251 (Addr.add (Addr.add A256 24) (Int.toNat (i231) * 1)) = some (.bool b258) ∧ (b258 = true →
 (∃ b286 : Bool, ∃ s287 : ByteArray, CellsAt B h251 ⟨k239, 0, none⟩ 0 [(.bool b286), (.string s287)] ∧
 ∃ p288 : Option Addr, cellH B h251 ⟨k25, 0, none⟩ = some (.pointer p288) ∧
 ∃ A289 : Addr, p288 = some A289 ∧
 0 ≤ (i231 : Int) ∧ (i231 : Int) < (6 : Nat) ∧
 ∃ b291 : Bool, ∃ s292 : ByteArray, CellsAt B h251 (Addr.add (Addr.add A289 12) (Int.toNat (i231) * 2)) 0 [(.bool b291), (.string s292)] ∧
 S_countermandlaw14_SheetDoes_J14 B k8 k34 q236 J237 (b286) s287 (b291) s292 h251 Q) ∧
 (∃ p293 : Option Addr, cellH B h251 ⟨k25, 0, none⟩ = some (.pointer p293) ∧
 ∃ A294 : Addr, p293 = some A294 ∧
 0 ≤ (i231 : Int) ∧ (i231 : Int) < (6 : Nat) ∧
 (∃ b296 : Bool, ∃ s297 : ByteArray, CellsAt B h251 ⟨k239, 0, none⟩ 0 [(.bool b296), (.string s297)] ∧
 ∃ b298 : Bool, ∃ s299 : ByteArray, CellsAt B h251 (Addr.add (Addr.add A294 12) (Int.toNat (i231) * 2)) 0 [(.bool b298), (.string s299)] ∧
 S_countermandlaw14_SheetDoes_J14 B k8 k34 q236 J237 (b296) s297 (b298) s299 h251 Q) ∧
 (∃ b300 : Bool, ∃ s301 : ByteArray, CellsAt B h251 (Addr.add (Addr.add A294 12) (Int.toNat (i231) * 2)) 0 [(.bool b300), (.string s301)] ∧
 ∃ b302 : Bool, ∃ s303 : ByteArray, CellsAt B h251 ⟨k239, 0, none⟩ 0 [(.bool b302), (.string s303)] ∧
 S_countermandlaw14_SheetDoes_J14 B k8 k34 q236 J237 (b302) s303 (b300) s301 h251 Q))) ∧ (b258 = false →
 (S_countermandlaw14_SheetDoes_J13 B k8 k34 q236 J237 h251 Q) ∧
 ((S_countermandlaw14_SheetDoes_J13 B k8 k34 q236 J237 h251 Q) ∧
 (S_countermandlaw14_SheetDoes_J13 B k8 k34 q236 J237 h251 Q)))) ∧ (b252 = false →
 (S_countermandlaw14_SheetDoes_J12 B k8 k34 q236 J237 h251 Q) ∧
 ((S_countermandlaw14_SheetDoes_J12 B k8 k34 q236 J237 h251 Q) ∧
 (S_countermandlaw14_SheetDoes_J12 B k8 k34 q236 J237 h251 Q))))) ∧
 (∀ (h235 : Heap), J237 xs238.length h235 →
 Fin B h235 (fun h' => S_countermandlaw14_SheetDoes_J3 B k8 p16 p17 k25 s31 k34 h' Q))))
def S_countermandlaw14_SheetDoes_J1 (B : RO) (a2 : Option Addr) (n3 : Nat) (c4 : Nat) (k8 : Nat) (p16 : Option Addr) (p17 : Option Addr) (k25 : Nat) (h29 : Heap) (Q : Bool → Heap → Prop) : Prop :=
 C_tome_Tome_Bytes B p16 h29 (fun s31 h30 =>
 ∃ (J309 : Int → Nat → Heap → Prop) (m307 : Nat), Fin B h30 (J309 (0) m307) ∧
 ∀ (i304 : Int) (m306 : Nat) (h305 : Heap), J309 i304 m306 h305 →
 ((i304 : Int) < ((n3 : Nat)) →
 ∃ A310 : Addr, a2 = some A310 ∧ 0 ≤ (i304 : Int) ∧ (i304 : Int) < (n3 : Nat) ∧
 ∃ i312 : Int, ∃ i313 : Int, ∃ i314 : Int, ∃ i315 : Int, CellsAt B h305 (Addr.add A310 (Int.toNat (i304) * 4)) 0 [(.int .i64 (i312)), (.int .i64 (i313)), (.int .i64 (i314)), (.int .u8 (i315))] ∧
 ∀ k316 : Nat, h305 k316 = none → B k316 = none → ∀ h317 : Heap, h317 = Heap.set h305 k316 (.vec 81 (plains [(.int .i64 (0)), (.int .i64 (0)), (.int .i64 (0)), (.int .u8 (0))]) 4) →
 ∃ h318 : Heap, StoresAt ⟨k316, 0, none⟩ h317 0 [(.int .i64 (i312)), (.int .i64 (i313)), (.int .i64 (i314)), (.int .u8 (i315))] h318 ∧
 ∃ p319 : Option Addr, cellH B h318 ⟨k25, 0, none⟩ = some (.pointer p319) ∧
 ∃ i320 : Int, ∃ i321 : Int, ∃ i322 : Int, ∃ i323 : Int, CellsAt B h318 ⟨k316, 0, none⟩ 0 [(.int .i64 (i320)), (.int .i64 (i321)), (.int .i64 (i322)), (.int .u8 (i323))] ∧
 C_countermandlaw14_does B p16 p17 p319 (i320) (i321) (i322) (i323) h318 (fun b325 h324 =>
 (b325 = true →
 ∃ (J333 : Int → Nat → Heap → Prop) (m331 : Nat), Fin B h324 (J333 (0) m331) ∧
 ∀ (i328 : Int) (m330 : Nat) (h329 : Heap), J333 i328 m330 h329 →
 ((i328 : Int) < (6) →
 C_sheet_Sheet_Get B p17 p16 (i328) h329 (fun b335 s336 b337 h334 =>
 ∀ k338 : Nat, h334 k338 = none → B k338 = none → ∀ h339 : Heap, h339 = Heap.set h334 k338 (.vec 41 (plains [(.bool false), (.string ByteArray.empty)]) 2) →
 ∃ h340 : Heap, StoresAt ⟨k338, 0, none⟩ h339 0 [(.bool b335), (.string s336)] h340 ∧
 ∃ b341 : Bool, ∃ s342 : ByteArray, CellsAt B h340 ⟨k338, 0, none⟩ 0 [(.bool b341), (.string s342)] ∧
 ∃ p343 : Option Addr, cellH B h340 ⟨k25, 0, none⟩ = some (.pointer p343) ∧
 ∃ A344 : Addr, p343 = some A344 ∧
 0 ≤ (i328 : Int) ∧ (i328 : Int) < (6 : Nat) ∧
 ∃ b346 : Bool, ∃ s347 : ByteArray, CellsAt B h340 (Addr.add (Addr.add A344 12) (Int.toNat (i328) * 2)) 0 [(.bool b346), (.string s347)] ∧
 (eqL [(.bool b341), (.string s342)] [(.bool b346), (.string s347)] = true →
 ∃ p349 : Option Addr, cellH B h340 ⟨k25, 0, none⟩ = some (.pointer p349) ∧
 ∃ A350 : Addr, p349 = some A350 ∧
 0 ≤ (i328 : Int) ∧ (i328 : Int) < (6 : Nat) ∧
 ∃ b352 : Bool, cellH B h340 (Addr.add (Addr.add A350 24) (Int.toNat (i328) * 1)) = some (.bool b352) ∧
 (b337 = b352 →
 Fin B h340 (fun h' => ∃ m', m' < m330 ∧ J333 (IntKind.wrap .i64 ((i328) + (1))) m' h')) ∧ (¬ (b337 = b352) →
 ∃ h354 : Heap, storeH h340 ⟨k8, 0, none⟩ (.bool false) = some h354 ∧
 ∃ b355 : Bool, cellH B h354 ⟨k8, 0, none⟩ = some (.bool b355) ∧ Fin B h354 (Q (b355)))) ∧ (¬ (eqL [(.bool b341), (.string s342)] [(.bool b346), (.string s347)] = true) →
 ∃ h356 : Heap, storeH h340 ⟨k8, 0, none⟩ (.bool false) = some h356 ∧
 ∃ b357 : Bool, cellH B h356 ⟨k8, 0, none⟩ = some (.bool b357) ∧ Fin B h356 (Q (b357))))) ∧ (¬ ((i328 : Int) < (6)) →
 Fin B h329 (fun h' => ∃ m', m' < m306 ∧ J309 (IntKind.wrap .i64 ((i304) + (1))) m' h'))) ∧ (b325 = false →
 ∃ h326 : Heap, storeH h324 ⟨k8, 0, none⟩ (.bool false) = some h326 ∧
 ∃ b327 : Bool, cellH B h326 ⟨k8, 0, none⟩ = some (.bool b327) ∧ Fin B h326 (Q (b327))))) ∧ (¬ ((i304 : Int) < ((n3 : Nat))) →
 Fin B h305 (fun h' => S_countermandlaw14_SheetDoes_J2 B k8 p16 p17 k25 s31 h' Q)))
def S_countermandlaw14_SheetDoes (B : RO) (l1 : List Value) (a2 : Option Addr) (n3 : Nat) (c4 : Nat) (h : Heap) (Q : Bool → Heap → Prop) : Prop :=
 ∀ k6 : Nat, h k6 = none → B k6 = none → ∀ h7 : Heap, h7 = Heap.set h k6 (.vec 71 (plains l1) (List.length l1)) →
 ∀ k8 : Nat, h7 k8 = none → B k8 = none → ∀ h9 : Heap, h9 = Heap.set h7 k8 (.vec 4 (plains [(.bool false)]) 1) →
 C_countermandlaw14_alive B h9 (fun b11 h10 =>
 (b11 = true →
 ∃ l14 : List Value, List.length l14 = 12 ∧ CellsAt B h10 ⟨k6, 0, none⟩ 0 l14 ∧
 C_countermandlaw14_build B l14 h10 (fun p16 p17 p18 b19 h15 =>
 (b19 = true →
 ∀ k25 : Nat, h15 k25 = none → B k25 = none → ∀ h26 : Heap, h26 = Heap.set h15 k25 (.vec 72 (plains [(.pointer none)]) 1) →
 ∃ h27 : Heap, storeH h26 ⟨k25, 0, none⟩ (.pointer p18) = some h27 ∧
 (((n3 : Nat) : Int) > (60) →
 ∃ h358 : Heap, storeH h27 ⟨k8, 0, none⟩ (.bool true) = some h358 ∧
 ∃ b359 : Bool, cellH B h358 ⟨k8, 0, none⟩ = some (.bool b359) ∧ Fin B h358 (Q (b359))) ∧ (¬ (((n3 : Nat) : Int) > (60)) →
 Fin B h27 (fun h' => S_countermandlaw14_SheetDoes_J1 B a2 n3 c4 k8 p16 p17 k25 h' Q))) ∧ (b19 = false →
 ∀ k20 : Nat, h15 k20 = none → B k20 = none → ∀ h21 : Heap, h21 = Heap.set h15 k20 (.vec 72 (plains [(.pointer none)]) 1) →
 ∃ h22 : Heap, storeH h21 ⟨k20, 0, none⟩ (.pointer p18) = some h22 ∧
 ∃ h23 : Heap, storeH h22 ⟨k8, 0, none⟩ (.bool true) = some h23 ∧
 ∃ b24 : Bool, cellH B h23 ⟨k8, 0, none⟩ = some (.bool b24) ∧ Fin B h23 (Q (b24))))) ∧ (b11 = false →
 ∃ h12 : Heap, storeH h10 ⟨k8, 0, none⟩ (.bool false) = some h12 ∧
 ∃ b13 : Bool, cellH B h12 ⟨k8, 0, none⟩ = some (.bool b13) ∧ Fin B h12 (Q (b13))))
def S_tome_New (B : RO) (h : Heap) (Q : Option Addr → Heap → Prop) : Prop :=
 C_cell_New_file_File B (6) (false) ByteArray.empty h (fun p3 h2 =>
 ∀ k4 : Nat, h2 k4 = none → B k4 = none → ∀ h5 : Heap, h5 = Heap.set h2 k4 (.vec 113 (plains [(.pointer p3)]) 1) →
 Fin B h5 (Q (some ⟨k4, 0, none⟩)))
def S_sheet_Sheet_Create (B : RO) (p1 : Option Addr) (p2 : Option Addr) (i3 : Int) (h : Heap) (Q : Bool → Heap → Prop) : Prop :=
 C_sheet_Sheet_Get B p1 p2 (i3) h (fun b6 s7 b8 h5 =>
 ∀ k9 : Nat, h5 k9 = none → B k9 = none → ∀ h10 : Heap, h10 = Heap.set h5 k9 (.vec 41 (plains [(.bool false), (.string ByteArray.empty)]) 2) →
 ∃ h11 : Heap, StoresAt ⟨k9, 0, none⟩ h10 0 [(.bool b6), (.string s7)] h11 ∧
 ∃ b12 : Bool, ∃ s13 : ByteArray, CellsAt B h11 ⟨k9, 0, none⟩ 0 [(.bool b12), (.string s13)] ∧
 C_file_Make B (b12) s13 h11 (fun b15 s16 h14 =>
 C_sheet_Sheet_put B p1 p2 (i3) (b15) s16 h14 (fun b18 h17 =>
 Fin B h17 (Q (b18)))))
def S_sheet_Sheet_Get_J1 (B : RO) (p2 : Option Addr) (i3 : Int) (k7 : Nat) (h10 : Heap) (Q : Bool → ByteArray → Bool → Heap → Prop) : Prop :=
 C_tome_Tome_Get B p2 (i3) h10 (fun b12 s13 i14 h11 =>
 ∀ k15 : Nat, h11 k15 = none → B k15 = none → ∀ h16 : Heap, h16 = Heap.set h11 k15 (.vec 41 (plains [(.bool false), (.string ByteArray.empty)]) 2) →
 ∃ h17 : Heap, StoresAt ⟨k15, 0, none⟩ h16 0 [(.bool b12), (.string s13)] h17 ∧
 ∃ b18 : Bool, ∃ s19 : ByteArray, CellsAt B h17 ⟨k15, 0, none⟩ 0 [(.bool b18), (.string s19)] ∧
 ∃ h20 : Heap, StoresAt ⟨k7, 0, none⟩ h17 0 [(.bool b18), (.string s19)] h20 ∧
 ∃ b21 : Bool, ∃ s22 : ByteArray, CellsAt B h20 ⟨k7, 0, none⟩ 0 [(.bool b21), (.string s22)] ∧ Fin B h20 (Q (b21) s22 (false)))
def S_sheet_Sheet_Get (B : RO) (p1 : Option Addr) (p2 : Option Addr) (i3 : Int) (h : Heap) (Q : Bool → ByteArray → Bool → Heap → Prop) : Prop :=
 ∀ k7 : Nat, h k7 = none → B k7 = none → ∀ h8 : Heap, h8 = Heap.set h k7 (.vec 41 (plains [(.bool false), (.string ByteArray.empty)]) 2) →
 (p1 = none →
 Fin B h8 (fun h' => S_sheet_Sheet_Get_J1 B p2 i3 k7 h' Q)) ∧ (¬ (p1 = none) →
 ∃ A24 : Addr, p1 = some A24 ∧
 ∃ p26 : Option Addr, cellH B h8 A24 = some (.pointer p26) ∧
 C_draft_Draft_file_File_Get B p26 (i3) h8 (fun b28 s29 b30 h27 =>
 (b30 = true →
 ∀ k34 : Nat, h27 k34 = none → B k34 = none → ∀ h35 : Heap, h35 = Heap.set h27 k34 (.vec 41 (plains [(.bool false), (.string ByteArray.empty)]) 2) →
 ∃ h36 : Heap, StoresAt ⟨k34, 0, none⟩ h35 0 [(.bool b28), (.string s29)] h36 ∧
 ∃ b37 : Bool, ∃ s38 : ByteArray, CellsAt B h36 ⟨k34, 0, none⟩ 0 [(.bool b37), (.string s38)] ∧
 ∃ h39 : Heap, StoresAt ⟨k7, 0, none⟩ h36 0 [(.bool b37), (.string s38)] h39 ∧
 ∃ b40 : Bool, ∃ s41 : ByteArray, CellsAt B h39 ⟨k7, 0, none⟩ 0 [(.bool b40), (.string s41)] ∧ Fin B h39 (Q (b40) s41 (true))) ∧ (b30 = false →
 ∀ k31 : Nat, h27 k31 = none → B k31 = none → ∀ h32 : Heap, h32 = Heap.set h27 k31 (.vec 41 (plains [(.bool false), (.string ByteArray.empty)]) 2) →
 ∃ h33 : Heap, StoresAt ⟨k31, 0, none⟩ h32 0 [(.bool b28), (.string s29)] h33 ∧
 Fin B h33 (fun h' => S_sheet_Sheet_Get_J1 B p2 i3 k7 h' Q))))
def S_countermandlaw14_alive_J1 (B : RO) (p3 : Option Addr) (p5 : Option Addr) (h7 : Heap) (Q : Bool → Heap → Prop) : Prop :=
 C_sheet_Sheet_Get B p3 p5 (2) h7 (fun b9 s10 b11 h8 =>
 (b11 = true →
 ∀ k23 : Nat, h8 k23 = none → B k23 = none → ∀ h24 : Heap, h24 = Heap.set h8 k23 (.vec 41 (plains [(.bool false), (.string ByteArray.empty)]) 2) →
 ∃ h25 : Heap, StoresAt ⟨k23, 0, none⟩ h24 0 [(.bool b9), (.string s10)] h25 ∧
 C_sheet_Sheet_Get B p3 p5 (1) h25 (fun b27 s28 b29 h26 =>
 ∀ k30 : Nat, h26 k30 = none → B k30 = none → ∀ h31 : Heap, h31 = Heap.set h26 k30 (.vec 41 (plains [(.bool false), (.string ByteArray.empty)]) 2) →
 ∃ h32 : Heap, StoresAt ⟨k30, 0, none⟩ h31 0 [(.bool b27), (.string s28)] h32 ∧
 ∃ b33 : Bool, cellH B h32 ⟨k23, 0, none⟩ = some (.bool b33) ∧ (b33 = true →
 ∃ b34 : Bool, cellH B h32 ⟨k30, 0, none⟩ = some (.bool b34) ∧
 Fin B h32 (Q ((!b34)))) ∧ (b33 = false →
 Fin B h32 (Q (false))))) ∧ (b11 = false →
 ∀ k12 : Nat, h8 k12 = none → B k12 = none → ∀ h13 : Heap, h13 = Heap.set h8 k12 (.vec 41 (plains [(.bool false), (.string ByteArray.empty)]) 2) →
 ∃ h14 : Heap, StoresAt ⟨k12, 0, none⟩ h13 0 [(.bool b9), (.string s10)] h14 ∧
 C_sheet_Sheet_Get B p3 p5 (1) h14 (fun b16 s17 b18 h15 =>
 ∀ k19 : Nat, h15 k19 = none → B k19 = none → ∀ h20 : Heap, h20 = Heap.set h15 k19 (.vec 41 (plains [(.bool false), (.string ByteArray.empty)]) 2) →
 ∃ h21 : Heap, StoresAt ⟨k19, 0, none⟩ h20 0 [(.bool b16), (.string s17)] h21 ∧
 ∃ b22 : Bool, cellH B h21 ⟨k12, 0, none⟩ = some (.bool b22) ∧ (b22 = true →
 Fin B h21 (Q (false))) ∧ (b22 = false →
 Fin B h21 (Q (false))))))
def S_countermandlaw14_alive (B : RO) (h : Heap) (Q : Bool → Heap → Prop) : Prop :=
 C_sheet_New B h (fun p3 h2 =>
 C_tome_New B h2 (fun p5 h4 =>
 C_sheet_Sheet_Create B p3 p5 (1) h4 (fun b36 h35 =>
 (b36 = true →
 C_sheet_Sheet_Rename B p3 p5 (1) (2) h35 (fun b38 h37 =>
 (b38 = true →
 Fin B h37 (fun h' => S_countermandlaw14_alive_J1 B p3 p5 h' Q)) ∧ (b38 = false →
 Fin B h37 (Q (false))))) ∧ (b36 = false →
 Fin B h35 (Q (false))))))
def S_countermandlaw14_build_J1 (B : RO) (p9 : Option Addr) (k10 : Nat) (h13 : Heap) (Q : Option Addr → Option Addr → Option Addr → Bool → Heap → Prop) : Prop :=
 C_sheet_New B h13 (fun p15 h14 =>
 Fin B h14 (Q p9 p15 (some ⟨k10, 0, none⟩) (true)))
def S_countermandlaw14_build (B : RO) (l1 : List Value) (h : Heap) (Q : Option Addr → Option Addr → Option Addr → Bool → Heap → Prop) : Prop :=
 ∀ k6 : Nat, h k6 = none → B k6 = none → ∀ h7 : Heap, h7 = Heap.set h k6 (.vec 71 (plains l1) (List.length l1)) →
 C_tome_New B h7 (fun p9 h8 =>
 ∀ k10 : Nat, h8 k10 = none → B k10 = none → ∀ h11 : Heap, h11 = Heap.set h8 k10 (.vec 86 (plains [(.bool false), (.string ByteArray.empty), (.bool false), (.string ByteArray.empty), (.bool false), (.string ByteArray.empty), (.bool false), (.string ByteArray.empty), (.bool false), (.string ByteArray.empty), (.bool false), (.string ByteArray.empty), (.bool false), (.string ByteArray.empty), (.bool false), (.string ByteArray.empty), (.bool false), (.string ByteArray.empty), (.bool false), (.string ByteArray.empty), (.bool false), (.string ByteArray.empty), (.bool false), (.string ByteArray.empty), (.bool false), (.bool false), (.bool false), (.bool false), (.bool false), (.bool false)]) 30) →
 ∃ l16 : List Value, List.length l16 = 12 ∧ CellsAt B h11 ⟨k6, 0, none⟩ 0 l16 ∧
 ∃ (J22 : Int → Nat → Heap → Prop) (m20 : Nat), Fin B h11 (J22 (0) m20) ∧
 ∀ (i17 : Int) (m19 : Nat) (h18 : Heap), J22 i17 m19 h18 →
 ((i17 : Int) < (6) →
 0 ≤ (i17 : Int) ∧ (i17 : Int) < (6 : Nat) ∧ ∃ b23 : Bool, ∃ s24 : ByteArray, Array.extract (List.toArray l16) (Int.toNat (i17) * 2) (Int.toNat (i17) * 2 + 2) = #[(.bool b23), (.string s24)] ∧
 ∀ k25 : Nat, h18 k25 = none → B k25 = none → ∀ h26 : Heap, h26 = Heap.set h18 k25 (.vec 41 (plains [(.bool false), (.string ByteArray.empty)]) 2) →
 ∃ h27 : Heap, StoresAt ⟨k25, 0, none⟩ h26 0 [(.bool b23), (.string s24)] h27 ∧
 ∃ b28 : Bool, ∃ s29 : ByteArray, CellsAt B h27 ⟨k25, 0, none⟩ 0 [(.bool b28), (.string s29)] ∧
 C_tome_Tome_Set B p9 (i17) (b28) s29 (i17) h27 (fun b31 h30 =>
 (b31 = true →
 ∃ b32 : Bool, ∃ s33 : ByteArray, CellsAt B h30 ⟨k25, 0, none⟩ 0 [(.bool b32), (.string s33)] ∧
 0 ≤ (i17 : Int) ∧ (i17 : Int) < (6 : Nat) ∧
 ∃ h34 : Heap, StoresAt (Addr.add ⟨k10, 0, none⟩ (Int.toNat (i17) * 2)) h30 0 [(.bool b32), (.string s33)] h34 ∧
 0 ≤ (i17 : Int) ∧ (i17 : Int) < (6 : Nat) ∧
 ∃ b35 : Bool, ∃ s36 : ByteArray, CellsAt B h34 (Addr.add ⟨k10, 0, none⟩ (Int.toNat (i17) * 2)) 0 [(.bool b35), (.string s36)] ∧
 0 ≤ (i17 : Int) ∧ (i17 : Int) < (6 : Nat) ∧
 ∃ h37 : Heap, StoresAt (Addr.add ⟨k10, 12, none⟩ (Int.toNat (i17) * 2)) h34 0 [(.bool b35), (.string s36)] h37 ∧
 Fin B h37 (fun h' => ∃ m', m' < m19 ∧ J22 (IntKind.wrap .i64 ((i17) + (1))) m' h')) ∧ (b31 = false →
 Fin B h30 (Q none none none (false))))) ∧ (¬ ((i17 : Int) < (6)) →
 Fin B h18 (fun h' => S_countermandlaw14_build_J1 B p9 k10 h' Q)))
def S_countermandref14_Is (B : RO) (i1 : Int) (h : Heap) (Q : Bool → Heap → Prop) : Prop :=
 ((i1 : Int) ≥ (0) →
 Fin B h (Q ((decide ((i1 : Int) ≤ (5)))))) ∧ (¬ ((i1 : Int) ≥ (0)) →
 Fin B h (Q (false)))
def S_sheet_Sheet_Rename_J1 (B : RO) (p1 : Option Addr) (p2 : Option Addr) (i3 : Int) (i4 : Int) (k10 : Nat) (h14 : Heap) (Q : Bool → Heap → Prop) : Prop :=
 ∃ b15 : Bool, ∃ s16 : ByteArray, CellsAt B h14 ⟨k10, 0, none⟩ 0 [(.bool b15), (.string s16)] ∧
 C_sheet_Sheet_put B p1 p2 (i4) (b15) s16 h14 (fun b18 h17 =>
 C_sheet_Sheet_put B p1 p2 (i3) (false) ByteArray.empty h17 (fun b20 h19 =>
 Fin B h19 (Q (b20))))
def S_sheet_Sheet_Rename_J2 (B : RO) (p1 : Option Addr) (p2 : Option Addr) (i3 : Int) (i4 : Int) (k10 : Nat) (b22 : Bool) (h23 : Heap) (Q : Bool → Heap → Prop) : Prop :=
 (b22 = true →
 Fin B h23 (Q (false))) ∧ (b22 = false →
 ∃ b24 : Bool, cellH B h23 ⟨k10, 0, none⟩ = some (.bool b24) ∧ (b24 = true →
 ((i3 : Int) = i4 →
 Fin B h23 (Q (true))) ∧ (¬ ((i3 : Int) = i4) →
 Fin B h23 (fun h' => S_sheet_Sheet_Rename_J1 B p1 p2 i3 i4 k10 h' Q))) ∧ (b24 = false →
 Fin B h23 (Q (true))))
def S_sheet_Sheet_Rename (B : RO) (p1 : Option Addr) (p2 : Option Addr) (i3 : Int) (i4 : Int) (h : Heap) (Q : Bool → Heap → Prop) : Prop :=
 C_sheet_Sheet_Get B p1 p2 (i3) h (fun b7 s8 b9 h6 =>
 ∀ k10 : Nat, h6 k10 = none → B k10 = none → ∀ h11 : Heap, h11 = Heap.set h6 k10 (.vec 41 (plains [(.bool false), (.string ByteArray.empty)]) 2) →
 ∃ h12 : Heap, StoresAt ⟨k10, 0, none⟩ h11 0 [(.bool b7), (.string s8)] h12 ∧
 (p1 = none →
 Fin B h12 (fun h' => S_sheet_Sheet_Rename_J2 B p1 p2 i3 i4 k10 (true) h' Q)) ∧ (¬ (p1 = none) →
 ((i3 : Int) < (0) →
 Fin B h12 (fun h' => S_sheet_Sheet_Rename_J2 B p1 p2 i3 i4 k10 (true) h' Q)) ∧ (¬ ((i3 : Int) < (0)) →
 ((i3 : Int) ≥ (6) →
 Fin B h12 (fun h' => S_sheet_Sheet_Rename_J2 B p1 p2 i3 i4 k10 (true) h' Q)) ∧ (¬ ((i3 : Int) ≥ (6)) →
 ((i4 : Int) < (0) →
 Fin B h12 (fun h' => S_sheet_Sheet_Rename_J2 B p1 p2 i3 i4 k10 (true) h' Q)) ∧ (¬ ((i4 : Int) < (0)) →
 ((i4 : Int) ≥ (6) →
 Fin B h12 (fun h' => S_sheet_Sheet_Rename_J2 B p1 p2 i3 i4 k10 (true) h' Q)) ∧ (¬ ((i4 : Int) ≥ (6)) →
 Fin B h12 (fun h' => S_sheet_Sheet_Rename_J2 B p1 p2 i3 i4 k10 (false) h' Q)))))))
def S_countermandlaw14_does (B : RO) (p1 : Option Addr) (p2 : Option Addr) (p3 : Option Addr) (i4 : Int) (i5 : Int) (i6 : Int) (i7 : Int) (h : Heap) (Q : Bool → Heap → Prop) : Prop :=
 ∀ k9 : Nat, h k9 = none → B k9 = none → ∀ h10 : Heap, h10 = Heap.set h k9 (.vec 81 (plains [(.int .i64 (i4)), (.int .i64 (i5)), (.int .i64 (i6)), (.int .u8 (i7))]) 4) →
 ∃ i11 : Int, cellH B h10 ⟨k9, 0, none⟩ = some (.int .i64 (i11)) ∧
 ((i11 : Int) = 0 →
 ∃ i15 : Int, cellH B h10 ⟨k9, 1, none⟩ = some (.int .i64 (i15)) ∧
 ∃ i18 : Int, cellH B h10 ⟨k9, 2, none⟩ = some (.int .i64 (i18)) ∧
 ∃ i21 : Int, cellH B h10 ⟨k9, 3, none⟩ = some (.int .u8 (i21)) ∧
 ∃ i25 : Int, cellH B h10 ⟨k9, 1, none⟩ = some (.int .i64 (i25)) ∧
 ∃ i28 : Int, cellH B h10 ⟨k9, 2, none⟩ = some (.int .i64 (i28)) ∧
 ∃ i31 : Int, cellH B h10 ⟨k9, 3, none⟩ = some (.int .u8 (i31)) ∧
 C_sheet_Sheet_Write B p2 p1 (i15) (i18) (i21) h10 (fun b34 h33 =>
 cellH B h33 ⟨k9, 1, none⟩ = some (.int .i64 (i15)) ∧ cellH B h33 ⟨k9, 2, none⟩ = some (.int .i64 (i18)) ∧ cellH B h33 ⟨k9, 3, none⟩ = some (.int .u8 (i21)) ∧ cellH B h33 ⟨k9, 1, none⟩ = some (.int .i64 (i25)) ∧ cellH B h33 ⟨k9, 2, none⟩ = some (.int .i64 (i28)) ∧ cellH B h33 ⟨k9, 3, none⟩ = some (.int .u8 (i31)) ∧
 C_countermandref14_Sheet_Write B p3 (i25) (i28) (i31) h33 (fun b42 h41 =>
 cellH B h41 ⟨k9, 1, none⟩ = some (.int .i64 (i15)) ∧ cellH B h41 ⟨k9, 2, none⟩ = some (.int .i64 (i18)) ∧ cellH B h41 ⟨k9, 3, none⟩ = some (.int .u8 (i21)) ∧ cellH B h41 ⟨k9, 1, none⟩ = some (.int .i64 (i25)) ∧ cellH B h41 ⟨k9, 2, none⟩ = some (.int .i64 (i28)) ∧ cellH B h41 ⟨k9, 3, none⟩ = some (.int .u8 (i31)) ∧
 Fin B h41 (Q ((decide (b34 = b42))))))) ∧ (¬ ((i11 : Int) = 0) →
 ((i11 : Int) = 1 →
 ∃ i52 : Int, cellH B h10 ⟨k9, 1, none⟩ = some (.int .i64 (i52)) ∧
 ∃ i55 : Int, cellH B h10 ⟨k9, 2, none⟩ = some (.int .i64 (i55)) ∧
 ∃ i59 : Int, cellH B h10 ⟨k9, 1, none⟩ = some (.int .i64 (i59)) ∧
 ∃ i62 : Int, cellH B h10 ⟨k9, 2, none⟩ = some (.int .i64 (i62)) ∧
 C_sheet_Sheet_Cut B p2 p1 (i52) (i55) h10 (fun b65 h64 =>
 cellH B h64 ⟨k9, 1, none⟩ = some (.int .i64 (i52)) ∧ cellH B h64 ⟨k9, 2, none⟩ = some (.int .i64 (i55)) ∧ cellH B h64 ⟨k9, 1, none⟩ = some (.int .i64 (i59)) ∧ cellH B h64 ⟨k9, 2, none⟩ = some (.int .i64 (i62)) ∧
 C_countermandref14_Sheet_Cut B p3 (i59) (i62) h64 (fun b71 h70 =>
 cellH B h70 ⟨k9, 1, none⟩ = some (.int .i64 (i52)) ∧ cellH B h70 ⟨k9, 2, none⟩ = some (.int .i64 (i55)) ∧ cellH B h70 ⟨k9, 1, none⟩ = some (.int .i64 (i59)) ∧ cellH B h70 ⟨k9, 2, none⟩ = some (.int .i64 (i62)) ∧
 Fin B h70 (Q ((decide (b65 = b71))))))) ∧ (¬ ((i11 : Int) = 1) →
 ((i11 : Int) = 2 →
 ∃ i79 : Int, cellH B h10 ⟨k9, 1, none⟩ = some (.int .i64 (i79)) ∧
 ∃ i83 : Int, cellH B h10 ⟨k9, 1, none⟩ = some (.int .i64 (i83)) ∧
 C_sheet_Sheet_Create B p2 p1 (i79) h10 (fun b86 h85 =>
 cellH B h85 ⟨k9, 1, none⟩ = some (.int .i64 (i79)) ∧ cellH B h85 ⟨k9, 1, none⟩ = some (.int .i64 (i83)) ∧
 C_countermandref14_Sheet_Create B p3 (i83) h85 (fun b90 h89 =>
 cellH B h89 ⟨k9, 1, none⟩ = some (.int .i64 (i79)) ∧ cellH B h89 ⟨k9, 1, none⟩ = some (.int .i64 (i83)) ∧
 Fin B h89 (Q ((decide (b86 = b90))))))) ∧ (¬ ((i11 : Int) = 2) →
 ((i11 : Int) = 3 →
 ∃ i96 : Int, cellH B h10 ⟨k9, 1, none⟩ = some (.int .i64 (i96)) ∧
 ∃ i100 : Int, cellH B h10 ⟨k9, 1, none⟩ = some (.int .i64 (i100)) ∧
 C_sheet_Sheet_Remove B p2 p1 (i96) h10 (fun b103 h102 =>
 cellH B h102 ⟨k9, 1, none⟩ = some (.int .i64 (i96)) ∧ cellH B h102 ⟨k9, 1, none⟩ = some (.int .i64 (i100)) ∧
 C_countermandref14_Sheet_Remove B p3 (i100) h102 (fun b107 h106 =>
 cellH B h106 ⟨k9, 1, none⟩ = some (.int .i64 (i96)) ∧ cellH B h106 ⟨k9, 1, none⟩ = some (.int .i64 (i100)) ∧
 Fin B h106 (Q ((decide (b103 = b107))))))) ∧ (¬ ((i11 : Int) = 3) →
 ((i11 : Int) = 4 →
 ∃ i113 : Int, cellH B h10 ⟨k9, 1, none⟩ = some (.int .i64 (i113)) ∧
 ∃ i116 : Int, cellH B h10 ⟨k9, 2, none⟩ = some (.int .i64 (i116)) ∧
 ∃ i120 : Int, cellH B h10 ⟨k9, 1, none⟩ = some (.int .i64 (i120)) ∧
 ∃ i123 : Int, cellH B h10 ⟨k9, 2, none⟩ = some (.int .i64 (i123)) ∧
 C_sheet_Sheet_Rename B p2 p1 (i113) (i116) h10 (fun b126 h125 =>
 cellH B h125 ⟨k9, 1, none⟩ = some (.int .i64 (i113)) ∧ cellH B h125 ⟨k9, 2, none⟩ = some (.int .i64 (i116)) ∧ cellH B h125 ⟨k9, 1, none⟩ = some (.int .i64 (i120)) ∧ cellH B h125 ⟨k9, 2, none⟩ = some (.int .i64 (i123)) ∧
 C_countermandref14_Sheet_Rename B p3 (i120) (i123) h125 (fun b132 h131 =>
 cellH B h131 ⟨k9, 1, none⟩ = some (.int .i64 (i113)) ∧ cellH B h131 ⟨k9, 2, none⟩ = some (.int .i64 (i116)) ∧ cellH B h131 ⟨k9, 1, none⟩ = some (.int .i64 (i120)) ∧ cellH B h131 ⟨k9, 2, none⟩ = some (.int .i64 (i123)) ∧
 Fin B h131 (Q ((decide (b126 = b132))))))) ∧ (¬ ((i11 : Int) = 4) →
 Fin B h10 (Q (true)))))))
def S_sheet_Sheet_Copy (B : RO) (p1 : Option Addr) (h : Heap) (Q : Option Addr → Heap → Prop) : Prop :=
 (p1 = none →
 Fin B h (Q none)) ∧ (¬ (p1 = none) →
 ∃ A4 : Addr, p1 = some A4 ∧
 ∃ p6 : Option Addr, cellH B h A4 = some (.pointer p6) ∧
 C_draft_Draft_file_File_Copy B p6 h (fun p8 h7 =>
 ∀ k9 : Nat, h7 k9 = none → B k9 = none → ∀ h10 : Heap, h10 = Heap.set h7 k9 (.vec 128 (plains [(.pointer p8)]) 1) →
 Fin B h10 (Q (some ⟨k9, 0, none⟩))))
def S_sheet_Sheet_Over (B : RO) (p1 : Option Addr) (p2 : Option Addr) (i3 : Int) (h : Heap) (Q : Int → Heap → Prop) : Prop :=
 ∀ k5 : Nat, h k5 = none → B k5 = none → ∀ h6 : Heap, h6 = Heap.set h k5 (.vec 25 [.plain (.pointer p2)] 1) →
 ∀ k7 : Nat, h6 k7 = none → B k7 = none → ∀ h8 : Heap, h8 = Heap.set h6 k7 (.vec 3 [.plain (.int .i64 (i3))] 1) →
 ∀ k9 : Nat, h8 k9 = none → B k9 = none → ∀ h10 : Heap, h10 = Heap.set h8 k9 (.vec 3 (plains [(.int .i64 (0))]) 1) →
 ∃ h11 : Heap, storeH h10 ⟨k9, 0, none⟩ (.int .i64 (0)) = some h11 ∧
 C_sheet_Sheet_Draft B p1 h11 (fun p13 h12 =>
 C_draft_Draft_file_File_All B p13 h12 (fun v15 h14 =>
 ∃ (xs23 : List (Int × Bool × ByteArray)) (G19 : Heap → Prop) (J22 : Nat → Heap → Prop), Iter PG B v15 (xs23.map (fun x : Int × Bool × ByteArray => [(.int .i64 (x.1)), (.agg #[(.bool x.2.1), (.string x.2.2)])])) G19 ∧ Ins G19 ∧ (∀ i h, J22 i h → G19 h) ∧ Fin B h14 (J22 0) ∧
 (∀ (q21 : Nat) (h20 : Heap) (i16 : Int) (b17 : Bool) (s18 : ByteArray), xs23[q21]? = some (i16, b17, s18) → J22 q21 h20 →
 ∀ k24 : Nat, h20 k24 = none → B k24 = none → ∀ h25 : Heap, h25 = Heap.set h20 k24 (.vec 41 (plains [(.bool false), (.string ByteArray.empty)]) 2) →
 ∃ h26 : Heap, StoresAt ⟨k24, 0, none⟩ h25 0 [(.bool b17), (.string s18)] h26 ∧
 ∃ p27 : Option Addr, cellH B h26 ⟨k5, 0, none⟩ = some (.pointer p27) ∧
 ∃ b28 : Bool, ∃ s29 : ByteArray, CellsAt B h26 ⟨k24, 0, none⟩ 0 [(.bool b28), (.string s29)] ∧
 ∃ i30 : Int, cellH B h26 ⟨k7, 0, none⟩ = some (.int .i64 (i30)) ∧
 C_tome_Tome_Set B p27 (i16) (b28) s29 (i30) h26 (fun b32 h31 =>
 (b32 = true →
 ∃ i33 : Int, cellH B h31 ⟨k9, 0, none⟩ = some (.int .i64 (i33)) ∧
 ∃ h34 : Heap, storeH h31 ⟨k9, 0, none⟩ (.int .i64 (IntKind.wrap .i64 ((i33) + (1)))) = some h34 ∧
 Fin B h34 (J22 (q21 + 1))) ∧ (b32 = false →
 Fin B h31 (J22 (q21 + 1))))) ∧
 (∀ (h20 : Heap), J22 xs23.length h20 →
 ∃ i35 : Int, cellH B h20 ⟨k9, 0, none⟩ = some (.int .i64 (i35)) ∧
 Fin B h20 (Q (i35)))))
def S_tome_Tome_Get (B : RO) (p1 : Option Addr) (i2 : Int) (h : Heap) (Q : Bool → ByteArray → Int → Heap → Prop) : Prop :=
 ∀ k6 : Nat, h k6 = none → B k6 = none → ∀ h7 : Heap, h7 = Heap.set h k6 (.vec 41 (plains [(.bool false), (.string ByteArray.empty)]) 2) →
 (p1 = none →
 ∃ h9 : Heap, StoresAt ⟨k6, 0, none⟩ h7 0 [(.bool false), (.string ByteArray.empty)] h9 ∧
 ∃ b10 : Bool, ∃ s11 : ByteArray, CellsAt B h9 ⟨k6, 0, none⟩ 0 [(.bool b10), (.string s11)] ∧ Fin B h9 (Q (b10) s11 (0))) ∧ (¬ (p1 = none) →
 ∃ A12 : Addr, p1 = some A12 ∧
 ∃ p14 : Option Addr, cellH B h7 A12 = some (.pointer p14) ∧
 C_cell_Row_file_File_Get B p14 (i2) h7 (fun b16 s17 i18 h15 =>
 ∃ h19 : Heap, StoresAt ⟨k6, 0, none⟩ h15 0 [(.bool b16), (.string s17)] h19 ∧
 ∃ b20 : Bool, ∃ s21 : ByteArray, CellsAt B h19 ⟨k6, 0, none⟩ 0 [(.bool b20), (.string s21)] ∧ Fin B h19 (Q (b20) s21 (i18))))
def S_tome_Tome_Bytes (B : RO) (p1 : Option Addr) (h : Heap) (Q : ByteArray → Heap → Prop) : Prop :=
 ∀ k3 : Nat, h k3 = none → B k3 = none → ∀ h4 : Heap, h4 = Heap.set h k3 (.vec 146 (plains [(.slice none 0 0)]) 1) →
 ∀ k5 : Nat, h4 k5 = none → B k5 = none → ∀ h6 : Heap, h6 = Heap.set h4 k5 (.vec 143 (plains [(.pointer none)]) 1) →
 ∃ h7 : Heap, storeH h6 ⟨k5, 0, none⟩ (.pointer (some ⟨k3, 0, none⟩)) = some h7 ∧
 C_tome_Tome_All B p1 h7 (fun v9 h8 =>
 ∃ (xs17 : List (Int × Bool × ByteArray)) (G13 : Heap → Prop) (J16 : Nat → Heap → Prop), Iter PG B v9 (xs17.map (fun x : Int × Bool × ByteArray => [(.int .i64 (x.1)), (.agg #[(.bool x.2.1), (.string x.2.2)])])) G13 ∧ Ins G13 ∧ (∀ i h, J16 i h → G13 h) ∧ Fin B h8 (J16 0) ∧
 (∀ (q15 : Nat) (h14 : Heap) (i10 : Int) (b11 : Bool) (s12 : ByteArray), xs17[q15]? = some (i10, b11, s12) → J16 q15 h14 →
 ∀ k18 : Nat, h14 k18 = none → B k18 = none → ∀ h19 : Heap, h19 = Heap.set h14 k18 (.vec 41 (plains [(.bool false), (.string ByteArray.empty)]) 2) →
 ∃ h20 : Heap, StoresAt ⟨k18, 0, none⟩ h19 0 [(.bool b11), (.string s12)] h20 ∧
 ∃ p21 : Option Addr, cellH B h20 ⟨k5, 0, none⟩ = some (.pointer p21) ∧
 ∀ k22 : Nat, h20 k22 = none → B k22 = none → ∀ h23 : Heap, h23 = Heap.set h20 k22 (.vec 3 (plains [(.int .i64 (i10))]) 1) →
 C_stylus_Stylus_Nat B p21 (some ⟨k22, 0, none⟩) 1 1 h23 (fun h24 =>
 ∃ p25 : Option Addr, cellH B h24 ⟨k5, 0, none⟩ = some (.pointer p25) ∧
 ∃ s26 : ByteArray, cellH B h24 ⟨k18, 1, none⟩ = some (.string s26) ∧
 ∀ k27 : Nat, h24 k27 = none → B k27 = none → ∀ h28 : Heap, h28 = Heap.set h24 k27 (.vec 9 (plains [(.string s26)]) 1) →
 C_stylus_Stylus_Text B p25 (some ⟨k27, 0, none⟩) 1 1 h28 (fun h29 =>
 Fin B h29 (J16 (q15 + 1))))) ∧
 (∀ (h14 : Heap), J16 xs17.length h14 →
 ∃ p30 : Option Addr, cellH B h14 ⟨k5, 0, none⟩ = some (.pointer p30) ∧
 C_stylus_Stylus_Bytes B p30 h14 (fun s32 h31 =>
 Fin B h31 (Q s32))))
def S_sheet_Sheet_Draft (B : RO) (p1 : Option Addr) (h : Heap) (Q : Option Addr → Heap → Prop) : Prop :=
 (p1 = none →
 Fin B h (Q none)) ∧ (¬ (p1 = none) →
 ∃ A4 : Addr, p1 = some A4 ∧
 ∃ p6 : Option Addr, cellH B h A4 = some (.pointer p6) ∧
 Fin B h (Q p6))
def S_draft_Draft_file_File_All (B : RO) (p1 : Option Addr) (h : Heap) (Q : Value → Heap → Prop) : Prop :=
 ∀ k3 : Nat, h k3 = none → B k3 = none → ∀ h4 : Heap, h4 = Heap.set h k3 (.vec 95 [.plain (.pointer p1)] 1) →
 Fin B h4 (Q (Value.func (.func 95) #[] #[(.pointer (some ⟨k3, 0, none⟩))]))
def S_draft_Draft_file_File_Len (B : RO) (p1 : Option Addr) (h : Heap) (Q : Int → Heap → Prop) : Prop :=
 (p1 = none →
 Fin B h (Q (0))) ∧ (¬ (p1 = none) →
 ∃ A4 : Addr, p1 = some A4 ∧
 LdSl B h A4 fun a6 n7 c8 h9 =>
 Fin B h9 (Q ((n7 : Nat))))
def S_sheet_Sheet_Write (B : RO) (p1 : Option Addr) (p2 : Option Addr) (i3 : Int) (i4 : Int) (i5 : Int) (h : Heap) (Q : Bool → Heap → Prop) : Prop :=
 C_sheet_Sheet_Get B p1 p2 (i3) h (fun b8 s9 b10 h7 =>
 ∀ k11 : Nat, h7 k11 = none → B k11 = none → ∀ h12 : Heap, h12 = Heap.set h7 k11 (.vec 41 (plains [(.bool false), (.string ByteArray.empty)]) 2) →
 ∃ h13 : Heap, StoresAt ⟨k11, 0, none⟩ h12 0 [(.bool b8), (.string s9)] h13 ∧
 ∃ b14 : Bool, ∃ s15 : ByteArray, CellsAt B h13 ⟨k11, 0, none⟩ 0 [(.bool b14), (.string s15)] ∧
 C_file_Put B (b14) s15 (i4) (i5) h13 (fun b17 s18 h16 =>
 C_sheet_Sheet_put B p1 p2 (i3) (b17) s18 h16 (fun b20 h19 =>
 Fin B h19 (Q (b20)))))
def S_sheet_Sheet_Cut (B : RO) (p1 : Option Addr) (p2 : Option Addr) (i3 : Int) (i4 : Int) (h : Heap) (Q : Bool → Heap → Prop) : Prop :=
 C_sheet_Sheet_Get B p1 p2 (i3) h (fun b7 s8 b9 h6 =>
 ∀ k10 : Nat, h6 k10 = none → B k10 = none → ∀ h11 : Heap, h11 = Heap.set h6 k10 (.vec 41 (plains [(.bool false), (.string ByteArray.empty)]) 2) →
 ∃ h12 : Heap, StoresAt ⟨k10, 0, none⟩ h11 0 [(.bool b7), (.string s8)] h12 ∧
 ∃ b13 : Bool, ∃ s14 : ByteArray, CellsAt B h12 ⟨k10, 0, none⟩ 0 [(.bool b13), (.string s14)] ∧
 C_file_Cut B (b13) s14 (i4) h12 (fun b16 s17 h15 =>
 C_sheet_Sheet_put B p1 p2 (i3) (b16) s17 h15 (fun b19 h18 =>
 Fin B h18 (Q (b19)))))
def S_sheet_Sheet_Remove (B : RO) (p1 : Option Addr) (p2 : Option Addr) (i3 : Int) (h : Heap) (Q : Bool → Heap → Prop) : Prop :=
 C_sheet_Sheet_put B p1 p2 (i3) (false) ByteArray.empty h (fun b6 h5 =>
 Fin B h5 (Q (b6)))
def S_cell_New_file_File (B : RO) (i1 : Int) (b2 : Bool) (s3 : ByteArray) (h : Heap) (Q : Option Addr → Heap → Prop) : Prop :=
 ∀ k5 : Nat, h k5 = none → B k5 = none → ∀ h6 : Heap, h6 = Heap.set h k5 (.vec 41 (plains [(.bool b2), (.string s3)]) 2) →
 ∀ k7 : Nat, h6 k7 = none → B k7 = none → ∀ h8 : Heap, h8 = Heap.set h6 k7 (.vec 168 (plains [(.slice none 0 0)]) 1) →
 ∃ (J14 : Int → Nat → Heap → Prop) (m12 : Nat), Fin B h8 (J14 (0) m12) ∧
 ∀ (i9 : Int) (m11 : Nat) (h10 : Heap), J14 i9 m11 h10 →
 ((i9 : Int) < (i1) →
 ∃ a19 : Option Addr, ∃ n20 : Nat, ∃ c21 : Nat, cellH B h10 ⟨k7, 0, none⟩ = some (.slice a19 n20 c21) ∧
 ∃ b23 : Bool, ∃ s24 : ByteArray, CellsAt B h10 ⟨k5, 0, none⟩ 0 [(.bool b23), (.string s24)] ∧
 ∀ k27 : Nat, h10 k27 = none → B k27 = none → ∀ h28 : Heap, h28 = Heap.set h10 k27 (.vec 170 (plains [(.bool b23), (.string s24), (.int .i64 (0))]) 3) →
 cellH B h28 ⟨k7, 0, none⟩ = some (.slice a19 n20 c21) ∧ CellsAt B h28 ⟨k5, 0, none⟩ 0 [(.bool b23), (.string s24)] ∧
 semH PG B (Builtin.append_ #[166, 166] 166 #[(.slice a19 n20 c21), (.slice (some ⟨k27, 0, none⟩) 1 1)]) h28 (fun v h31 => ∃ a32 : Option Addr, ∃ n33 : Nat, ∃ c34 : Nat, v = (.slice a32 n33 c34) ∧
 cellH B h31 ⟨k7, 0, none⟩ = some (.slice a19 n20 c21) ∧ CellsAt B h31 ⟨k5, 0, none⟩ 0 [(.bool b23), (.string s24)] ∧
 ∃ h37 : Heap, storeH h31 ⟨k7, 0, none⟩ (.slice a32 n33 c34) = some h37 ∧
 Fin B h37 (fun h' => ∃ m', m' < m11 ∧ J14 (IntKind.wrap .i64 ((i9) + (1))) m' h'))) ∧ (¬ ((i9 : Int) < (i1)) →
 Fin B h10 (Q (some ⟨k7, 0, none⟩)))
def S_sheet_New (B : RO) (h : Heap) (Q : Option Addr → Heap → Prop) : Prop :=
 ∀ k2 : Nat, h k2 = none → B k2 = none → ∀ h3 : Heap, h3 = Heap.set h k2 (.vec 160 (plains [(.slice none 0 0)]) 1) →
 ∀ k4 : Nat, h3 k4 = none → B k4 = none → ∀ h5 : Heap, h5 = Heap.set h3 k4 (.vec 128 (plains [(.pointer (some ⟨k2, 0, none⟩))]) 1) →
 Fin B h5 (Q (some ⟨k4, 0, none⟩))
def S_sheet_Sheet_put_J1 (B : RO) (p1 : Option Addr) (p2 : Option Addr) (i3 : Int) (k7 : Nat) (h10 : Heap) (Q : Bool → Heap → Prop) : Prop :=
 C_sheet_Sheet_Get B p1 p2 (i3) h10 (fun b12 s13 b14 h11 =>
 ∀ k15 : Nat, h11 k15 = none → B k15 = none → ∀ h16 : Heap, h16 = Heap.set h11 k15 (.vec 41 (plains [(.bool false), (.string ByteArray.empty)]) 2) →
 ∃ h17 : Heap, StoresAt ⟨k15, 0, none⟩ h16 0 [(.bool b12), (.string s13)] h17 ∧
 ∃ b18 : Bool, ∃ s19 : ByteArray, CellsAt B h17 ⟨k15, 0, none⟩ 0 [(.bool b18), (.string s19)] ∧
 ∃ b20 : Bool, ∃ s21 : ByteArray, CellsAt B h17 ⟨k7, 0, none⟩ 0 [(.bool b20), (.string s21)] ∧
 (eqL [(.bool b18), (.string s19)] [(.bool b20), (.string s21)] = true →
 Fin B h17 (Q (true))) ∧ (¬ (eqL [(.bool b18), (.string s19)] [(.bool b20), (.string s21)] = true) →
 ∃ A24 : Addr, p1 = some A24 ∧
 ∃ p28 : Option Addr, cellH B h17 A24 = some (.pointer p28) ∧
 ∃ b31 : Bool, ∃ s32 : ByteArray, CellsAt B h17 ⟨k7, 0, none⟩ 0 [(.bool b31), (.string s32)] ∧
 C_draft_Draft_file_File_Put B p28 (i3) (b31) s32 h17 (fun b35 h34 =>
 cellH B h34 A24 = some (.pointer p28) ∧ CellsAt B h34 ⟨k7, 0, none⟩ 0 [(.bool b31), (.string s32)] ∧
 Fin B h34 (Q (b35)))))
def S_sheet_Sheet_put (B : RO) (p1 : Option Addr) (p2 : Option Addr) (i3 : Int) (b4 : Bool) (s5 : ByteArray) (h : Heap) (Q : Bool → Heap → Prop) : Prop :=
 ∀ k7 : Nat, h k7 = none → B k7 = none → ∀ h8 : Heap, h8 = Heap.set h k7 (.vec 41 (plains [(.bool b4), (.string s5)]) 2) →
 (p1 = none →
 Fin B h8 (Q (false))) ∧ (¬ (p1 = none) →
 ((i3 : Int) < (0) →
 Fin B h8 (Q (false))) ∧ (¬ ((i3 : Int) < (0)) →
 ((i3 : Int) ≥ (6) →
 Fin B h8 (Q (false))) ∧ (¬ ((i3 : Int) ≥ (6)) →
 Fin B h8 (fun h' => S_sheet_Sheet_put_J1 B p1 p2 i3 k7 h' Q))))
def S_file_Make (B : RO) (b1 : Bool) (s2 : ByteArray) (h : Heap) (Q : Bool → ByteArray → Heap → Prop) : Prop :=
 ∀ k5 : Nat, h k5 = none → B k5 = none → ∀ h6 : Heap, h6 = Heap.set h k5 (.vec 41 (plains [(.bool b1), (.string s2)]) 2) →
 ∀ k7 : Nat, h6 k7 = none → B k7 = none → ∀ h8 : Heap, h8 = Heap.set h6 k7 (.vec 41 (plains [(.bool false), (.string ByteArray.empty)]) 2) →
 ∃ s9 : ByteArray, cellH B h8 ⟨k5, 1, none⟩ = some (.string s9) ∧
 ∃ h10 : Heap, StoresAt ⟨k7, 0, none⟩ h8 0 [(.bool true), (.string s9)] h10 ∧
 ∃ b11 : Bool, ∃ s12 : ByteArray, CellsAt B h10 ⟨k7, 0, none⟩ 0 [(.bool b11), (.string s12)] ∧ Fin B h10 (Q (b11) s12)
def S_draft_Draft_file_File_Get (B : RO) (p1 : Option Addr) (i2 : Int) (h : Heap) (Q : Bool → ByteArray → Bool → Heap → Prop) : Prop :=
 ∀ k6 : Nat, h k6 = none → B k6 = none → ∀ h7 : Heap, h7 = Heap.set h k6 (.vec 41 (plains [(.bool false), (.string ByteArray.empty)]) 2) →
 ∀ k8 : Nat, h7 k8 = none → B k8 = none → ∀ h9 : Heap, h9 = Heap.set h7 k8 (.vec 41 (plains [(.bool false), (.string ByteArray.empty)]) 2) →
 (p1 = none →
 ∃ b11 : Bool, ∃ s12 : ByteArray, CellsAt B h9 ⟨k8, 0, none⟩ 0 [(.bool b11), (.string s12)] ∧
 ∃ h13 : Heap, StoresAt ⟨k6, 0, none⟩ h9 0 [(.bool b11), (.string s12)] h13 ∧
 ∃ b14 : Bool, ∃ s15 : ByteArray, CellsAt B h13 ⟨k6, 0, none⟩ 0 [(.bool b14), (.string s15)] ∧ Fin B h13 (Q (b14) s15 (false))) ∧ (¬ (p1 = none) →
 C_draft_Draft_file_File_find B p1 (i2) h9 (fun i17 b18 h16 =>
 (b18 = true →
 ∃ A24 : Addr, p1 = some A24 ∧
 LdSl B h16 A24 fun a26 n27 c28 h29 =>
 ∃ A30 : Addr, a26 = some A30 ∧ 0 ≤ (i17 : Int) ∧ (i17 : Int) < (n27 : Nat) ∧
 ∃ b32 : Bool, ∃ s33 : ByteArray, CellsAt B h29 (Addr.add (Addr.add A30 (Int.toNat (i17) * 3)) 1) 0 [(.bool b32), (.string s33)] ∧
 ∃ h34 : Heap, StoresAt ⟨k6, 0, none⟩ h29 0 [(.bool b32), (.string s33)] h34 ∧
 ∃ b35 : Bool, ∃ s36 : ByteArray, CellsAt B h34 ⟨k6, 0, none⟩ 0 [(.bool b35), (.string s36)] ∧ Fin B h34 (Q (b35) s36 (true))) ∧ (b18 = false →
 ∃ b19 : Bool, ∃ s20 : ByteArray, CellsAt B h16 ⟨k8, 0, none⟩ 0 [(.bool b19), (.string s20)] ∧
 ∃ h21 : Heap, StoresAt ⟨k6, 0, none⟩ h16 0 [(.bool b19), (.string s20)] h21 ∧
 ∃ b22 : Bool, ∃ s23 : ByteArray, CellsAt B h21 ⟨k6, 0, none⟩ 0 [(.bool b22), (.string s23)] ∧ Fin B h21 (Q (b22) s23 (false)))))
def S_stylus_Stylus_Nat_J1 (B : RO) (p1 : Option Addr) (a2 : Option Addr) (n3 : Nat) (c4 : Nat) (i5 : Int) (m7 : Nat) (J10 : Int → Nat → Heap → Prop) (i15 : Int) (h16 : Heap) (Q : Heap → Prop) : Prop :=
 ∃ A17 : Addr, p1 = some A17 ∧
 LdSl B h16 A17 fun a19 n20 c21 h22 =>
 ∀ k23 : Nat, h22 k23 = none → B k23 = none → ∀ h24 : Heap, h24 = Heap.set h22 k23 (.vec 5 (plains [(.int .u8 (IntKind.wrap .u8 (i15)))]) 1) →
 semH PG B (Builtin.append_ #[144, 144] 144 #[(.slice a19 n20 c21), (.slice (some ⟨k23, 0, none⟩) 1 1)]) h24 (fun v h25 => ∃ a26 : Option Addr, ∃ n27 : Nat, ∃ c28 : Nat, v = (.slice a26 n27 c28) ∧
 ∃ A29 : Addr, p1 = some A29 ∧
 ∃ h31 : Heap, storeH h25 A29 (.slice a26 n27 c28) = some h31 ∧
 Fin B h31 (fun h' => ∃ m', m' < m7 ∧ J10 (IntKind.wrap .i64 ((i5) + (1))) m' h'))
def S_stylus_Stylus_Nat (B : RO) (p1 : Option Addr) (a2 : Option Addr) (n3 : Nat) (c4 : Nat) (h : Heap) (Q : Heap → Prop) : Prop :=
 ∃ (J10 : Int → Nat → Heap → Prop) (m8 : Nat), Fin B h (J10 (0) m8) ∧
 ∀ (i5 : Int) (m7 : Nat) (h6 : Heap), J10 i5 m7 h6 →
 ((i5 : Int) < ((n3 : Nat)) →
 ∃ A11 : Addr, a2 = some A11 ∧ 0 ≤ (i5 : Int) ∧ (i5 : Int) < (n3 : Nat) ∧
 ∃ i13 : Int, cellH B h6 (Addr.add A11 (Int.toNat (i5) * 1)) = some (.int .i64 (i13)) ∧
 ((i13 : Int) < (0) →
 Fin B h6 (fun h' => ∃ m', m' < m7 ∧ J10 (IntKind.wrap .i64 ((i5) + (1))) m' h')) ∧ (¬ ((i13 : Int) < (0)) →
 ∃ (J37 : Int → Nat → Heap → Prop) (m35 : Nat), Fin B h6 (J37 (i13) m35) ∧
 ∀ (i32 : Int) (m34 : Nat) (h33 : Heap), J37 i32 m34 h33 →
 ((i32 : Int) ≥ (128) →
 ∃ A38 : Addr, p1 = some A38 ∧
 LdSl B h33 A38 fun a40 n41 c42 h43 =>
 ∀ k44 : Nat, h43 k44 = none → B k44 = none → ∀ h45 : Heap, h45 = Heap.set h43 k44 (.vec 5 (plains [(.int .u8 (IntKind.wrap .u8 ((BitVec.ofInt (IntKind.bits .u8) (IntKind.wrap .u8 (i32)) ||| BitVec.ofInt (IntKind.bits .u8) (128)).toNat : Int)))]) 1) →
 semH PG B (Builtin.append_ #[144, 144] 144 #[(.slice a40 n41 c42), (.slice (some ⟨k44, 0, none⟩) 1 1)]) h45 (fun v h46 => ∃ a47 : Option Addr, ∃ n48 : Nat, ∃ c49 : Nat, v = (.slice a47 n48 c49) ∧
 ∃ A50 : Addr, p1 = some A50 ∧
 ∃ h52 : Heap, storeH h46 A50 (.slice a47 n48 c49) = some h52 ∧
 ¬ ((7 : Int) < 0) ∧
 Fin B h52 (fun h' => ∃ m', m' < m34 ∧ J37 (Int.fdiv (i32) (2 ^ (min (Int.toNat (7)) (IntKind.bits .i64)))) m' h'))) ∧ (¬ ((i32 : Int) ≥ (128)) →
 Fin B h33 (fun h' => S_stylus_Stylus_Nat_J1 B p1 a2 n3 c4 i5 m7 J10 (i32) h' Q)))) ∧ (¬ ((i5 : Int) < ((n3 : Nat))) →
 Fin B h6 (Q))
def S_stylus_Stylus_Raw (B : RO) (p1 : Option Addr) (s2 : ByteArray) (h : Heap) (Q : Heap → Prop) : Prop :=
 ∃ A3 : Addr, p1 = some A3 ∧
 LdSl B h A3 fun a5 n6 c7 h8 =>
 semH PG B (Builtin.append_ #[144, 9] 144 #[(.slice a5 n6 c7), (.string s2)]) h8 (fun v h9 => ∃ a10 : Option Addr, ∃ n11 : Nat, ∃ c12 : Nat, v = (.slice a10 n11 c12) ∧
 ∃ A13 : Addr, p1 = some A13 ∧
 ∃ h15 : Heap, storeH h9 A13 (.slice a10 n11 c12) = some h15 ∧
 Fin B h15 (Q))
def S_stylus_Stylus_Bytes (B : RO) (p1 : Option Addr) (h : Heap) (Q : ByteArray → Heap → Prop) : Prop :=
 ∃ A3 : Addr, p1 = some A3 ∧
 LdSl B h A3 fun a5 n6 c7 h8 =>
 semH PG B (convert 144 9 (.slice a5 n6 c7)) h8 (fun v h10 => ∃ s9 : ByteArray, v = (.string s9) ∧
 Fin B h10 (Q s9))
def S_tome_Tome_Set_J1 (B : RO) (h14 : Heap) (Q : Bool → Heap → Prop) : Prop :=
 Fin B h14 (Q (false))
def S_tome_Tome_Set_J2 (B : RO) (k7 : Nat) (b17 : Bool) (s18 : ByteArray) (h24 : Heap) (Q : Bool → Heap → Prop) : Prop :=
 Fin B h24 (Q (false))
def S_tome_Tome_Set_J3 (B : RO) (i2 : Int) (i5 : Int) (k7 : Nat) (b17 : Bool) (s18 : ByteArray) (p36 : Option Addr) (b37 : Bool) (s38 : ByteArray) (h39 : Heap) (Q : Bool → Heap → Prop) : Prop :=
 C_cell_Row_file_File_Set B p36 (i2) (b37) s38 (i5) h39 (fun b42 h41 =>
 CellsAt B h41 ⟨k7, 0, none⟩ 0 [(.bool b17), (.string s18)] ∧
 Fin B h41 (Q (b42)))
def S_tome_Tome_Set (B : RO) (p1 : Option Addr) (i2 : Int) (b3 : Bool) (s4 : ByteArray) (i5 : Int) (h : Heap) (Q : Bool → Heap → Prop) : Prop :=
 ∀ k7 : Nat, h k7 = none → B k7 = none → ∀ h8 : Heap, h8 = Heap.set h k7 (.vec 41 (plains [(.bool b3), (.string s4)]) 2) →
 (p1 = none →
 (S_tome_Tome_Set_J1 B h8 Q) ∧
 (S_tome_Tome_Set_J1 B h8 Q)) ∧ (¬ (p1 = none) →
 ∃ b17 : Bool, ∃ s18 : ByteArray, CellsAt B h8 ⟨k7, 0, none⟩ 0 [(.bool b17), (.string s18)] ∧
 C_file_Good B (b17) s18 h8 (fun b21 h20 =>
 (b21 = true →
 CellsAt B h20 ⟨k7, 0, none⟩ 0 [(.bool b17), (.string s18)] ∧
 ∃ A27 : Addr, p1 = some A27 ∧
 (∃ p44 : Option Addr, cellH B h20 A27 = some (.pointer p44) ∧
 ∃ b45 : Bool, ∃ s46 : ByteArray, CellsAt B h20 ⟨k7, 0, none⟩ 0 [(.bool b45), (.string s46)] ∧
 S_tome_Tome_Set_J3 B i2 i5 k7 b17 s18 p44 (b45) s46 h20 Q) ∧
 (∃ b47 : Bool, ∃ s48 : ByteArray, CellsAt B h20 ⟨k7, 0, none⟩ 0 [(.bool b47), (.string s48)] ∧
 ∃ p49 : Option Addr, cellH B h20 A27 = some (.pointer p49) ∧
 S_tome_Tome_Set_J3 B i2 i5 k7 b17 s18 p49 (b47) s48 h20 Q)) ∧ (b21 = false →
 CellsAt B h20 ⟨k7, 0, none⟩ 0 [(.bool b17), (.string s18)] ∧
 (S_tome_Tome_Set_J2 B k7 b17 s18 h20 Q) ∧
 (S_tome_Tome_Set_J2 B k7 b17 s18 h20 Q))))
def S_countermandref14_Sheet_Write (B : RO) (p1 : Option Addr) (i2 : Int) (i3 : Int) (i4 : Int) (h : Heap) (Q : Bool → Heap → Prop) : Prop :=
 C_countermandref14_Is B (i2) h (fun b7 h6 =>
 (b7 = true →
 ∃ A10 : Addr, p1 = some A10 ∧
 0 ≤ (i2 : Int) ∧ (i2 : Int) < (6 : Nat) ∧
 ∃ b12 : Bool, ∃ s13 : ByteArray, CellsAt B h6 (Addr.add (Addr.add A10 12) (Int.toNat (i2) * 2)) 0 [(.bool b12), (.string s13)] ∧
 C_countermandref09_Put B (b12) s13 (i3) (i4) h6 (fun b15 s16 h14 =>
 C_countermandref14_Sheet_put B p1 (i2) (b15) s16 h14 (fun h17 =>
 C_countermandref14_Is B (i2) h17 (fun b19 h18 =>
 Fin B h18 (Q (b19)))))) ∧ (b7 = false →
 C_countermandref14_Is B (i2) h6 (fun b9 h8 =>
 Fin B h8 (Q (b9)))))
def S_countermandref14_Sheet_Cut (B : RO) (p1 : Option Addr) (i2 : Int) (i3 : Int) (h : Heap) (Q : Bool → Heap → Prop) : Prop :=
 C_countermandref14_Is B (i2) h (fun b6 h5 =>
 (b6 = true →
 ∃ A9 : Addr, p1 = some A9 ∧
 0 ≤ (i2 : Int) ∧ (i2 : Int) < (6 : Nat) ∧
 ∃ b11 : Bool, ∃ s12 : ByteArray, CellsAt B h5 (Addr.add (Addr.add A9 12) (Int.toNat (i2) * 2)) 0 [(.bool b11), (.string s12)] ∧
 C_countermandref09_Cut B (b11) s12 (i3) h5 (fun b14 s15 h13 =>
 C_countermandref14_Sheet_put B p1 (i2) (b14) s15 h13 (fun h16 =>
 C_countermandref14_Is B (i2) h16 (fun b18 h17 =>
 Fin B h17 (Q (b18)))))) ∧ (b6 = false →
 C_countermandref14_Is B (i2) h5 (fun b8 h7 =>
 Fin B h7 (Q (b8)))))
def S_countermandref14_Sheet_Create (B : RO) (p1 : Option Addr) (i2 : Int) (h : Heap) (Q : Bool → Heap → Prop) : Prop :=
 C_countermandref14_Is B (i2) h (fun b5 h4 =>
 (b5 = true →
 ∃ A8 : Addr, p1 = some A8 ∧
 0 ≤ (i2 : Int) ∧ (i2 : Int) < (6 : Nat) ∧
 ∃ s10 : ByteArray, cellH B h4 (Addr.add (Addr.add (Addr.add A8 12) (Int.toNat (i2) * 2)) 1) = some (.string s10) ∧
 C_countermandref14_Sheet_put B p1 (i2) (true) s10 h4 (fun h11 =>
 C_countermandref14_Is B (i2) h11 (fun b13 h12 =>
 Fin B h12 (Q (b13))))) ∧ (b5 = false →
 C_countermandref14_Is B (i2) h4 (fun b7 h6 =>
 Fin B h6 (Q (b7)))))
def S_countermandref14_Sheet_Remove (B : RO) (p1 : Option Addr) (i2 : Int) (h : Heap) (Q : Bool → Heap → Prop) : Prop :=
 C_countermandref14_Is B (i2) h (fun b5 h4 =>
 (b5 = true →
 C_countermandref14_Sheet_put B p1 (i2) (false) ByteArray.empty h4 (fun h8 =>
 C_countermandref14_Is B (i2) h8 (fun b10 h9 =>
 Fin B h9 (Q (b10))))) ∧ (b5 = false →
 C_countermandref14_Is B (i2) h4 (fun b7 h6 =>
 Fin B h6 (Q (b7)))))
def S_countermandref14_Sheet_Rename_J2 (B : RO) (p1 : Option Addr) (i2 : Int) (i3 : Int) (b8 : Bool) (h9 : Heap) (Q : Bool → Heap → Prop) : Prop :=
 (b8 = true →
 ∃ A10 : Addr, p1 = some A10 ∧
 0 ≤ (i2 : Int) ∧ (i2 : Int) < (6 : Nat) ∧
 ∃ b12 : Bool, ∃ s13 : ByteArray, CellsAt B h9 (Addr.add (Addr.add A10 12) (Int.toNat (i2) * 2)) 0 [(.bool b12), (.string s13)] ∧
 C_countermandref14_Sheet_put B p1 (i3) (b12) s13 h9 (fun h14 =>
 C_countermandref14_Sheet_put B p1 (i2) (false) ByteArray.empty h14 (fun h15 =>
 Fin B h15 (Q (true))))) ∧ (b8 = false →
 Fin B h9 (Q (true)))
def S_countermandref14_Sheet_Rename_J1 (B : RO) (p1 : Option Addr) (i2 : Int) (i3 : Int) (h6 : Heap) (Q : Bool → Heap → Prop) : Prop :=
 ∃ A16 : Addr, p1 = some A16 ∧
 0 ≤ (i2 : Int) ∧ (i2 : Int) < (6 : Nat) ∧
 ∃ b18 : Bool, cellH B h6 (Addr.add (Addr.add A16 12) (Int.toNat (i2) * 2)) = some (.bool b18) ∧ (b18 = true →
 ((i2 : Int) = i3 →
 Fin B h6 (fun h' => S_countermandref14_Sheet_Rename_J2 B p1 i2 i3 (false) h' Q)) ∧ (¬ ((i2 : Int) = i3) →
 Fin B h6 (fun h' => S_countermandref14_Sheet_Rename_J2 B p1 i2 i3 (true) h' Q))) ∧ (b18 = false →
 Fin B h6 (fun h' => S_countermandref14_Sheet_Rename_J2 B p1 i2 i3 (false) h' Q))
def S_countermandref14_Sheet_Rename (B : RO) (p1 : Option Addr) (i2 : Int) (i3 : Int) (h : Heap) (Q : Bool → Heap → Prop) : Prop :=
 C_countermandref14_Is B (i2) h (fun b20 h19 =>
 (b20 = true →
 C_countermandref14_Is B (i3) h19 (fun b22 h21 =>
 (b22 = true →
 Fin B h21 (fun h' => S_countermandref14_Sheet_Rename_J1 B p1 i2 i3 h' Q)) ∧ (b22 = false →
 Fin B h21 (Q (false))))) ∧ (b20 = false →
 Fin B h19 (Q (false))))
def S_cell_Row_file_File_Get (B : RO) (p1 : Option Addr) (i2 : Int) (h : Heap) (Q : Bool → ByteArray → Int → Heap → Prop) : Prop :=
 ∀ k6 : Nat, h k6 = none → B k6 = none → ∀ h7 : Heap, h7 = Heap.set h k6 (.vec 41 (plains [(.bool false), (.string ByteArray.empty)]) 2) →
 C_cell_Row_file_File_is B p1 (i2) h7 (fun b9 h8 =>
 (b9 = true →
 ∃ A18 : Addr, p1 = some A18 ∧
 ∃ a22 : Option Addr, ∃ n23 : Nat, ∃ c24 : Nat, cellH B h8 A18 = some (.slice a22 n23 c24) ∧
 ∃ A27 : Addr, a22 = some A27 ∧ 0 ≤ (i2 : Int) ∧ (i2 : Int) < (n23 : Nat) ∧
 ∃ b33 : Bool, ∃ s34 : ByteArray, CellsAt B h8 (Addr.add A27 (Int.toNat (i2) * 3)) 0 [(.bool b33), (.string s34)] ∧
 ∃ A37 : Addr, p1 = some A37 ∧
 ∃ a41 : Option Addr, ∃ n42 : Nat, ∃ c43 : Nat, cellH B h8 A37 = some (.slice a41 n42 c43) ∧
 ∃ A46 : Addr, a41 = some A46 ∧ 0 ≤ (i2 : Int) ∧ (i2 : Int) < (n42 : Nat) ∧
 ∃ i52 : Int, cellH B h8 (Addr.add (Addr.add A46 (Int.toNat (i2) * 3)) 2) = some (.int .i64 (i52)) ∧
 ∃ h54 : Heap, StoresAt ⟨k6, 0, none⟩ h8 0 [(.bool b33), (.string s34)] h54 ∧
 cellH B h54 A18 = some (.slice a22 n23 c24) ∧ CellsAt B h54 (Addr.add A27 (Int.toNat (i2) * 3)) 0 [(.bool b33), (.string s34)] ∧ cellH B h54 A37 = some (.slice a41 n42 c43) ∧ cellH B h54 (Addr.add (Addr.add A46 (Int.toNat (i2) * 3)) 2) = some (.int .i64 (i52)) ∧
 ∃ b59 : Bool, ∃ s60 : ByteArray, CellsAt B h54 ⟨k6, 0, none⟩ 0 [(.bool b59), (.string s60)] ∧ Fin B h54 (Q (b59) s60 (i52))) ∧ (b9 = false →
 ∀ k10 : Nat, h8 k10 = none → B k10 = none → ∀ h11 : Heap, h11 = Heap.set h8 k10 (.vec 41 (plains [(.bool false), (.string ByteArray.empty)]) 2) →
 ∃ b12 : Bool, ∃ s13 : ByteArray, CellsAt B h11 ⟨k10, 0, none⟩ 0 [(.bool b12), (.string s13)] ∧
 ∃ h14 : Heap, StoresAt ⟨k6, 0, none⟩ h11 0 [(.bool b12), (.string s13)] h14 ∧
 ∃ b15 : Bool, ∃ s16 : ByteArray, CellsAt B h14 ⟨k6, 0, none⟩ 0 [(.bool b15), (.string s16)] ∧ Fin B h14 (Q (b15) s16 (0))))
def S_tome_Tome_All (B : RO) (p1 : Option Addr) (h : Heap) (Q : Value → Heap → Prop) : Prop :=
 ∀ k3 : Nat, h k3 = none → B k3 = none → ∀ h4 : Heap, h4 = Heap.set h k3 (.vec 25 [.plain (.pointer p1)] 1) →
 Fin B h4 (Q (Value.func (.func 121) #[] #[(.pointer (some ⟨k3, 0, none⟩))]))
def S_stylus_Stylus_Text (B : RO) (p1 : Option Addr) (a2 : Option Addr) (n3 : Nat) (c4 : Nat) (h : Heap) (Q : Heap → Prop) : Prop :=
 ∃ (J10 : Int → Nat → Heap → Prop) (m8 : Nat), Fin B h (J10 (0) m8) ∧
 ∀ (i5 : Int) (m7 : Nat) (h6 : Heap), J10 i5 m7 h6 →
 ((i5 : Int) < ((n3 : Nat)) →
 ∃ A11 : Addr, a2 = some A11 ∧ 0 ≤ (i5 : Int) ∧ (i5 : Int) < (n3 : Nat) ∧
 ∃ s13 : ByteArray, cellH B h6 (Addr.add A11 (Int.toNat (i5) * 1)) = some (.string s13) ∧
 ∀ k14 : Nat, h6 k14 = none → B k14 = none → ∀ h15 : Heap, h15 = Heap.set h6 k14 (.vec 3 (plains [(.int .i64 ((ByteArray.size s13 : Nat)))]) 1) →
 C_stylus_Stylus_Nat B p1 (some ⟨k14, 0, none⟩) 1 1 h15 (fun h16 =>
 C_stylus_Stylus_Raw B p1 s13 h16 (fun h17 =>
 Fin B h17 (fun h' => ∃ m', m' < m7 ∧ J10 (IntKind.wrap .i64 ((i5) + (1))) m' h')))) ∧ (¬ ((i5 : Int) < ((n3 : Nat))) →
 Fin B h6 (Q))
def S_draft_Draft_file_File_All_1 (B : RO) (v1 : Value) (A2 : Addr) (h : Heap) (Q : Heap → Prop) : Prop :=
 ∃ p3 : Option Addr, cellH B h A2 = some (.pointer p3) ∧
 (p3 = none →
 Fin B h (Q)) ∧ (¬ (p3 = none) →
 ∃ p5 : Option Addr, cellH B h A2 = some (.pointer p5) ∧
 ∃ A6 : Addr, p5 = some A6 ∧
 LdSl B h A6 fun a8 n9 c10 h11 =>
 ∃ (J17 : Int → Nat → Heap → Prop) (m15 : Nat), Fin B h11 (J17 (0) m15) ∧
 ∀ (i12 : Int) (m14 : Nat) (h13 : Heap), J17 i12 m14 h13 →
 ((i12 : Int) < ((n9 : Nat)) →
 ∃ A18 : Addr, a8 = some A18 ∧ 0 ≤ (i12 : Int) ∧ (i12 : Int) < (n9 : Nat) ∧
 ∃ i20 : Int, ∃ b21 : Bool, ∃ s22 : ByteArray, CellsAt B h13 (Addr.add A18 (Int.toNat (i12) * 3)) 0 [(.int .i64 (i20)), (.bool b21), (.string s22)] ∧
 ∀ k23 : Nat, h13 k23 = none → B k23 = none → ∀ h24 : Heap, h24 = Heap.set h13 k23 (.vec 162 (plains [(.int .i64 (0)), (.bool false), (.string ByteArray.empty)]) 3) →
 ∃ h25 : Heap, StoresAt ⟨k23, 0, none⟩ h24 0 [(.int .i64 (i20)), (.bool b21), (.string s22)] h25 ∧
 ∃ i26 : Int, cellH B h25 ⟨k23, 0, none⟩ = some (.int .i64 (i26)) ∧
 ∃ b27 : Bool, ∃ s28 : ByteArray, CellsAt B h25 ⟨k23, 1, none⟩ 0 [(.bool b27), (.string s28)] ∧
 CallV PG B v1 [(.int .i64 (i26)), (.agg #[(.bool b27), (.string s28)])] h25 (fun v h29 => ∃ b30 : Bool, v = (.bool b30) ∧
 (b30 = true →
 Fin B h29 (fun h' => ∃ m', m' < m14 ∧ J17 (IntKind.wrap .i64 ((i12) + (1))) m' h')) ∧ (b30 = false →
 Fin B h29 (Q)))) ∧ (¬ ((i12 : Int) < ((n9 : Nat))) →
 Fin B h13 (Q)))
def S_file_Put_J2 (B : RO) (i3 : Int) (i4 : Int) (k9 : Nat) (a19 : Option Addr) (n20 : Nat) (c21 : Nat) (h22 : Heap) (Q : Bool → ByteArray → Heap → Prop) : Prop :=
 ∃ A23 : Addr, a19 = some A23 ∧ 0 ≤ (i3 : Int) ∧ (i3 : Int) < (n20 : Nat) ∧
 ∃ h25 : Heap, storeH h22 (Addr.add A23 (Int.toNat (i3) * 1)) (.int .u8 (i4)) = some h25 ∧
 semH PG B (convert 144 9 (.slice a19 n20 c21)) h25 (fun v h27 => ∃ s26 : ByteArray, v = (.string s26) ∧
 ∃ h28 : Heap, StoresAt ⟨k9, 0, none⟩ h27 0 [(.bool true), (.string s26)] h28 ∧
 ∃ b29 : Bool, ∃ s30 : ByteArray, CellsAt B h28 ⟨k9, 0, none⟩ 0 [(.bool b29), (.string s30)] ∧ Fin B h28 (Q (b29) s30))
def S_file_Put_J1 (B : RO) (i3 : Int) (i4 : Int) (k7 : Nat) (k9 : Nat) (h12 : Heap) (Q : Bool → ByteArray → Heap → Prop) : Prop :=
 ∃ s13 : ByteArray, cellH B h12 ⟨k7, 1, none⟩ = some (.string s13) ∧
 semH PG B (convert 9 144 (.string s13)) h12 (fun v h17 => ∃ a14 : Option Addr, ∃ n15 : Nat, ∃ c16 : Nat, v = (.slice a14 n15 c16) ∧
 ∃ (J38 : Option Addr → Nat → Nat → Nat → Heap → Prop) (m36 : Nat), Fin B h17 (J38 a14 n15 c16 m36) ∧
 ∀ (a31 : Option Addr) (n32 : Nat) (c33 : Nat) (m35 : Nat) (h34 : Heap), J38 a31 n32 c33 m35 h34 →
 (((n32 : Nat) : Int) ≤ (i3) →
 ∀ k39 : Nat, h34 k39 = none → B k39 = none → ∀ h40 : Heap, h40 = Heap.set h34 k39 (.vec 5 (plains [(.int .u8 (0))]) 1) →
 semH PG B (Builtin.append_ #[144, 144] 144 #[(.slice a31 n32 c33), (.slice (some ⟨k39, 0, none⟩) 1 1)]) h40 (fun v h41 => ∃ a42 : Option Addr, ∃ n43 : Nat, ∃ c44 : Nat, v = (.slice a42 n43 c44) ∧
 Fin B h41 (fun h' => ∃ m', m' < m35 ∧ J38 a42 n43 c44 m' h'))) ∧ (¬ (((n32 : Nat) : Int) ≤ (i3)) →
 Fin B h34 (fun h' => S_file_Put_J2 B i3 i4 k9 a31 n32 c33 h' Q)))
def S_file_Put (B : RO) (b1 : Bool) (s2 : ByteArray) (i3 : Int) (i4 : Int) (h : Heap) (Q : Bool → ByteArray → Heap → Prop) : Prop :=
 ∀ k7 : Nat, h k7 = none → B k7 = none → ∀ h8 : Heap, h8 = Heap.set h k7 (.vec 41 (plains [(.bool b1), (.string s2)]) 2) →
 ∀ k9 : Nat, h8 k9 = none → B k9 = none → ∀ h10 : Heap, h10 = Heap.set h8 k9 (.vec 41 (plains [(.bool false), (.string ByteArray.empty)]) 2) →
 ((i3 : Int) < (0) →
 ∃ b45 : Bool, ∃ s46 : ByteArray, CellsAt B h10 ⟨k7, 0, none⟩ 0 [(.bool b45), (.string s46)] ∧
 ∃ h47 : Heap, StoresAt ⟨k9, 0, none⟩ h10 0 [(.bool b45), (.string s46)] h47 ∧
 ∃ b48 : Bool, ∃ s49 : ByteArray, CellsAt B h47 ⟨k9, 0, none⟩ 0 [(.bool b48), (.string s49)] ∧ Fin B h47 (Q (b48) s49)) ∧ (¬ ((i3 : Int) < (0)) →
 ((i3 : Int) ≥ (32) →
 ∃ b50 : Bool, ∃ s51 : ByteArray, CellsAt B h10 ⟨k7, 0, none⟩ 0 [(.bool b50), (.string s51)] ∧
 ∃ h52 : Heap, StoresAt ⟨k9, 0, none⟩ h10 0 [(.bool b50), (.string s51)] h52 ∧
 ∃ b53 : Bool, ∃ s54 : ByteArray, CellsAt B h52 ⟨k9, 0, none⟩ 0 [(.bool b53), (.string s54)] ∧ Fin B h52 (Q (b53) s54)) ∧ (¬ ((i3 : Int) ≥ (32)) →
 Fin B h10 (fun h' => S_file_Put_J1 B i3 i4 k7 k9 h' Q)))
def S_file_Cut_J1 (B : RO) (i3 : Int) (k6 : Nat) (k8 : Nat) (h11 : Heap) (Q : Bool → ByteArray → Heap → Prop) : Prop :=
 ∃ s12 : ByteArray, cellH B h11 ⟨k6, 1, none⟩ = some (.string s12) ∧
 ((i3 : Int) ≤ ((ByteArray.size s12 : Nat)) →
 ∃ s13 : ByteArray, cellH B h11 ⟨k6, 1, none⟩ = some (.string s13) ∧
 0 ≤ (0 : Int) ∧ (0 : Int) ≤ (i3 : Int) ∧ (i3 : Int) ≤ (ByteArray.size s13 : Nat) ∧
 ∃ h14 : Heap, StoresAt ⟨k8, 0, none⟩ h11 0 [(.bool true), (.string (ByteArray.extract s13 (Int.toNat (0)) (Int.toNat (i3))))] h14 ∧
 ∃ b15 : Bool, ∃ s16 : ByteArray, CellsAt B h14 ⟨k8, 0, none⟩ 0 [(.bool b15), (.string s16)] ∧ Fin B h14 (Q (b15) s16)) ∧ (¬ ((i3 : Int) ≤ ((ByteArray.size s12 : Nat))) →
 ∃ s18 : ByteArray, cellH B h11 ⟨k6, 1, none⟩ = some (.string s18) ∧
 ∃ s22 : ByteArray, cellH B h11 ⟨k6, 1, none⟩ = some (.string s22) ∧
 C_strings_Repeat B (ByteArray.mk #[0]) (IntKind.wrap .i64 ((i3) - ((ByteArray.size s22 : Nat)))) h11 (fun s27 h26 =>
 cellH B h26 ⟨k6, 1, none⟩ = some (.string s18) ∧ cellH B h26 ⟨k6, 1, none⟩ = some (.string s22) ∧
 ByteArray.size s18 + ByteArray.size s27 ≤ 4611686018427387904 ∧
 ∃ h30 : Heap, StoresAt ⟨k8, 0, none⟩ h26 0 [(.bool true), (.string (s18 ++ s27))] h30 ∧
 ∃ b31 : Bool, ∃ s32 : ByteArray, CellsAt B h30 ⟨k8, 0, none⟩ 0 [(.bool b31), (.string s32)] ∧ Fin B h30 (Q (b31) s32)))
def S_file_Cut (B : RO) (b1 : Bool) (s2 : ByteArray) (i3 : Int) (h : Heap) (Q : Bool → ByteArray → Heap → Prop) : Prop :=
 ∀ k6 : Nat, h k6 = none → B k6 = none → ∀ h7 : Heap, h7 = Heap.set h k6 (.vec 41 (plains [(.bool b1), (.string s2)]) 2) →
 ∀ k8 : Nat, h7 k8 = none → B k8 = none → ∀ h9 : Heap, h9 = Heap.set h7 k8 (.vec 41 (plains [(.bool false), (.string ByteArray.empty)]) 2) →
 ∃ b33 : Bool, cellH B h9 ⟨k6, 0, none⟩ = some (.bool b33) ∧ (b33 = true →
 ((i3 : Int) < (0) →
 ∃ b39 : Bool, ∃ s40 : ByteArray, CellsAt B h9 ⟨k6, 0, none⟩ 0 [(.bool b39), (.string s40)] ∧
 ∃ h41 : Heap, StoresAt ⟨k8, 0, none⟩ h9 0 [(.bool b39), (.string s40)] h41 ∧
 ∃ b42 : Bool, ∃ s43 : ByteArray, CellsAt B h41 ⟨k8, 0, none⟩ 0 [(.bool b42), (.string s43)] ∧ Fin B h41 (Q (b42) s43)) ∧ (¬ ((i3 : Int) < (0)) →
 ((i3 : Int) > (32) →
 ∃ b44 : Bool, ∃ s45 : ByteArray, CellsAt B h9 ⟨k6, 0, none⟩ 0 [(.bool b44), (.string s45)] ∧
 ∃ h46 : Heap, StoresAt ⟨k8, 0, none⟩ h9 0 [(.bool b44), (.string s45)] h46 ∧
 ∃ b47 : Bool, ∃ s48 : ByteArray, CellsAt B h46 ⟨k8, 0, none⟩ 0 [(.bool b47), (.string s48)] ∧ Fin B h46 (Q (b47) s48)) ∧ (¬ ((i3 : Int) > (32)) →
 Fin B h9 (fun h' => S_file_Cut_J1 B i3 k6 k8 h' Q)))) ∧ (b33 = false →
 ∃ b34 : Bool, ∃ s35 : ByteArray, CellsAt B h9 ⟨k6, 0, none⟩ 0 [(.bool b34), (.string s35)] ∧
 ∃ h36 : Heap, StoresAt ⟨k8, 0, none⟩ h9 0 [(.bool b34), (.string s35)] h36 ∧
 ∃ b37 : Bool, ∃ s38 : ByteArray, CellsAt B h36 ⟨k8, 0, none⟩ 0 [(.bool b37), (.string s38)] ∧ Fin B h36 (Q (b37) s38))
def S_draft_Draft_file_File_Put (B : RO) (p1 : Option Addr) (i2 : Int) (b3 : Bool) (s4 : ByteArray) (h : Heap) (Q : Bool → Heap → Prop) : Prop :=
 ∀ k6 : Nat, h k6 = none → B k6 = none → ∀ h7 : Heap, h7 = Heap.set h k6 (.vec 41 (plains [(.bool b3), (.string s4)]) 2) →
 (p1 = none →
 Fin B h7 (Q (false))) ∧ (¬ (p1 = none) →
 C_draft_Draft_file_File_find B p1 (i2) h7 (fun i10 b11 h9 =>
 (b11 = true →
 ∃ A41 : Addr, p1 = some A41 ∧
 ∃ a43 : Option Addr, ∃ n44 : Nat, ∃ c45 : Nat, cellH B h9 A41 = some (.slice a43 n44 c45) ∧
 ∃ b46 : Bool, ∃ s47 : ByteArray, CellsAt B h9 ⟨k6, 0, none⟩ 0 [(.bool b46), (.string s47)] ∧
 ∃ A48 : Addr, a43 = some A48 ∧ 0 ≤ (i10 : Int) ∧ (i10 : Int) < (n44 : Nat) ∧
 ∃ h50 : Heap, StoresAt (Addr.add (Addr.add A48 (Int.toNat (i10) * 3)) 1) h9 0 [(.bool b46), (.string s47)] h50 ∧
 Fin B h50 (Q (true))) ∧ (b11 = false →
 ∃ A14 : Addr, p1 = some A14 ∧
 ∃ a18 : Option Addr, ∃ n19 : Nat, ∃ c20 : Nat, cellH B h9 A14 = some (.slice a18 n19 c20) ∧
 ∃ b24 : Bool, ∃ s25 : ByteArray, CellsAt B h9 ⟨k6, 0, none⟩ 0 [(.bool b24), (.string s25)] ∧
 ∀ k28 : Nat, h9 k28 = none → B k28 = none → ∀ h29 : Heap, h29 = Heap.set h9 k28 (.vec 162 (plains [(.int .i64 (i2)), (.bool b24), (.string s25)]) 3) →
 cellH B h29 A14 = some (.slice a18 n19 c20) ∧ CellsAt B h29 ⟨k6, 0, none⟩ 0 [(.bool b24), (.string s25)] ∧
 C_slices_Insert_s_draft_entry_file_File_draft_entry_file_File B a18 n19 c20 (i10) (some ⟨k28, 0, none⟩) 1 1 h29 (fun a33 n34 c35 h32 =>
 cellH B h32 A14 = some (.slice a18 n19 c20) ∧ CellsAt B h32 ⟨k6, 0, none⟩ 0 [(.bool b24), (.string s25)] ∧
 ∃ A38 : Addr, p1 = some A38 ∧
 ∃ h40 : Heap, storeH h32 A38 (.slice a33 n34 c35) = some h40 ∧
 Fin B h40 (Q (true))))))
def S_draft_Draft_file_File_find (B : RO) (p1 : Option Addr) (i2 : Int) (h : Heap) (Q : Int → Bool → Heap → Prop) : Prop :=
 ∃ A5 : Addr, p1 = some A5 ∧
 LdSl B h A5 fun a7 n8 c9 h10 =>
 C_slices_BinarySearchFunc_s_draft_entry_file_File_draft_entry_file_File_int B a7 n8 c9 (i2) (Value.func (.func 127) #[] #[]) h10 (fun i12 b13 h11 =>
 Fin B h11 (Q (i12) (b13)))
def S_file_Good (B : RO) (b1 : Bool) (s2 : ByteArray) (h : Heap) (Q : Bool → Heap → Prop) : Prop :=
 ∀ k4 : Nat, h k4 = none → B k4 = none → ∀ h5 : Heap, h5 = Heap.set h k4 (.vec 41 (plains [(.bool b1), (.string s2)]) 2) →
 ∃ s6 : ByteArray, cellH B h5 ⟨k4, 1, none⟩ = some (.string s6) ∧
 (((ByteArray.size s6 : Nat) : Int) ≤ (32) →
 ∃ b7 : Bool, cellH B h5 ⟨k4, 0, none⟩ = some (.bool b7) ∧ (b7 = true →
 Fin B h5 (Q (true))) ∧ (b7 = false →
 ∃ s8 : ByteArray, cellH B h5 ⟨k4, 1, none⟩ = some (.string s8) ∧
 Fin B h5 (Q ((decide (s8 = (ByteArray.mk #[]))))))) ∧ (¬ (((ByteArray.size s6 : Nat) : Int) ≤ (32)) →
 Fin B h5 (Q (false)))
def S_cell_Row_file_File_Set (B : RO) (p1 : Option Addr) (i2 : Int) (b3 : Bool) (s4 : ByteArray) (i5 : Int) (h : Heap) (Q : Bool → Heap → Prop) : Prop :=
 ∀ k7 : Nat, h k7 = none → B k7 = none → ∀ h8 : Heap, h8 = Heap.set h k7 (.vec 41 (plains [(.bool b3), (.string s4)]) 2) →
 C_cell_Row_file_File_is B p1 (i2) h8 (fun b10 h9 =>
 (b10 = true →
 ∃ A11 : Addr, p1 = some A11 ∧
 ∃ a13 : Option Addr, ∃ n14 : Nat, ∃ c15 : Nat, cellH B h9 A11 = some (.slice a13 n14 c15) ∧
 ∃ b16 : Bool, ∃ s17 : ByteArray, CellsAt B h9 ⟨k7, 0, none⟩ 0 [(.bool b16), (.string s17)] ∧
 ∃ A18 : Addr, a13 = some A18 ∧ 0 ≤ (i2 : Int) ∧ (i2 : Int) < (n14 : Nat) ∧
 ∃ h20 : Heap, StoresAt (Addr.add A18 (Int.toNat (i2) * 3)) h9 0 [(.bool b16), (.string s17), (.int .i64 (i5))] h20 ∧
 Fin B h20 (Q (true))) ∧ (b10 = false →
 Fin B h9 (Q (false))))
def S_countermandref14_Sheet_put (B : RO) (p1 : Option Addr) (i2 : Int) (b3 : Bool) (s4 : ByteArray) (h : Heap) (Q : Heap → Prop) : Prop :=
 ∀ k5 : Nat, h k5 = none → B k5 = none → ∀ h6 : Heap, h6 = Heap.set h k5 (.vec 76 (plains [(.bool b3), (.string s4)]) 2) →
 ∃ A7 : Addr, p1 = some A7 ∧
 0 ≤ (i2 : Int) ∧ (i2 : Int) < (6 : Nat) ∧
 ∃ b9 : Bool, ∃ s10 : ByteArray, CellsAt B h6 (Addr.add (Addr.add A7 12) (Int.toNat (i2) * 2)) 0 [(.bool b9), (.string s10)] ∧
 ∃ b11 : Bool, ∃ s12 : ByteArray, CellsAt B h6 ⟨k5, 0, none⟩ 0 [(.bool b11), (.string s12)] ∧
 (eqL [(.bool b9), (.string s10)] [(.bool b11), (.string s12)] = true →
 Fin B h6 (Q)) ∧ (¬ (eqL [(.bool b9), (.string s10)] [(.bool b11), (.string s12)] = true) →
 ∃ b14 : Bool, ∃ s15 : ByteArray, CellsAt B h6 ⟨k5, 0, none⟩ 0 [(.bool b14), (.string s15)] ∧
 ∃ A16 : Addr, p1 = some A16 ∧
 0 ≤ (i2 : Int) ∧ (i2 : Int) < (6 : Nat) ∧
 ∃ h18 : Heap, StoresAt (Addr.add (Addr.add A16 12) (Int.toNat (i2) * 2)) h6 0 [(.bool b14), (.string s15)] h18 ∧
 ∃ A19 : Addr, p1 = some A19 ∧
 0 ≤ (i2 : Int) ∧ (i2 : Int) < (6 : Nat) ∧
 ∃ h21 : Heap, storeH h18 (Addr.add (Addr.add A19 24) (Int.toNat (i2) * 1)) (.bool true) = some h21 ∧
 Fin B h21 (Q))
def S_countermandref09_Put_J3 (B : RO) (i3 : Int) (i4 : Int) (k7 : Nat) (k9 : Nat) (s13 : ByteArray) (i14 : Int) (m16 : Nat) (J19 : ByteArray → Int → Nat → Heap → Prop) (i27 : Int) (h28 : Heap) (Q : Bool → ByteArray → Heap → Prop) : Prop :=
 ∀ k29 : Nat, h28 k29 = none → B k29 = none → ∀ h30 : Heap, h30 = Heap.set h28 k29 (.vec 5 (plains [(.int .u8 (IntKind.wrap .u8 (i27)))]) 1) →
 semH PG B (convert 144 9 (.slice (some ⟨k29, 0, none⟩) 1 1)) h30 (fun v h32 => ∃ s31 : ByteArray, v = (.string s31) ∧
 ByteArray.size s13 + ByteArray.size s31 ≤ 4611686018427387904 ∧
 Fin B h32 (fun h' => ∃ m', m' < m16 ∧ J19 (s13 ++ s31) (IntKind.wrap .i64 ((i14) + (1))) m' h'))
def S_countermandref09_Put_J2 (B : RO) (i3 : Int) (i4 : Int) (k7 : Nat) (k9 : Nat) (s13 : ByteArray) (i14 : Int) (m16 : Nat) (J19 : ByteArray → Int → Nat → Heap → Prop) (h21 : Heap) (Q : Bool → ByteArray → Heap → Prop) : Prop :=
 ∃ b22 : Bool, ∃ s23 : ByteArray, CellsAt B h21 ⟨k7, 0, none⟩ 0 [(.bool b22), (.string s23)] ∧
 C_countermandref09_At B (b22) s23 (i14) h21 (fun i25 h24 =>
 ((i14 : Int) = i3 →
 Fin B h24 (fun h' => S_countermandref09_Put_J3 B i3 i4 k7 k9 s13 i14 m16 J19 (IntKind.wrap .i64 (i4)) h' Q)) ∧ (¬ ((i14 : Int) = i3) →
 Fin B h24 (fun h' => S_countermandref09_Put_J3 B i3 i4 k7 k9 s13 i14 m16 J19 (if (0 : Int) > (i25) then (0 : Int) else (i25)) h' Q)))
def S_countermandref09_Put_J1 (B : RO) (i3 : Int) (i4 : Int) (k7 : Nat) (k9 : Nat) (h12 : Heap) (Q : Bool → ByteArray → Heap → Prop) : Prop :=
 ∃ (J19 : ByteArray → Int → Nat → Heap → Prop) (m17 : Nat), Fin B h12 (J19 (ByteArray.mk #[]) (0) m17) ∧
 ∀ (s13 : ByteArray) (i14 : Int) (m16 : Nat) (h15 : Heap), J19 s13 i14 m16 h15 →
 ∃ s33 : ByteArray, cellH B h15 ⟨k7, 1, none⟩ = some (.string s33) ∧
 ((i14 : Int) < ((ByteArray.size s33 : Nat)) →
 Fin B h15 (fun h' => S_countermandref09_Put_J2 B i3 i4 k7 k9 s13 i14 m16 J19 h' Q)) ∧ (¬ ((i14 : Int) < ((ByteArray.size s33 : Nat))) →
 ((i14 : Int) ≤ (i3) →
 Fin B h15 (fun h' => S_countermandref09_Put_J2 B i3 i4 k7 k9 s13 i14 m16 J19 h' Q)) ∧ (¬ ((i14 : Int) ≤ (i3)) →
 ∃ h34 : Heap, StoresAt ⟨k9, 0, none⟩ h15 0 [(.bool true), (.string s13)] h34 ∧
 ∃ b35 : Bool, ∃ s36 : ByteArray, CellsAt B h34 ⟨k9, 0, none⟩ 0 [(.bool b35), (.string s36)] ∧ Fin B h34 (Q (b35) s36)))
def S_countermandref09_Put (B : RO) (b1 : Bool) (s2 : ByteArray) (i3 : Int) (i4 : Int) (h : Heap) (Q : Bool → ByteArray → Heap → Prop) : Prop :=
 ∀ k7 : Nat, h k7 = none → B k7 = none → ∀ h8 : Heap, h8 = Heap.set h k7 (.vec 76 (plains [(.bool b1), (.string s2)]) 2) →
 ∀ k9 : Nat, h8 k9 = none → B k9 = none → ∀ h10 : Heap, h10 = Heap.set h8 k9 (.vec 76 (plains [(.bool false), (.string ByteArray.empty)]) 2) →
 ((i3 : Int) < (0) →
 ∃ b37 : Bool, ∃ s38 : ByteArray, CellsAt B h10 ⟨k7, 0, none⟩ 0 [(.bool b37), (.string s38)] ∧
 ∃ h39 : Heap, StoresAt ⟨k9, 0, none⟩ h10 0 [(.bool b37), (.string s38)] h39 ∧
 ∃ b40 : Bool, ∃ s41 : ByteArray, CellsAt B h39 ⟨k9, 0, none⟩ 0 [(.bool b40), (.string s41)] ∧ Fin B h39 (Q (b40) s41)) ∧ (¬ ((i3 : Int) < (0)) →
 ((i3 : Int) > (31) →
 ∃ b42 : Bool, ∃ s43 : ByteArray, CellsAt B h10 ⟨k7, 0, none⟩ 0 [(.bool b42), (.string s43)] ∧
 ∃ h44 : Heap, StoresAt ⟨k9, 0, none⟩ h10 0 [(.bool b42), (.string s43)] h44 ∧
 ∃ b45 : Bool, ∃ s46 : ByteArray, CellsAt B h44 ⟨k9, 0, none⟩ 0 [(.bool b45), (.string s46)] ∧ Fin B h44 (Q (b45) s46)) ∧ (¬ ((i3 : Int) > (31)) →
 Fin B h10 (fun h' => S_countermandref09_Put_J1 B i3 i4 k7 k9 h' Q)))
def S_countermandref09_Cut_J1 (B : RO) (i3 : Int) (k6 : Nat) (k8 : Nat) (h11 : Heap) (Q : Bool → ByteArray → Heap → Prop) : Prop :=
 ∃ (J18 : ByteArray → Int → Nat → Heap → Prop) (m16 : Nat), Fin B h11 (J18 (ByteArray.mk #[]) (0) m16) ∧
 ∀ (s12 : ByteArray) (i13 : Int) (m15 : Nat) (h14 : Heap), J18 s12 i13 m15 h14 →
 ((i13 : Int) < (i3) →
 ∃ b19 : Bool, ∃ s20 : ByteArray, CellsAt B h14 ⟨k6, 0, none⟩ 0 [(.bool b19), (.string s20)] ∧
 C_countermandref09_At B (b19) s20 (i13) h14 (fun i22 h21 =>
 ∀ k23 : Nat, h21 k23 = none → B k23 = none → ∀ h24 : Heap, h24 = Heap.set h21 k23 (.vec 5 (plains [(.int .u8 (IntKind.wrap .u8 (if (0 : Int) > (i22) then (0 : Int) else (i22))))]) 1) →
 semH PG B (convert 144 9 (.slice (some ⟨k23, 0, none⟩) 1 1)) h24 (fun v h26 => ∃ s25 : ByteArray, v = (.string s25) ∧
 ByteArray.size s12 + ByteArray.size s25 ≤ 4611686018427387904 ∧
 Fin B h26 (fun h' => ∃ m', m' < m15 ∧ J18 (s12 ++ s25) (IntKind.wrap .i64 ((i13) + (1))) m' h')))) ∧ (¬ ((i13 : Int) < (i3)) →
 ∃ h27 : Heap, StoresAt ⟨k8, 0, none⟩ h14 0 [(.bool true), (.string s12)] h27 ∧
 ∃ b28 : Bool, ∃ s29 : ByteArray, CellsAt B h27 ⟨k8, 0, none⟩ 0 [(.bool b28), (.string s29)] ∧ Fin B h27 (Q (b28) s29))
def S_countermandref09_Cut (B : RO) (b1 : Bool) (s2 : ByteArray) (i3 : Int) (h : Heap) (Q : Bool → ByteArray → Heap → Prop) : Prop :=
 ∀ k6 : Nat, h k6 = none → B k6 = none → ∀ h7 : Heap, h7 = Heap.set h k6 (.vec 76 (plains [(.bool b1), (.string s2)]) 2) →
 ∀ k8 : Nat, h7 k8 = none → B k8 = none → ∀ h9 : Heap, h9 = Heap.set h7 k8 (.vec 76 (plains [(.bool false), (.string ByteArray.empty)]) 2) →
 ∃ b30 : Bool, cellH B h9 ⟨k6, 0, none⟩ = some (.bool b30) ∧ (b30 = true →
 ((i3 : Int) < (0) →
 ∃ b36 : Bool, ∃ s37 : ByteArray, CellsAt B h9 ⟨k6, 0, none⟩ 0 [(.bool b36), (.string s37)] ∧
 ∃ h38 : Heap, StoresAt ⟨k8, 0, none⟩ h9 0 [(.bool b36), (.string s37)] h38 ∧
 ∃ b39 : Bool, ∃ s40 : ByteArray, CellsAt B h38 ⟨k8, 0, none⟩ 0 [(.bool b39), (.string s40)] ∧ Fin B h38 (Q (b39) s40)) ∧ (¬ ((i3 : Int) < (0)) →
 ((i3 : Int) > (32) →
 ∃ b41 : Bool, ∃ s42 : ByteArray, CellsAt B h9 ⟨k6, 0, none⟩ 0 [(.bool b41), (.string s42)] ∧
 ∃ h43 : Heap, StoresAt ⟨k8, 0, none⟩ h9 0 [(.bool b41), (.string s42)] h43 ∧
 ∃ b44 : Bool, ∃ s45 : ByteArray, CellsAt B h43 ⟨k8, 0, none⟩ 0 [(.bool b44), (.string s45)] ∧ Fin B h43 (Q (b44) s45)) ∧ (¬ ((i3 : Int) > (32)) →
 Fin B h9 (fun h' => S_countermandref09_Cut_J1 B i3 k6 k8 h' Q)))) ∧ (b30 = false →
 ∃ b31 : Bool, ∃ s32 : ByteArray, CellsAt B h9 ⟨k6, 0, none⟩ 0 [(.bool b31), (.string s32)] ∧
 ∃ h33 : Heap, StoresAt ⟨k8, 0, none⟩ h9 0 [(.bool b31), (.string s32)] h33 ∧
 ∃ b34 : Bool, ∃ s35 : ByteArray, CellsAt B h33 ⟨k8, 0, none⟩ 0 [(.bool b34), (.string s35)] ∧ Fin B h33 (Q (b34) s35))
def S_cell_Row_file_File_is (B : RO) (p1 : Option Addr) (i2 : Int) (h : Heap) (Q : Bool → Heap → Prop) : Prop :=
 (p1 = none →
 Fin B h (Q (false))) ∧ (¬ (p1 = none) →
 ((i2 : Int) ≥ (0) →
 ∃ A5 : Addr, p1 = some A5 ∧
 LdSl B h A5 fun a7 n8 c9 h10 =>
 Fin B h10 (Q ((decide ((i2 : Int) < ((n8 : Nat))))))) ∧ (¬ ((i2 : Int) ≥ (0)) →
 Fin B h (Q (false))))
def S_tome_Tome_All_1 (B : RO) (v1 : Value) (A2 : Addr) (h : Heap) (Q : Heap → Prop) : Prop :=
 isOne v1 = true ∧
 ∀ k3 : Nat, h k3 = none → B k3 = none → ∀ h4 : Heap, h4 = Heap.set h k3 (.vec 157 [.plain v1] 1) →
 ∃ p5 : Option Addr, cellH B h4 A2 = some (.pointer p5) ∧
 (p5 = none →
 Fin B h4 (Q)) ∧ (¬ (p5 = none) →
 ∃ p7 : Option Addr, cellH B h4 A2 = some (.pointer p7) ∧
 ∃ A8 : Addr, p7 = some A8 ∧
 ∃ p10 : Option Addr, cellH B h4 A8 = some (.pointer p10) ∧
 C_cell_Row_file_File_All B p10 h4 (fun v12 h11 =>
 ∃ (xs20 : List (Int × Bool × ByteArray)) (G16 : Heap → Prop) (J19 : Nat → Heap → Prop), Iter PG B v12 (xs20.map (fun x : Int × Bool × ByteArray => [(.int .i64 (x.1)), (.agg #[(.bool x.2.1), (.string x.2.2)])])) G16 ∧ Ins G16 ∧ (∀ i h, J19 i h → G16 h) ∧ Fin B h11 (J19 0) ∧
 (∀ (q18 : Nat) (h17 : Heap) (i13 : Int) (b14 : Bool) (s15 : ByteArray), xs20[q18]? = some (i13, b14, s15) → J19 q18 h17 →
 ∀ k21 : Nat, h17 k21 = none → B k21 = none → ∀ h22 : Heap, h22 = Heap.set h17 k21 (.vec 41 (plains [(.bool false), (.string ByteArray.empty)]) 2) →
 ∃ h23 : Heap, StoresAt ⟨k21, 0, none⟩ h22 0 [(.bool b14), (.string s15)] h23 ∧
 ∃ b24 : Bool, cellH B h23 ⟨k21, 0, none⟩ = some (.bool b24) ∧ (b24 = true →
 ∃ v25 : Value, cellH B h23 ⟨k3, 0, none⟩ = some v25 ∧
 ∃ b26 : Bool, ∃ s27 : ByteArray, CellsAt B h23 ⟨k21, 0, none⟩ 0 [(.bool b26), (.string s27)] ∧
 CallV PG B v25 [(.int .i64 (i13)), (.agg #[(.bool b26), (.string s27)])] h23 (fun v h28 => ∃ b29 : Bool, v = (.bool b29) ∧
 (b29 = true →
 Fin B h28 (J19 (q18 + 1))) ∧ (b29 = false →
 Fin B h28 (Q)))) ∧ (b24 = false →
 Fin B h23 (J19 (q18 + 1)))) ∧
 (∀ (h17 : Heap), J19 xs20.length h17 →
 Fin B h17 (Q))))
def S_cell_Row_file_File_All (B : RO) (p1 : Option Addr) (h : Heap) (Q : Value → Heap → Prop) : Prop :=
 ∀ k3 : Nat, h k3 = none → B k3 = none → ∀ h4 : Heap, h4 = Heap.set h k3 (.vec 110 [.plain (.pointer p1)] 1) →
 Fin B h4 (Q (Value.func (.func 139) #[] #[(.pointer (some ⟨k3, 0, none⟩))]))
def S_slices_Insert_s_draft_entry_file_File_draft_entry_file_File (B : RO) (a1 : Option Addr) (n2 : Nat) (c3 : Nat) (i4 : Int) (a5 : Option Addr) (n6 : Nat) (c7 : Nat) (h : Heap) (Q : Option Addr → Nat → Nat → Heap → Prop) : Prop :=
 0 ≤ (i4 : Int) ∧ (i4 : Int) ≤ ((n2 : Nat) : Int) ∧ ((n2 : Nat) : Int) ≤ (c3 : Nat) ∧
 (((n6 : Nat) : Int) = 0 →
 Fin B h (Q a1 n2 c3)) ∧ (¬ (((n6 : Nat) : Int) = 0) →
 ((i4 : Int) = (n2 : Nat) →
 semH PG B (Builtin.append_ #[158, 158] 158 #[(.slice a1 n2 c3), (.slice a5 n6 c7)]) h (fun v h11 => ∃ a12 : Option Addr, ∃ n13 : Nat, ∃ c14 : Nat, v = (.slice a12 n13 c14) ∧
 Fin B h11 (Q a12 n13 c14))) ∧ (¬ ((i4 : Int) = (n2 : Nat)) →
 ((IntKind.wrap .i64 (((n2 : Nat)) + ((n6 : Nat))) : Int) > ((c3 : Nat)) →
 0 ≤ (0 : Int) ∧ (0 : Int) ≤ (i4 : Int) ∧ (i4 : Int) ≤ (c3 : Nat) ∧
 semH PG B (Builtin.append_ #[158, 3] 158 #[(.slice (if c3 = Int.toNat (0) then a1 else Option.map (·.add (Int.toNat (0) * 3)) a1) (Int.toNat (i4) - Int.toNat (0)) (c3 - Int.toNat (0))), (.int .i64 (IntKind.wrap .i64 ((IntKind.wrap .i64 (((n2 : Nat)) + ((n6 : Nat)))) - (i4))))]) h (fun v h15 => ∃ a16 : Option Addr, ∃ n17 : Nat, ∃ c18 : Nat, v = (.slice a16 n17 c18) ∧
 0 ≤ (i4 : Int) ∧ (i4 : Int) ≤ ((n17 : Nat) : Int) ∧ ((n17 : Nat) : Int) ≤ (c18 : Nat) ∧
 semH PG B (Builtin.copy_ #[158, 158] 3 #[(.slice (if c18 = Int.toNat (i4) then a16 else Option.map (·.add (Int.toNat (i4) * 3)) a16) (Int.toNat ((n17 : Nat)) - Int.toNat (i4)) (c18 - Int.toNat (i4))), (.slice a5 n6 c7)]) h15 (fun v h19 => ∃ i20 : Int, v = (.int .i64 (i20)) ∧
 0 ≤ (IntKind.wrap .i64 ((i4) + ((n6 : Nat))) : Int) ∧ (IntKind.wrap .i64 ((i4) + ((n6 : Nat))) : Int) ≤ ((n17 : Nat) : Int) ∧ ((n17 : Nat) : Int) ≤ (c18 : Nat) ∧
 0 ≤ (i4 : Int) ∧ (i4 : Int) ≤ ((n2 : Nat) : Int) ∧ ((n2 : Nat) : Int) ≤ (c3 : Nat) ∧
 semH PG B (Builtin.copy_ #[158, 158] 3 #[(.slice (if c18 = Int.toNat (IntKind.wrap .i64 ((i4) + ((n6 : Nat)))) then a16 else Option.map (·.add (Int.toNat (IntKind.wrap .i64 ((i4) + ((n6 : Nat)))) * 3)) a16) (Int.toNat ((n17 : Nat)) - Int.toNat (IntKind.wrap .i64 ((i4) + ((n6 : Nat))))) (c18 - Int.toNat (IntKind.wrap .i64 ((i4) + ((n6 : Nat)))))), (.slice (if c3 = Int.toNat (i4) then a1 else Option.map (·.add (Int.toNat (i4) * 3)) a1) (Int.toNat ((n2 : Nat)) - Int.toNat (i4)) (c3 - Int.toNat (i4)))]) h19 (fun v h21 => ∃ i22 : Int, v = (.int .i64 (i22)) ∧
 Fin B h21 (Q a16 n17 c18))))) ∧ (¬ ((IntKind.wrap .i64 (((n2 : Nat)) + ((n6 : Nat))) : Int) > ((c3 : Nat))) →
 0 ≤ (0 : Int) ∧ (0 : Int) ≤ (IntKind.wrap .i64 (((n2 : Nat)) + ((n6 : Nat))) : Int) ∧ (IntKind.wrap .i64 (((n2 : Nat)) + ((n6 : Nat))) : Int) ≤ (c3 : Nat) ∧
 0 ≤ (IntKind.wrap .i64 ((i4) + ((n6 : Nat))) : Int) ∧ (IntKind.wrap .i64 ((i4) + ((n6 : Nat))) : Int) ≤ (((Int.toNat (IntKind.wrap .i64 (((n2 : Nat)) + ((n6 : Nat)))) - Int.toNat (0)) : Nat) : Int) ∧ (((Int.toNat (IntKind.wrap .i64 (((n2 : Nat)) + ((n6 : Nat)))) - Int.toNat (0)) : Nat) : Int) ≤ ((c3 - Int.toNat (0)) : Nat) ∧
 semH PG B (Extern.SlicesOverlaps.overlaps #[158, 158] #[4] #[(.slice a5 n6 c7), (.slice (if (c3 - Int.toNat (0)) = Int.toNat (IntKind.wrap .i64 ((i4) + ((n6 : Nat)))) then (if c3 = Int.toNat (0) then a1 else Option.map (·.add (Int.toNat (0) * 3)) a1) else Option.map (·.add (Int.toNat (IntKind.wrap .i64 ((i4) + ((n6 : Nat)))) * 3)) (if c3 = Int.toNat (0) then a1 else Option.map (·.add (Int.toNat (0) * 3)) a1)) (Int.toNat (((Int.toNat (IntKind.wrap .i64 (((n2 : Nat)) + ((n6 : Nat)))) - Int.toNat (0)) : Nat)) - Int.toNat (IntKind.wrap .i64 ((i4) + ((n6 : Nat))))) ((c3 - Int.toNat (0)) - Int.toNat (IntKind.wrap .i64 ((i4) + ((n6 : Nat))))))]) h (fun v h23 => ∃ b24 : Bool, v = (.bool b24) ∧
 (b24 = true →
 0 ≤ ((n2 : Nat) : Int) ∧ ((n2 : Nat) : Int) ≤ (((Int.toNat (IntKind.wrap .i64 (((n2 : Nat)) + ((n6 : Nat)))) - Int.toNat (0)) : Nat) : Int) ∧ (((Int.toNat (IntKind.wrap .i64 (((n2 : Nat)) + ((n6 : Nat)))) - Int.toNat (0)) : Nat) : Int) ≤ ((c3 - Int.toNat (0)) : Nat) ∧
 semH PG B (Builtin.copy_ #[158, 158] 3 #[(.slice (if (c3 - Int.toNat (0)) = Int.toNat ((n2 : Nat)) then (if c3 = Int.toNat (0) then a1 else Option.map (·.add (Int.toNat (0) * 3)) a1) else Option.map (·.add (Int.toNat ((n2 : Nat)) * 3)) (if c3 = Int.toNat (0) then a1 else Option.map (·.add (Int.toNat (0) * 3)) a1)) (Int.toNat (((Int.toNat (IntKind.wrap .i64 (((n2 : Nat)) + ((n6 : Nat)))) - Int.toNat (0)) : Nat)) - Int.toNat ((n2 : Nat))) ((c3 - Int.toNat (0)) - Int.toNat ((n2 : Nat)))), (.slice a5 n6 c7)]) h23 (fun v h29 => ∃ i30 : Int, v = (.int .i64 (i30)) ∧
 0 ≤ (i4 : Int) ∧ (i4 : Int) ≤ (((Int.toNat (IntKind.wrap .i64 (((n2 : Nat)) + ((n6 : Nat)))) - Int.toNat (0)) : Nat) : Int) ∧ (((Int.toNat (IntKind.wrap .i64 (((n2 : Nat)) + ((n6 : Nat)))) - Int.toNat (0)) : Nat) : Int) ≤ ((c3 - Int.toNat (0)) : Nat) ∧
 C_slices_rotateRight_draft_entry_file_File B (if (c3 - Int.toNat (0)) = Int.toNat (i4) then (if c3 = Int.toNat (0) then a1 else Option.map (·.add (Int.toNat (0) * 3)) a1) else Option.map (·.add (Int.toNat (i4) * 3)) (if c3 = Int.toNat (0) then a1 else Option.map (·.add (Int.toNat (0) * 3)) a1)) (Int.toNat (((Int.toNat (IntKind.wrap .i64 (((n2 : Nat)) + ((n6 : Nat)))) - Int.toNat (0)) : Nat)) - Int.toNat (i4)) ((c3 - Int.toNat (0)) - Int.toNat (i4)) ((n6 : Nat)) h29 (fun h31 =>
 Fin B h31 (Q (if c3 = Int.toNat (0) then a1 else Option.map (·.add (Int.toNat (0) * 3)) a1) (Int.toNat (IntKind.wrap .i64 (((n2 : Nat)) + ((n6 : Nat)))) - Int.toNat (0)) (c3 - Int.toNat (0)))))) ∧ (b24 = false →
 0 ≤ (IntKind.wrap .i64 ((i4) + ((n6 : Nat))) : Int) ∧ (IntKind.wrap .i64 ((i4) + ((n6 : Nat))) : Int) ≤ (((Int.toNat (IntKind.wrap .i64 (((n2 : Nat)) + ((n6 : Nat)))) - Int.toNat (0)) : Nat) : Int) ∧ (((Int.toNat (IntKind.wrap .i64 (((n2 : Nat)) + ((n6 : Nat)))) - Int.toNat (0)) : Nat) : Int) ≤ ((c3 - Int.toNat (0)) : Nat) ∧
 0 ≤ (i4 : Int) ∧ (i4 : Int) ≤ (((Int.toNat (IntKind.wrap .i64 (((n2 : Nat)) + ((n6 : Nat)))) - Int.toNat (0)) : Nat) : Int) ∧ (((Int.toNat (IntKind.wrap .i64 (((n2 : Nat)) + ((n6 : Nat)))) - Int.toNat (0)) : Nat) : Int) ≤ ((c3 - Int.toNat (0)) : Nat) ∧
 semH PG B (Builtin.copy_ #[158, 158] 3 #[(.slice (if (c3 - Int.toNat (0)) = Int.toNat (IntKind.wrap .i64 ((i4) + ((n6 : Nat)))) then (if c3 = Int.toNat (0) then a1 else Option.map (·.add (Int.toNat (0) * 3)) a1) else Option.map (·.add (Int.toNat (IntKind.wrap .i64 ((i4) + ((n6 : Nat)))) * 3)) (if c3 = Int.toNat (0) then a1 else Option.map (·.add (Int.toNat (0) * 3)) a1)) (Int.toNat (((Int.toNat (IntKind.wrap .i64 (((n2 : Nat)) + ((n6 : Nat)))) - Int.toNat (0)) : Nat)) - Int.toNat (IntKind.wrap .i64 ((i4) + ((n6 : Nat))))) ((c3 - Int.toNat (0)) - Int.toNat (IntKind.wrap .i64 ((i4) + ((n6 : Nat)))))), (.slice (if (c3 - Int.toNat (0)) = Int.toNat (i4) then (if c3 = Int.toNat (0) then a1 else Option.map (·.add (Int.toNat (0) * 3)) a1) else Option.map (·.add (Int.toNat (i4) * 3)) (if c3 = Int.toNat (0) then a1 else Option.map (·.add (Int.toNat (0) * 3)) a1)) (Int.toNat (((Int.toNat (IntKind.wrap .i64 (((n2 : Nat)) + ((n6 : Nat)))) - Int.toNat (0)) : Nat)) - Int.toNat (i4)) ((c3 - Int.toNat (0)) - Int.toNat (i4)))]) h23 (fun v h25 => ∃ i26 : Int, v = (.int .i64 (i26)) ∧
 0 ≤ (i4 : Int) ∧ (i4 : Int) ≤ (((Int.toNat (IntKind.wrap .i64 (((n2 : Nat)) + ((n6 : Nat)))) - Int.toNat (0)) : Nat) : Int) ∧ (((Int.toNat (IntKind.wrap .i64 (((n2 : Nat)) + ((n6 : Nat)))) - Int.toNat (0)) : Nat) : Int) ≤ ((c3 - Int.toNat (0)) : Nat) ∧
 semH PG B (Builtin.copy_ #[158, 158] 3 #[(.slice (if (c3 - Int.toNat (0)) = Int.toNat (i4) then (if c3 = Int.toNat (0) then a1 else Option.map (·.add (Int.toNat (0) * 3)) a1) else Option.map (·.add (Int.toNat (i4) * 3)) (if c3 = Int.toNat (0) then a1 else Option.map (·.add (Int.toNat (0) * 3)) a1)) (Int.toNat (((Int.toNat (IntKind.wrap .i64 (((n2 : Nat)) + ((n6 : Nat)))) - Int.toNat (0)) : Nat)) - Int.toNat (i4)) ((c3 - Int.toNat (0)) - Int.toNat (i4))), (.slice a5 n6 c7)]) h25 (fun v h27 => ∃ i28 : Int, v = (.int .i64 (i28)) ∧
 Fin B h27 (Q (if c3 = Int.toNat (0) then a1 else Option.map (·.add (Int.toNat (0) * 3)) a1) (Int.toNat (IntKind.wrap .i64 (((n2 : Nat)) + ((n6 : Nat)))) - Int.toNat (0)) (c3 - Int.toNat (0))))))))))
def S_slices_BinarySearchFunc_s_draft_entry_file_File_draft_entry_file_File_int_J1 (B : RO) (a1 : Option Addr) (n2 : Nat) (c3 : Nat) (i4 : Int) (v5 : Value) (i9 : Int) (h10 : Heap) (Q : Int → Bool → Heap → Prop) : Prop :=
 ((i9 : Int) < ((n2 : Nat)) →
 ∃ A11 : Addr, a1 = some A11 ∧ 0 ≤ (i9 : Int) ∧ (i9 : Int) < (n2 : Nat) ∧
 ∃ i13 : Int, ∃ b14 : Bool, ∃ s15 : ByteArray, CellsAt B h10 (Addr.add A11 (Int.toNat (i9) * 3)) 0 [(.int .i64 (i13)), (.bool b14), (.string s15)] ∧
 CallV PG B v5 [(.agg #[(.int .i64 (i13)), (.bool b14), (.string s15)]), (.int .i64 (i4))] h10 (fun v h16 => ∃ i17 : Int, v = (.int .i64 (i17)) ∧
 Fin B h16 (Q (i9) (((i17 : Int) == (0)))))) ∧ (¬ ((i9 : Int) < ((n2 : Nat))) →
 Fin B h10 (Q (i9) (false)))
def S_slices_BinarySearchFunc_s_draft_entry_file_File_draft_entry_file_File_int (B : RO) (a1 : Option Addr) (n2 : Nat) (c3 : Nat) (i4 : Int) (v5 : Value) (h : Heap) (Q : Int → Bool → Heap → Prop) : Prop :=
 ∃ (J24 : Int → Int → Nat → Heap → Prop) (m22 : Nat), Fin B h (J24 (0) ((n2 : Nat)) m22) ∧
 ∀ (i18 : Int) (i19 : Int) (m21 : Nat) (h20 : Heap), J24 i18 i19 m21 h20 →
 ((i18 : Int) < (i19) →
 ¬ ((1 : Int) < 0) ∧
 ∃ A25 : Addr, a1 = some A25 ∧ 0 ≤ (IntKind.wrap .i64 (Int.fdiv (IntKind.wrap .u64 (IntKind.wrap .i64 ((i18) + (i19)))) (2 ^ (min (Int.toNat (1)) (IntKind.bits .u64)))) : Int) ∧ (IntKind.wrap .i64 (Int.fdiv (IntKind.wrap .u64 (IntKind.wrap .i64 ((i18) + (i19)))) (2 ^ (min (Int.toNat (1)) (IntKind.bits .u64)))) : Int) < (n2 : Nat) ∧
 ∃ i27 : Int, ∃ b28 : Bool, ∃ s29 : ByteArray, CellsAt B h20 (Addr.add A25 (Int.toNat (IntKind.wrap .i64 (Int.fdiv (IntKind.wrap .u64 (IntKind.wrap .i64 ((i18) + (i19)))) (2 ^ (min (Int.toNat (1)) (IntKind.bits .u64))))) * 3)) 0 [(.int .i64 (i27)), (.bool b28), (.string s29)] ∧
 CallV PG B v5 [(.agg #[(.int .i64 (i27)), (.bool b28), (.string s29)]), (.int .i64 (i4))] h20 (fun v h30 => ∃ i31 : Int, v = (.int .i64 (i31)) ∧
 ((i31 : Int) < (0) →
 Fin B h30 (fun h' => ∃ m', m' < m21 ∧ J24 (IntKind.wrap .i64 ((IntKind.wrap .i64 (Int.fdiv (IntKind.wrap .u64 (IntKind.wrap .i64 ((i18) + (i19)))) (2 ^ (min (Int.toNat (1)) (IntKind.bits .u64))))) + (1))) (i19) m' h')) ∧ (¬ ((i31 : Int) < (0)) →
 Fin B h30 (fun h' => ∃ m', m' < m21 ∧ J24 (i18) (IntKind.wrap .i64 (Int.fdiv (IntKind.wrap .u64 (IntKind.wrap .i64 ((i18) + (i19)))) (2 ^ (min (Int.toNat (1)) (IntKind.bits .u64))))) m' h')))) ∧ (¬ ((i18 : Int) < (i19)) →
 Fin B h20 (fun h' => S_slices_BinarySearchFunc_s_draft_entry_file_File_draft_entry_file_File_int_J1 B a1 n2 c3 i4 v5 (i18) h' Q))
def S_draft_by_file_File (B : RO) (i1 : Int) (b2 : Bool) (s3 : ByteArray) (i4 : Int) (h : Heap) (Q : Int → Heap → Prop) : Prop :=
 ∀ k6 : Nat, h k6 = none → B k6 = none → ∀ h7 : Heap, h7 = Heap.set h k6 (.vec 162 (plains [(.int .i64 (i1)), (.bool b2), (.string s3)]) 3) →
 ∃ i8 : Int, cellH B h7 ⟨k6, 0, none⟩ = some (.int .i64 (i8)) ∧
 ((i8 : Int) < (i4) →
 Fin B h7 (Q ((-1)))) ∧ (¬ ((i8 : Int) < (i4)) →
 ∃ i9 : Int, cellH B h7 ⟨k6, 0, none⟩ = some (.int .i64 (i9)) ∧
 ((i9 : Int) > (i4) →
 Fin B h7 (Q (1))) ∧ (¬ ((i9 : Int) > (i4)) →
 Fin B h7 (Q (0))))
def S_countermandref09_At (B : RO) (b1 : Bool) (s2 : ByteArray) (i3 : Int) (h : Heap) (Q : Int → Heap → Prop) : Prop :=
 ∀ k5 : Nat, h k5 = none → B k5 = none → ∀ h6 : Heap, h6 = Heap.set h k5 (.vec 76 (plains [(.bool b1), (.string s2)]) 2) →
 ∃ (J12 : Int → Nat → Heap → Prop) (m10 : Nat), Fin B h6 (J12 (0) m10) ∧
 ∀ (i7 : Int) (m9 : Nat) (h8 : Heap), J12 i7 m9 h8 →
 ∃ s13 : ByteArray, cellH B h8 ⟨k5, 1, none⟩ = some (.string s13) ∧
 ((i7 : Int) < ((ByteArray.size s13 : Nat)) →
 ((i7 : Int) = i3 →
 ∃ s14 : ByteArray, cellH B h8 ⟨k5, 1, none⟩ = some (.string s14) ∧
 0 ≤ (i7 : Int) ∧ (i7 : Int) < (ByteArray.size s14 : Nat) ∧
 Fin B h8 (Q (IntKind.wrap .i64 (byteAt s14 (Int.toNat (i7)))))) ∧ (¬ ((i7 : Int) = i3) →
 Fin B h8 (fun h' => ∃ m', m' < m9 ∧ J12 (IntKind.wrap .i64 ((i7) + (1))) m' h'))) ∧ (¬ ((i7 : Int) < ((ByteArray.size s13 : Nat))) →
 Fin B h8 (Q ((-1))))
def S_cell_Row_file_File_All_1 (B : RO) (v1 : Value) (A2 : Addr) (h : Heap) (Q : Heap → Prop) : Prop :=
 ∃ p3 : Option Addr, cellH B h A2 = some (.pointer p3) ∧
 (p3 = none →
 Fin B h (Q)) ∧ (¬ (p3 = none) →
 ∃ p5 : Option Addr, cellH B h A2 = some (.pointer p5) ∧
 ∃ A6 : Addr, p5 = some A6 ∧
 LdSl B h A6 fun a8 n9 c10 h11 =>
 ∃ (J17 : Int → Nat → Heap → Prop) (m15 : Nat), Fin B h11 (J17 (0) m15) ∧
 ∀ (i12 : Int) (m14 : Nat) (h13 : Heap), J17 i12 m14 h13 →
 ((i12 : Int) < ((n9 : Nat)) →
 ∃ A18 : Addr, a8 = some A18 ∧ 0 ≤ (i12 : Int) ∧ (i12 : Int) < (n9 : Nat) ∧
 ∃ b20 : Bool, ∃ s21 : ByteArray, ∃ i22 : Int, CellsAt B h13 (Addr.add A18 (Int.toNat (i12) * 3)) 0 [(.bool b20), (.string s21), (.int .i64 (i22))] ∧
 ∀ k23 : Nat, h13 k23 = none → B k23 = none → ∀ h24 : Heap, h24 = Heap.set h13 k23 (.vec 170 (plains [(.bool false), (.string ByteArray.empty), (.int .i64 (0))]) 3) →
 ∃ h25 : Heap, StoresAt ⟨k23, 0, none⟩ h24 0 [(.bool b20), (.string s21), (.int .i64 (i22))] h25 ∧
 ∃ b26 : Bool, ∃ s27 : ByteArray, CellsAt B h25 ⟨k23, 0, none⟩ 0 [(.bool b26), (.string s27)] ∧
 CallV PG B v1 [(.int .i64 (i12)), (.agg #[(.bool b26), (.string s27)])] h25 (fun v h28 => ∃ b29 : Bool, v = (.bool b29) ∧
 (b29 = true →
 Fin B h28 (fun h' => ∃ m', m' < m14 ∧ J17 (IntKind.wrap .i64 ((i12) + (1))) m' h')) ∧ (b29 = false →
 Fin B h28 (Q)))) ∧ (¬ ((i12 : Int) < ((n9 : Nat))) →
 Fin B h13 (Q)))
end Go.Proofs.Ytcncdfmnpmmikaa.H
