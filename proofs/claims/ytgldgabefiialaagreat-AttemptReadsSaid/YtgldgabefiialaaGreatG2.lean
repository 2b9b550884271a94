/- What the law's proof stands on, part 2. No condition. -/
import Derived.IntWalk
import Derived.Laws.BitsLemmas
import Derived.Test.YtgldgabefiialaaGreatG1
namespace Go.Proofs.YtgldgabefiialaaGreat.H
open Go
set_option linter.unusedVariables false
theorem z8 (k m i : Nat) : Addr.add ⟨k, m, none⟩ i = ⟨k, m + i, none⟩ := by unfold Addr.add; split <;> simp_all
theorem zeH {P : Program} {t : TypeId} (h : slT P t = true) : (P.underlying t).isSome = true ∧ intB P t = none := by
 unfold slT at h
 unfold intB
 split at h
 ·rename_i e' hu; rw [hu]; exact ⟨rfl, rfl⟩
 ·cases h
section
variable {P : Program} {B : RO} {h0 h h' : Heap} {L L' : List (Option (Nat × AObj))}
theorem Keep.append (E : Keep B h0 L h) (E' : Keep B h L' h') : Keep B h0 (L ++ L') h' := by
 have key : ∀ (i k : Nat) (o : AObj), (L ++ L')[i]? = some (some (k, o)) → (i < L.length ∧ L[i]? = some (some (k, o))) ∨ (L.length ≤ i ∧ L'[i - L.length]? = some (some (k, o))) := fun i k o e => by
  rw [List.getElem?_append] at e
  split at e
  ·exact .inl ⟨by assumption, e⟩
  ·exact .inr ⟨by omega, e⟩
 refine ⟨E.le.trans E'.le, E.nw.trans E'.nw, fun i k o e => ?_, fun i k o e => ?_, fun i j k o o' e1 e2 => ?_⟩
 ·rcases key _ _ _ e with ⟨_, e⟩ | ⟨_, e⟩
  ·exact E.z _ _ _ e
  ·exact ⟨E.le.none (E'.z _ _ _ e).1, (E'.z _ _ _ e).2⟩
 ·rcases key _ _ _ e with ⟨_, e⟩ | ⟨_, e⟩
  ·exact E'.le _ _ (E.get _ _ _ e)
  ·exact E'.get _ _ _ e
 ·have cross : ∀ {i j : Nat} {o o' : AObj}, L[i]? = some (some (k, o)) → L'[j]? = some (some (k, o')) → False := fun a b => by
   have := E.get _ _ _ a
   rw [(E'.z _ _ _ b).1] at this
   cases this
  rcases key _ _ _ e1 with ⟨a1, f1⟩ | ⟨a1, f1⟩
  ·rcases key _ _ _ e2 with ⟨a2, f2⟩ | ⟨a2, f2⟩
   ·exact E.nd _ _ _ _ _ f1 f2
   ·exact (cross f1 f2).elim
  ·rcases key _ _ _ e2 with ⟨a2, f2⟩ | ⟨a2, f2⟩
   ·exact (cross f2 f1).elim
   ·have := E'.nd _ _ _ _ _ f1 f2
    omega
theorem Keep.popL (E : Keep B h0 (L ++ L') h) : Keep B h0 L h := E.sub fun i x e => by
 rw [List.getElem?_append_left (List.getElem?_eq_some_iff.1 e).1]; exact e
theorem Keep.pop {x : Option (Nat × AObj)} (E : Keep B h0 (L ++ [x]) h) : Keep B h0 L h := E.popL
theorem Keep.sub2 {x y : Option (Nat × AObj)} (E : Keep B h0 L h) (i j : Nat) (hi : L[i]? = some x) (hj : L[j]? = some y) (hn : i ≠ j := by decide) : Keep B h0 [x, y] h := by
 have key : ∀ (q k : Nat) (o : AObj), [x, y][q]? = some (some (k, o)) → (q = 0 ∧ L[i]? = some (some (k, o))) ∨ (q = 1 ∧ L[j]? = some (some (k, o))) := fun q k o e => by
  match q, e with
  | 0, e => simp at e; exact .inl ⟨rfl, by rw [hi, e]⟩
  | 1, e => simp at e; exact .inr ⟨rfl, by rw [hj, e]⟩
  | q + 2, e => simp at e
 refine ⟨E.le, E.nw, fun q k o e => ?_, fun q k o e => ?_, fun q q' k o o' e1 e2 => ?_⟩
 ·rcases key _ _ _ e with ⟨_, e⟩ | ⟨_, e⟩ <;> exact E.z _ _ _ e
 ·rcases key _ _ _ e with ⟨_, e⟩ | ⟨_, e⟩ <;> exact E.get _ _ _ e
 ·rcases key _ _ _ e1 with ⟨a1, f1⟩ | ⟨a1, f1⟩ <;> rcases key _ _ _ e2 with ⟨a2, f2⟩ | ⟨a2, f2⟩
  ·omega
  ·exact absurd (E.nd _ _ _ _ _ f1 f2) hn
  ·exact absurd (E.nd _ _ _ _ _ f1 f2) (Ne.symm hn)
  ·omega
theorem Keep.sub3 {x y z : Option (Nat × AObj)} (E : Keep B h0 L h) (i j k : Nat) (hi : L[i]? = some x) (hj : L[j]? = some y) (hk : L[k]? = some z) (hn : i ≠ j ∧ i ≠ k ∧ j ≠ k := by decide) : Keep B h0 [x, y, z] h := by
 have key : ∀ (q b : Nat) (o : AObj), [x, y, z][q]? = some (some (b, o)) → (q = 0 ∧ L[i]? = some (some (b, o))) ∨ (q = 1 ∧ L[j]? = some (some (b, o))) ∨ (q = 2 ∧ L[k]? = some (some (b, o))) := fun q b o e => by
  match q, e with
  | 0, e => simp at e; exact .inl ⟨rfl, by rw [hi, e]⟩
  | 1, e => simp at e; exact .inr (.inl ⟨rfl, by rw [hj, e]⟩)
  | 2, e => simp at e; exact .inr (.inr ⟨rfl, by rw [hk, e]⟩)
  | q + 3, e => simp at e
 refine ⟨E.le, E.nw, fun q b o e => ?_, fun q b o e => ?_, fun q q' b o o' e1 e2 => ?_⟩
 ·rcases key _ _ _ e with ⟨_, e⟩ | ⟨_, e⟩ | ⟨_, e⟩ <;> exact E.z _ _ _ e
 ·rcases key _ _ _ e with ⟨_, e⟩ | ⟨_, e⟩ | ⟨_, e⟩ <;> exact E.get _ _ _ e
 ·rcases key _ _ _ e1 with ⟨a1, f1⟩ | ⟨a1, f1⟩ | ⟨a1, f1⟩ <;> rcases key _ _ _ e2 with ⟨a2, f2⟩ | ⟨a2, f2⟩ | ⟨a2, f2⟩ <;> have hh := E.nd _ _ _ _ _ f1 f2 <;> omega
theorem Keep.pick {x : Option (Nat × AObj)} (E : Keep B h0 L h) (i : Nat) (hi : L[i]? = some x) : Keep B h0 [x] h := by
 have key : ∀ (j k : Nat) (o : AObj), [x][j]? = some (some (k, o)) → j = 0 ∧ L[i]? = some (some (k, o)) := fun j k o e => by
  cases j with
  | zero => simp at e; exact ⟨rfl, by rw [hi, e]⟩
  | succ j => simp at e
 exact ⟨E.le, E.nw, fun j k o e => E.z _ _ _ (key _ _ _ e).2, fun j k o e => E.get _ _ _ (key _ _ _ e).2, fun j j' k o o' e1 e2 => by rw [(key _ _ _ e1).1, (key _ _ _ e2).1]⟩
theorem Keep.last {k : Nat} {o : AObj} (E : Keep B h0 (L ++ [some (k, o)]) h) : h k = some o := E.get L.length k o (by simp)
theorem Keep.putLast {k : Nat} {o : AObj} (o' : AObj) (E : Keep B h0 (L ++ [some (k, o)]) h) : Keep B h0 (L ++ [some (k, o')]) (h.set k o') := by
 have := E.put (o := o) (o' := o') L.length (k := k) (by simp)
 rw [List.set_append_right _ _ (Nat.le_refl _), Nat.sub_self] at this
 exact this
variable {r : Option (Nat × AObj)} {v : Value} {e : TypeId} {sz : Nat} {xs : List Value} {α : Type} {cells : α → List Value} {l : List α} {a : Option Addr} {m c : Nat}
def RowRd (B : RO) (r : Option (Nat × AObj)) (a : Option Addr) (sz : Nat) (cells : α → List Value) (l : List α) : Prop := ∀ h : Heap, (∀ k o, r = some (k, o) → h k = some o) → Reads B h a sz cells l
theorem Row.rd (R : Row r (.slice a m c) e sz (l.flatMap cells)) (hc : ∀ x, (cells x).length = sz) (h0 : 0 < sz) : m = l.length ∧ RowRd B r a sz cells l := by
 refine ⟨?_, fun h hr => ((R.in hr).reads (B := B) hc h0).2⟩
 have hl := zI hc l
 rcases R with ⟨_, e1, e2⟩ | ⟨k, m', c', nn, js, e0, e1, e3, e4, e5⟩
 ·cases e1
  rw [e2] at hl
  have : l.length * sz = 0 := hl.symm
  rcases Nat.mul_eq_zero.1 this with h | h <;> omega
 ·cases e1
  rw [hl] at e3
  exact Nat.eq_of_mul_eq_mul_right h0 e3
theorem Row.len (R : Row r (.slice a m c) e sz xs) : m * sz = xs.length := by
 rcases R with ⟨_, e1, e2⟩ | ⟨k, m', c', nn, js, e0, e1, e3, e4, e5⟩
 ·cases e1; rw [e2]; simp
 ·cases e1; exact e3
theorem Row.cap (R : Row r (.slice a m c) e sz xs) : m ≤ c := by
 rcases R with ⟨_, e1, e2⟩ | ⟨k, m', c', nn, js, e0, e1, e3, e4, e5⟩
 ·cases e1; exact Nat.le_refl _
 ·cases e1; exact e4
theorem Row.first (R : Row r (.slice a m c) e sz xs) {n : Nat} (hn : n ≤ m) : Row r (.slice a n n) e sz (xs.take (n * sz)) := by
 rcases R with ⟨e0, e1, e2⟩ | ⟨k, m', c', nn, js, e0, e1, e3, e4, e5⟩
 ·cases e1
  have : n = 0 := by omega
  subst this
  exact .inl ⟨e0, rfl, by rw [e2]; simp⟩
 ·cases e1
  have h1 : n * sz ≤ m * sz := Nat.mul_le_mul_right _ hn
  have h2 : m * sz ≤ c * sz := Nat.mul_le_mul_right _ e4
  refine .inr ⟨k, n, n, nn, xs.drop (n * sz) ++ js, ?_, rfl, by rw [List.length_take]; omega, Nat.le_refl _, by omega⟩
  rw [← List.append_assoc, List.take_append_drop]; exact e0
theorem VX (hc : ∀ x, (cells x).length = sz) : ∀ (l : List α) (n : Nat), (l.flatMap cells).take (n * sz) = (l.take n).flatMap cells
 | [], n => by simp
 | x :: l, 0 => by simp
 | x :: l, n + 1 => by
  rw [List.take_succ_cons, List.flatMap_cons, List.flatMap_cons, Nat.add_mul, Nat.one_mul, Nat.add_comm, List.take_append, hc, Nat.add_sub_cancel_left, VX hc l n, List.take_of_length_le (by rw [hc]; omega)]
theorem Keep.push1 (E : Keep B h0 L h) (q : Nat) {t : TypeId} {bz nk : Nat} {zs ys : List Value} (hq : L[q]? = some r) (R : Row r (.slice a m c) e sz xs) (ht : slcB P t = some (e, sz, bz)) (hz : zeroB P e = some zs) (hzs : zs.length = sz) (hsz : 0 < sz) (hbz : 0 < bz) (hst : slT P t = true)
  (hys : ys.length = sz) (ho : ∀ y ∈ ys, isOne y = true) (hb : (xs.length + ys.length) * bz ≤ 1099511627776) {k : Nat} (hk : h k = none) (hB : B k = none) (hh : h' = h.set k (.vec e (zc ys) nk)) {K : Value → Heap → Prop}
  (hK : ∀ a' m' c' r' h'', Row r' (.slice a' m' c') e sz (xs ++ ys) → Keep B h0 (L.set q r') h'' → K (.slice a' m' c') h'') : semH P B (Builtin.append_ #[t, t] t #[.slice a m c, .slice (some ⟨k, 0, none⟩) 1 1]) h' K := by
 have E1 : Keep B h0 L h' := by rw [hh]; exact E.wk (Wk.new hk hB)
 have g : h' k = some (.vec e (zc ys) nk) := by rw [hh]; exact Heap.set_same _ _ _
 have tf := zeH hst
 have row := E1.sl q hq R
 refine zax (n := 1) (ys := ys) ht hz hzs hsz hbz tf.1 tf.2 row ⟨by rw [hys, Nat.one_mul], ho, .inl ⟨_, _, rfl, za.of_vec _ 0 g fun j y hy => by simp [zc, hy]⟩⟩ hb ?_
 intro v' h'' ap
 obtain ⟨r', R', E'⟩ := E1.appd q hq R ap
 obtain ⟨a', m', c', rfl⟩ := R'.slice
 exact hK _ _ _ _ _ R' E'
end
inductive Ord where
 | nil
 | q (i : Nat) (t : Ord)
 | x (i : Nat) (t alt : Ord)
 | no
def okT (ops : Array Oper) (z : List Nat) : Ord → Nat → Array Bool → Option (List Nat) → Bool
 | .nil, n, listed, none => n == 0 && (Region.ready .any ops listed).isEmpty
 | .q i t, n + 1, listed, none => (Region.ready .any ops listed).contains i && Region.free .any ops listed i && zah ops z i && needC z listed && okT ops z t n (listed.setIfInBounds i true) none
 | .x i t alt, n + 1, listed, none => match Region.ready .any ops listed with
  | r :: rs => r == i && okT ops z t n (listed.setIfInBounds i true) none && okT ops z alt (n + 1) listed (some rs)
  | [] => false
 | .x i t alt, n + 1, listed, some (r :: rs) => r == i && okT ops z t n (listed.setIfInBounds i true) none && okT ops z alt (n + 1) listed (some rs)
 | .no, _, _, some [] => true
 | _, _, _, _ => false
def Z0 : List Nat → Nat
 | [] => 0
 | j :: l => Z0 l ||| 2 ^ j
theorem Wv (l : List Nat) (j : Nat) : (Z0 l).testBit j = decide (j ∈ l) := by
 induction l with
 | nil => simp [Z0]
 | cons i l ih =>
  rw [Z0, Nat.testBit_or, ih, Nat.testBit_two_pow]
  by_cases h : i = j
  ·subst h; simp
  ·simp [h, Ne.symm h]
def needL (o : Oper) : List Nat := (o.after.toList.filter (Region.binds .any)).map (·.on)
def freeB (ops : Array Oper) (i j : Nat) : Bool := j == i || match ops[j]? with
 | some oj => oj.after.any (fun e => Region.binds .any e && e.on == i) || (match ops[i]? with | some oi => oi.apart ops oj | none => false)
 | none => true
def zaK : List Nat → List Nat → Bool
 | [], [] => true
 | a :: l, b :: m => Nat.beq a b && zaK l m
 | _, _ => false
theorem zbh : ∀ {l m : List Nat}, zaK l m = true → l = m
 | [], [], _ => rfl
 | a :: l, b :: m, h => by
  simp only [zaK, Bool.and_eq_true] at h
  rw [Nat.eq_of_beq_eq_true h.1, zbh h.2]
 | [], _ :: _, h => by cases h
 | _ :: _, [], h => by cases h
structure Tab where
 nt : List Nat
 ft : List Nat
 rt : List Nat
 zm : Nat
def orL (rt : List Nat) : List Nat → Nat
 | [] => 0
 | j :: l => orL rt l ||| rt.getD j 0
def rtOk (rt : List Nat) : List Oper → Nat → Bool
 | [], _ => true
 | o :: l, j => Nat.beq (rt.getD j 0 ||| (Z0 (needL o) ||| orL rt (needL o))) (Z0 (needL o) ||| orL rt (needL o)) && (needL o).all (fun e => Nat.blt e j) && rtOk rt l (j + 1)
def tabOk (l : List Oper) (z : List Nat) (T : Tab) : Bool :=
 zaK (l.map fun o => Z0 (needL o)) T.nt && zaK ((List.range l.length).map fun i => Z0 ((List.range l.length).filter (freeB l.toArray i))) T.ft &&
  rtOk T.rt l 0 && Nat.beq (Z0 z) T.zm && z.all (fun z => Nat.blt z l.length)
def VU : List Nat → Nat → Nat → List Nat
 | [], _, _ => []
 | x :: xs, i, m => if (!m.testBit i && Nat.beq (x &&& m) x) = true then i :: VU xs (i + 1) m else VU xs (i + 1) m
def okM (n : Nat) (z : List Nat) (T : Tab) : Ord → Nat → Nat → Option (List Nat) → Bool
 | .nil, c, m, none => Nat.beq c 0 && (VU T.nt 0 m).isEmpty
 | .q i t, c + 1, m, none => Nat.blt i n && !m.testBit i && Nat.beq (T.nt.getD i 0 &&& m) (T.nt.getD i 0) && Nat.beq (T.ft.getD i 0 ||| m) (2 ^ n - 1) && z.all (fun z => z != i && (T.rt.getD z 0).testBit i) && Nat.beq (T.zm &&& m) 0 && okM n z T t c (m ||| 2 ^ i) none
 | .x i t alt, c + 1, m, none => match VU T.nt 0 m with
  | r :: rs => Nat.beq r i && okM n z T t c (m ||| 2 ^ i) none && okM n z T alt (c + 1) m (some rs)
  | [] => false
 | .x i t alt, c + 1, m, some (r :: rs) => Nat.beq r i && okM n z T t c (m ||| 2 ^ i) none && okM n z T alt (c + 1) m (some rs)
 | .no, _, _, some [] => true
 | _, _, _, _ => false
structure Rep (n : Nat) (listed : Array Bool) (m : Nat) : Prop where
 sz : listed.size = n
 bit : ∀ i, listed.getD i false = m.testBit i
theorem Rep.bitT {n : Nat} {listed : Array Bool} {m : Nat} (R : Rep n listed m) {i : Nat} (hi : i < n) : listed.getD i true = m.testBit i := by
 rw [← R.bit i]
 have : i < listed.size := by rw [R.sz]; exact hi
 simp [Array.getD, this]
theorem Rep.set {n : Nat} {listed : Array Bool} {m : Nat} (R : Rep n listed m) {i : Nat} (hi : i < n) : Rep n (listed.setIfInBounds i true) (m ||| 2 ^ i) := by
 refine ⟨by rw [Array.size_setIfInBounds]; exact R.sz, fun j => ?_⟩
 have hs : i < listed.size := by rw [R.sz]; exact hi
 rw [Nat.testBit_or, Nat.testBit_two_pow, ← R.bit j, Array.getD_eq_getD_getElem?, Array.getD_eq_getD_getElem?, Array.getElem?_setIfInBounds]
 by_cases h : i = j
 ·subst h; simp [hs]
 ·simp [h]
theorem zeA (m : Nat) : ∀ (xs : List Nat) (s : Nat), VU xs s m = (List.range' s xs.length).filter fun i => !m.testBit i && Nat.beq (xs.getD (i - s) 0 &&& m) (xs.getD (i - s) 0)
 | [], s => rfl
 | x :: xs, s => by
  rw [List.length_cons, List.range'_succ, List.filter_cons, VU, zeA m xs (s + 1)]
  have hc : (List.range' (s + 1) xs.length).filter (fun i => !m.testBit i && Nat.beq (xs.getD (i - (s + 1)) 0 &&& m) (xs.getD (i - (s + 1)) 0)) = (List.range' (s + 1) xs.length).filter fun i => !m.testBit i && Nat.beq ((x :: xs).getD (i - s) 0 &&& m) ((x :: xs).getD (i - s) 0) := by
   refine List.filter_congr fun i hi => ?_
   have := List.mem_range'_1.1 hi
   have e : i - s = (i - (s + 1)) + 1 := by omega
   rw [e]
   simp
  rw [hc, Nat.sub_self]
  rfl
theorem zk8 {x m : Nat} : Nat.beq (x &&& m) x = true ↔ ∀ j, x.testBit j = true → m.testBit j = true := by
 rw [show (Nat.beq (x &&& m) x = true) = (x &&& m = x) from propext ⟨Nat.eq_of_beq_eq_true, fun e => by rw [e]; exact Nat.beq_refl x⟩]
 constructor
 ·intro h j hj
  rw [← h, Nat.testBit_and, Bool.and_eq_true] at hj; exact hj.2
 ·intro h
  apply Nat.eq_of_testBit_eq
  intro j
  rw [Nat.testBit_and]
  cases hx : x.testBit j
  ·rfl
  ·rw [h j hx]; rfl
section
variable {l : List Oper} {z : List Nat} {T : Tab} {listed : Array Bool} {m : Nat}
theorem zb2 (hT : tabOk l z T = true) : (l.map fun o => Z0 (needL o)) = T.nt ∧ ((List.range l.length).map fun i => Z0 ((List.range l.length).filter (freeB l.toArray i))) = T.ft ∧ rtOk T.rt l 0 = true ∧ Z0 z = T.zm ∧ ∀ x ∈ z, x < l.length := by
 simp only [tabOk, Bool.and_eq_true] at hT
 obtain ⟨⟨⟨⟨a, b⟩, c⟩, d⟩, e⟩ := hT
 refine ⟨zbh a, zbh b, c, Nat.eq_of_beq_eq_true d, fun x hx => ?_⟩
 have := List.all_eq_true.1 e x hx
 exact Nat.lt_of_succ_le (Nat.le_of_ble_eq_true this)
theorem zhr {rt : List Nat} : ∀ {l : List Oper} {j i : Nat} {o : Oper}, rtOk rt l j = true → l[i]? = some o → (∀ b, (rt.getD (j + i) 0).testBit b = true → b ∈ needL o ∨ ∃ e ∈ needL o, (rt.getD e 0).testBit b = true) ∧ ∀ e ∈ needL o, e < j + i
 | [], _, _, _, _, hi => by simp at hi
 | p :: l, j, i, o, h, hi => by
  simp only [rtOk, Bool.and_eq_true] at h
  obtain ⟨⟨h1, h2⟩, h3⟩ := h
  cases i with
  | zero =>
   simp at hi
   subst hi
   refine ⟨fun b hb => ?_, fun e he => Nat.lt_of_succ_le (Nat.le_of_ble_eq_true (List.all_eq_true.1 h2 e he))⟩
   have : (Z0 (needL p) ||| orL rt (needL p)).testBit b = true := by
    rw [← Nat.eq_of_beq_eq_true h1, Nat.testBit_or, Bool.or_eq_true]; exact .inl hb
   rw [Nat.testBit_or, Bool.or_eq_true, Wv, decide_eq_true_eq] at this
   rcases this with h | h
   ·exact .inl h
   ·right
    have key : ∀ m : List Nat, (orL rt m).testBit b = true → ∃ e ∈ m, (rt.getD e 0).testBit b = true := fun m => by
     induction m with
     | nil => intro h; simp [orL] at h
     | cons x m ih =>
      intro h
      rw [orL, Nat.testBit_or, Bool.or_eq_true] at h
      rcases h with h | h
      ·obtain ⟨e, he, hh⟩ := ih h; exact ⟨e, by simp [he], hh⟩
      ·exact ⟨x, by simp, h⟩
    exact key _ h
  | succ i =>
   have := zhr (i := i) h3 (by simpa using hi)
   rw [show j + 1 + i = j + (i + 1) by omega] at this
   exact this
theorem zev {o : Oper} {x : Nat} (h : x ∈ needL o) : ∃ e ∈ o.after, Region.binds .any e = true ∧ e.on = x := by
 obtain ⟨e, he, rfl⟩ := List.mem_map.1 h
 obtain ⟨h1, h2⟩ := List.mem_filter.1 he
 exact ⟨e, Array.mem_toList_iff.1 h1, h2, rfl⟩
theorem zdO {ops : Array Oper} : ∀ {n z i : Nat}, waits ops n z i = true → waits ops (n + 1) z i = true
 | 0, _, _, h => by cases h
 | n + 1, z, i, h => by
  rw [waits] at h ⊢
  cases ho : ops[z]? with
  | none => rw [ho] at h; cases h
  | some o =>
   rw [ho] at h
   simp only [Bool.or_eq_true, Array.any_eq_true', Bool.and_eq_true] at h ⊢
   rcases h with h | ⟨e, he, hb, hr⟩
   ·exact .inl h
   ·exact .inr ⟨e, he, hb, zdO hr⟩
theorem zdN {ops : Array Oper} {n m z i : Nat} (h : n ≤ m) (hw : waits ops n z i = true) : waits ops m z i = true := by
 induction h with
 | refl => exact hw
 | step _ ih => exact zdO ih
theorem zkX {rt : List Nat} (h : rtOk rt l 0 = true) (x : Nat) : x < l.length → ∀ i, (rt.getD x 0).testBit i = true → waits l.toArray (x + 1) x i = true := by
 induction x using Nat.strongRecOn with
 | _ x ih =>
  intro hx i hi
  have ho := List.getElem?_eq_getElem hx
  obtain ⟨h1, h2⟩ := zhr h ho
  rw [Nat.zero_add] at h1 h2
  rw [waits, List.getElem?_toArray, ho]
  simp only [Bool.or_eq_true, Array.any_eq_true', Bool.and_eq_true, beq_iff_eq]
  rcases h1 i hi with h | ⟨e, he, hr⟩
  ·obtain ⟨e, h1, h3, h4⟩ := zev h
   exact .inl ⟨e, h1, h3, h4⟩
  ·have hlt := h2 e he
   obtain ⟨e', h1, h3, rfl⟩ := zev he
   exact .inr ⟨e', h1, h3, zdN (by omega) (ih _ hlt (by omega) i hr)⟩
theorem zlC (hT : tabOk l z T = true) {i : Nat} {o : Oper} (ho : l[i]? = some o) : T.nt.getD i 0 = Z0 (needL o) := by
 rw [← (zb2 hT).1, List.getD_eq_getElem?_getD, List.getElem?_map, ho]; rfl
theorem zeB (hT : tabOk l z T = true) (R : Rep l.length listed m) {i : Nat} {o : Oper} (ho : l[i]? = some o) :
  (o.after.all fun e => !Region.binds .any e || listed.getD e.on false) = Nat.beq (T.nt.getD i 0 &&& m) (T.nt.getD i 0) := by
 rw [zlC hT ho, Bool.eq_iff_iff, zk8, Array.all_eq_true_iff_forall_mem]
 constructor
 ·intro h j hj
  rw [Wv, decide_eq_true_eq] at hj
  obtain ⟨e, he, rfl⟩ := List.mem_map.1 hj
  obtain ⟨h1, h2⟩ := List.mem_filter.1 he
  have := h e (Array.mem_toList_iff.1 h1)
  rw [h2, R.bit] at this
  simpa using this
 ·intro h e he
  cases hb : Region.binds .any e
  ·rfl
  ·rw [R.bit, h e.on (by rw [Wv, decide_eq_true_eq]; exact List.mem_map.2 ⟨e, List.mem_filter.2 ⟨Array.mem_toList_iff.2 he, hb⟩, rfl⟩)]; rfl
theorem zf1 (hT : tabOk l z T = true) (R : Rep l.length listed m) : Region.ready .any l.toArray listed = VU T.nt 0 m := by
 have hl : T.nt.length = l.length := by rw [← (zb2 hT).1, List.length_map]
 rw [zeA, hl, ← List.range_eq_range']
 unfold Region.ready
 rw [List.size_toArray]
 refine List.filter_congr fun i hi => ?_
 have hi' : i < l.length := List.mem_range.1 hi
 rw [R.bitT hi', Nat.sub_zero]
 congr 1
 rw [List.getElem?_toArray, List.getElem?_eq_getElem hi', Option.map_some, Option.getD_some]
 exact zeB hT R (List.getElem?_eq_getElem hi')
theorem zlF (hT : tabOk l z T = true) : ∀ (t : Ord) (c : Nat) (m : Nat) (listed : Array Bool) (rs : Option (List Nat)), Rep l.length listed m → (∀ r, rs = some r → ∀ x ∈ r, x < l.length) → okM l.length z T t c m rs = true → okT l.toArray z t c listed rs = true := by
 intro t
 induction t with
 | nil =>
  intro c m listed rs R hr h
  cases rs with
  | some r => simp [okM] at h
  | none =>
   simp only [okM, Bool.and_eq_true] at h
   simp only [okT, Bool.and_eq_true, beq_iff_eq]
   exact ⟨Nat.eq_of_beq_eq_true h.1, by rw [zf1 hT R]; exact h.2⟩
 | q i t ih =>
  intro c m listed rs R hr h
  cases rs with
  | some r => simp [okM] at h
  | none =>
   cases c with
   | zero => simp [okM] at h
   | succ c =>
    simp only [okM, Bool.and_eq_true] at h
    obtain ⟨⟨⟨⟨⟨⟨h1, h2⟩, h3⟩, h4⟩, h5⟩, h6⟩, h7⟩ := h
    have hi : i < l.length := Nat.lt_of_succ_le (Nat.le_of_ble_eq_true h1)
    simp only [okT, Bool.and_eq_true]
    obtain ⟨f1, f2, f3, f4, f5⟩ := zb2 hT
    refine ⟨⟨⟨⟨?_, ?_⟩, ?_⟩, ?_⟩, ih c _ _ none (R.set hi) (fun r e => by cases e) h7⟩
    ·rw [List.contains_iff_mem, mem_ready]
     refine ⟨by rw [R.bitT hi]; simpa using h2, l[i], by rw [List.getElem?_toArray, List.getElem?_eq_getElem hi], fun e he hb => ?_⟩
     have := zeB hT R (List.getElem?_eq_getElem hi)
     rw [h3, Array.all_eq_true_iff_forall_mem] at this
     have := this e he
     rw [hb] at this; simpa using this
    ·unfold Region.free
     rw [List.getElem?_toArray, List.getElem?_eq_getElem hi]
     simp only [List.all_eq_true, List.size_toArray, List.mem_range]
     intro j hj
     have hb : (T.ft.getD i 0 ||| m).testBit j = true := by
      rw [Nat.eq_of_beq_eq_true h4, Nat.testBit_two_pow_sub_one]; simpa using hj
     rw [Nat.testBit_or, ← f2, List.getD_eq_getElem?_getD, List.getElem?_map, List.getElem?_range hi] at hb
     simp only [Option.map_some, Option.getD_some, Wv, Bool.or_eq_true, decide_eq_true_eq, List.mem_filter, List.mem_range] at hb
     rw [R.bitT hj]
     rcases hb with ⟨_, hb⟩ | hb
     ·unfold freeB at hb
      rw [List.getElem?_toArray, List.getElem?_toArray, List.getElem?_eq_getElem hi] at hb
      rw [Bool.or_eq_true] at hb
      rcases hb with hb | hb
      ·simp [hb]
      ·rw [List.getElem?_toArray]
       rw [Bool.or_eq_true]; exact .inr hb
     ·simp [hb]
    ·unfold zah
     rw [List.all_eq_true] at h5 ⊢
     intro x hx
     have := h5 x hx
     rw [Bool.and_eq_true] at this ⊢
     exact ⟨this.1, zdN (by rw [List.size_toArray]; exact f5 x hx) (zkX f3 x (f5 x hx) i this.2)⟩
    ·unfold needC
     rw [List.all_eq_true]
     intro x hx
     rw [R.bitT (f5 x hx)]
     have h0 : (T.zm &&& m).testBit x = false := by rw [Nat.eq_of_beq_eq_true h6]; simp
     rw [Nat.testBit_and, ← f4, Wv, decide_eq_true hx] at h0
     simpa using h0
 | x i t alt iht ihalt =>
  intro c m listed rs R hr h
  have hlt : ∀ r ∈ Region.ready .any l.toArray listed, r < l.length := fun r hm => by
   obtain ⟨_, o, ho, _⟩ := mem_ready.1 hm
   have := (Array.getElem?_eq_some_iff.1 ho).1
   simpa using this
  cases c with
  | zero => cases rs <;> simp [okM] at h
  | succ c =>
   cases rs with
   | none =>
    simp only [okM] at h
    simp only [okT]
    have e := zf1 hT R
    rw [← e] at h
    cases hq : Region.ready .any l.toArray listed with
    | nil => rw [hq] at h; cases h
    | cons r rs =>
     rw [hq] at h
     simp only [Bool.and_eq_true] at h ⊢
     obtain ⟨⟨h1, h2⟩, h3⟩ := h
     have hri := Nat.eq_of_beq_eq_true h1
     subst hri
     exact ⟨⟨by simp, iht c _ _ none (R.set (hlt r (by rw [hq]; simp))) (fun _ e => by cases e) h2⟩, ihalt (c + 1) m listed (some rs) R (fun r' e x hx => hlt x (by rw [hq]; cases e; simp [hx])) h3⟩
   | some rr =>
    cases rr with
    | nil => simp [okM] at h
    | cons r rs =>
     simp only [okM, Bool.and_eq_true] at h
     simp only [okT, Bool.and_eq_true]
     obtain ⟨⟨h1, h2⟩, h3⟩ := h
     have hri := Nat.eq_of_beq_eq_true h1
     subst hri
     exact ⟨⟨by simp, iht c _ _ none (R.set (hr _ rfl r (by simp))) (fun _ e => by cases e) h2⟩, ihalt (c + 1) m listed (some rs) R (fun r' e x hx => hr _ rfl x (by cases e; simp [hx])) h3⟩
 | no =>
  intro c m listed rs R hr h
  cases rs with
  | none => cases c <;> simp [okM] at h
  | some r =>
   cases r with
   | nil => cases c <;> rfl
   | cons => cases c <;> simp [okM] at h
theorem rep0 (l : List Oper) : Rep l.length (Array.replicate l.length false) 0 := by
 refine ⟨by simp, fun i => ?_⟩
 simp [Array.getD_eq_getD_getElem?, Array.getElem?_replicate]
 split <;> rfl
end
section
variable {P : Program} {B : RO} {N : Nat} {ops : Array Oper} {k : List Item} {Φ : Lv → Env → Heap → Prop} {C : Heap → Prop} {z : List Nat}
def RunT (P : Program) (B : RO) (N : Nat) (ops : Array Oper) (k : List Item) (Φ : Lv → Env → Heap → Prop) (C : Heap → Prop) (z : List Nat) : Ord → Env → Heap → Prop
 | .nil, e, h => Run P B N k e h Φ
 | .q i t, e, h => ∃ o v, ops[i]? = some o ∧ YM P B N ops C o v e ∧ RunT P B N ops k Φ C z t (updO e o.dst v) h
 | .x i t alt, e, h => OpH P B N ops i (fun e' h' => (z.contains i = false → C h') ∧ RunT P B N ops k Φ C z t e' h') e h ∧ RunT P B N ops k Φ C z alt e h
 | .no, _, _ => True
theorem RunT.joinJ {t t0 : Ord} {e0 : Env} {h0 : Heap} (J : Env → Heap → Prop) (hj : ∀ e h, J e h → RunT P B N ops k Φ C z t e h) (hx : (∀ e h, J e h → RunT P B N ops k Φ C z t e h) → RunT P B N ops k Φ C z t0 e0 h0) : RunT P B N ops k Φ C z t0 e0 h0 := hx hj
theorem RunT.env {t : Ord} {l : List (Nat × Value)} {e : Env} {h : Heap} (ha : Agree l e) (hr : RunT P B N ops k Φ C z t (updL l e) h) : RunT P B N ops k Φ C z t e h := by rwa [zea ha] at hr
theorem RunT.any (hs : Region.noSelect ops = true) : ∀ (t : Ord),
  (∀ (n : Nat) (listed : Array Bool) (e : Env) (h : Heap), Xg ops listed → okT ops z t n listed none = true → (needC z listed = true → C h) → RunT P B N ops k Φ C z t e h → Yh P B N ops k Φ C z n listed e h) ∧
  (∀ (n : Nat) (listed : Array Bool) (rs : List Nat) (e : Env) (h : Heap), Xg ops listed → okT ops z t n listed (some rs) = true → (∀ j ∈ rs, j ∈ Region.ready .any ops listed) → RunT P B N ops k Φ C z t e h → ∀ j ∈ rs, OpH P B N ops j (Yh P B N ops k Φ C z (n - 1) (listed.setIfInBounds j true)) e h) := by
 have lateIn : ∀ {listed : Array Bool} {j : Nat}, j ∈ Region.ready .any ops listed → needC z (listed.setIfInBounds j true) = true → z.contains j = false := fun {listed j} hj' hn => by
  have hlt : j < listed.size := by
   have hun := (mem_ready.1 hj').1
   rcases Nat.lt_or_ge j listed.size with h' | h'
   ·exact h'
   ·simp [Array.getD, Nat.not_lt.2 h'] at hun
  cases hc : z.contains j with
  | false => rfl
  | true =>
   have hm : j ∈ z := by simpa using hc
   have := List.all_eq_true.1 hn j hm
   simp [Array.getD, hlt] at this
 intro t
 induction t with
 | nil =>
  refine ⟨fun n listed e h hcl hok hC hr => ?_, fun n listed rs e h hcl hok => by simp [okT] at hok⟩
  simp only [okT, Bool.and_eq_true, beq_iff_eq] at hok
  obtain ⟨rfl, h2⟩ := hok
  exact ⟨hC, by simpa using h2, hr⟩
 | no =>
  refine ⟨fun n listed e h hcl hok => by simp [okT] at hok, fun n listed rs e h hcl hok _ _ j hj => ?_⟩
  cases rs with
  | nil => cases hj
  | cons r rs => simp [okT] at hok
 | q i t ih =>
  refine ⟨fun n listed e h hcl hok hC hr => ?_, fun n listed rs e h hcl hok => by simp [okT] at hok⟩
  cases n with
  | zero => simp [okT] at hok
  | succ n =>
   simp only [okT, Bool.and_eq_true] at hok
   obtain ⟨⟨⟨⟨h1, h2⟩, h3⟩, h4⟩, h5⟩ := hok
   obtain ⟨o, v, ho, hy, hr⟩ := hr
   exact Yh.first ho (Region.noSelect_spec hs) h3 n listed e h hcl (Region.free_spec ho h2) (by simpa using h1) hy (hC h4) h4 (ih.1 _ _ _ _ (hcl.set (by simpa using h1)) h5 (fun _ => hC h4) hr)
 | x i t alt iht iha =>
  have one : ∀ {n : Nat} {listed : Array Bool} {e : Env} {h : Heap}, Xg ops listed → i ∈ Region.ready .any ops listed → okT ops z t n (listed.setIfInBounds i true) none = true →
    OpH P B N ops i (fun e' h' => (z.contains i = false → C h') ∧ RunT P B N ops k Φ C z t e' h') e h → OpH P B N ops i (Yh P B N ops k Φ C z n (listed.setIfInBounds i true)) e h := fun hcl hi hok ho =>
   ho.mono fun e' h' hh => iht.1 _ _ _ _ (hcl.set hi) hok (fun hn => hh.1 (lateIn hi hn)) hh.2
  refine ⟨fun n listed e h hcl hok hC hr => ?_, fun n listed rs e h hcl hok hrs hr j hj => ?_⟩
  ·cases n with
   | zero => simp [okT] at hok
   | succ n =>
    simp only [okT] at hok
    cases hrd : Region.ready .any ops listed with
    | nil => rw [hrd] at hok; cases hok
    | cons r rs =>
     rw [hrd] at hok
     simp only [Bool.and_eq_true, beq_iff_eq] at hok
     obtain ⟨⟨rfl, h2⟩, h3⟩ := hok
     have hmem : r ∈ Region.ready .any ops listed := by rw [hrd]; simp
     refine ⟨hC, fun h0 => (by rw [hrd] at h0; cases h0), fun j hj => ?_⟩
     rw [hrd] at hj
     rcases List.mem_cons.1 hj with rfl | hj
     ·exact one hcl hmem h2 hr.1
     ·exact iha.2 (n + 1) listed rs e h hcl h3 (fun j' hj' => by rw [hrd]; exact List.mem_cons_of_mem _ hj') hr.2 j hj
  ·cases n with
   | zero => cases rs <;> simp [okT] at hok
   | succ n =>
    cases rs with
    | nil => simp [okT] at hok
    | cons r rs =>
     simp only [okT, Bool.and_eq_true, beq_iff_eq] at hok
     obtain ⟨⟨rfl, h2⟩, h3⟩ := hok
     rcases List.mem_cons.1 hj with rfl | hj
     ·exact one hcl (hrs j (by simp)) h2 hr.1
     ·exact iha.2 (n + 1) listed rs e h hcl h3 (fun j' hj' => hrs j' (List.mem_cons_of_mem _ hj')) hr.2 j hj
theorem Run.drawT {id : Nat} {l : List Oper} {e : Env} {h : Heap} (C : Heap → Prop) (z : List Nat) (ord : Ord) (hm : P.follows .mixedOrders = true) (hs : (Region.noSelect l.toArray && okT l.toArray z ord l.length (Array.replicate l.length false) none) = true)
  (hC : C h) (hr : RunT P B N l.toArray k Φ C z ord e h) : Run P B N (.code (.region id l.toArray true) :: k) e h Φ := by
 simp only [Bool.and_eq_true] at hs
 refine Run.region_draw fun t => ?_
 simp only [Region.schedule, hm, Bool.true_or, if_true, Region.linearise]
 have := (RunT.any (C := C) (z := z) hs.1 ord).1 l.length (Array.replicate l.length false) e h (fun m om hm hl => by
  have hlt := (Array.getElem?_eq_some_iff.1 hm).1
  simp only [List.size_toArray] at hlt
  simp [Array.getD, hlt] at hl) hs.2 (fun _ => hC) hr
 simpa using Yh.sound l.length t _ e h this
theorem Run.drawM {id : Nat} {l : List Oper} {e : Env} {h : Heap} (C : Heap → Prop) (z : List Nat) (T : Tab) (ord : Ord) (hm : P.follows .mixedOrders = true) (hs : (Region.noSelect l.toArray && tabOk l z T && okM l.length z T ord l.length 0 none) = true)
  (hC : C h) (hr : RunT P B N l.toArray k Φ C z ord e h) : Run P B N (.code (.region id l.toArray true) :: k) e h Φ := by
 simp only [Bool.and_eq_true] at hs
 refine Run.drawT C z ord hm ?_ hC hr
 rw [Bool.and_eq_true]
 exact ⟨hs.1.1, zlF hs.1.2 ord _ _ _ none (rep0 l) (fun r e => by cases e) hs.2⟩
theorem RunT.quiet {i : Nat} {t : Ord} {o : Oper} {v : Value} {e : Env} {h : Heap} (ho : ops[i]? = some o) (hd : (dstOK N o && wl o) = true) (hw : Region.wanted o (xT ops e) = true) (hq : ∀ h', C h' → VB P B o e h' v) (hr : RunT P B N ops k Φ C z t (updO e o.dst v) h) : RunT P B N ops k Φ C z (.q i t) e h := by
 simp only [Bool.and_eq_true] at hd
 exact ⟨o, v, ho, ⟨hd.1, hd.2, .inl ⟨hw, hq⟩⟩, hr⟩
theorem RunT.skip {i : Nat} {t : Ord} {o : Oper} {e : Env} {h : Heap} (ho : ops[i]? = some o) (hd : (dstOK N o && wl o) = true) (hw : Region.wanted o (xT ops e) = false) (hr : RunT P B N ops k Φ C z t (updO e o.dst undef) h) : RunT P B N ops k Φ C z (.q i t) e h := by
 simp only [Bool.and_eq_true] at hd
 exact ⟨o, undef, ho, ⟨hd.1, hd.2, .inr ⟨hw, rfl⟩⟩, hr⟩
end
section
variable {P : Program} {B : RO} {h : Heap} {ρ : Operand → Value} {d : Option Nat} {ty : TypeId} {pos : String} {aft : Array Edge} {g : Option (Nat × Bool)} {K : Next → Heap → Prop}
theorem zeF {x : Operand} {t : TypeId} (a : Option Addr) (n c : Nat) (hx : ρ x = .slice a n c) (ht : slT P t = true) (k : K (.value (.int .i64 c)) h) : semH P B (execOp ρ ⟨d, .call ⟨.builtin .cap, #[x], #[t]⟩, ty, pos, aft, g⟩) h K := by
 unfold slT at ht
 split at ht
 ·rename_i e hu
  rw [Yt #[ρ x] (by simp)]
  show semH P B (do pure (.value (← Builtin.cap_ #[t] ty #[ρ x]))) h K
  rw [yb, hx]
  simp only [Builtin.cap_, List.getElem?_toArray, List.getElem?_cons_zero]
  rw [ya hu]
  exact k
 ·cases ht
end
abbrev LE := List (Nat × Value)
def lk : LE → Nat → Option Value
 | [], _ => none
 | (t, v) :: l, s => bif Nat.beq s t then some v else lk l s
theorem zcd {e : Env} {s : Nat} {v : Value} : ∀ {L : LE}, lk L s = some v → updL L e s = v := by
 intro L
 induction L with
 | nil => intro h; cases h
 | cons p L ih =>
  obtain ⟨t, u⟩ := p
  intro h
  simp only [lk] at h
  simp only [updL, upd]
  cases hb : Nat.beq s t with
  | true => rw [hb] at h; simpa using h
  | false => rw [hb] at h; simpa using ih h
def lkO (L : LE) : Operand → Option Value
 | .tmp t => lk L t
 | .const v => some v
 | .global g => some (.pointer (some ⟨g, 0, none⟩))
 | .func f => some (.func (.func f) #[] #[])
theorem yq {e : Env} {L : LE} {x : Operand} {v : Value} (h : lkO L x = some v) : evalE (updL L e) x = v := by
 cases x with
 | tmp t => exact zcd h
 | const u => exact Option.some.inj h
 | global g => exact Option.some.inj h
 | func f => exact Option.some.inj h
def putO (L : LE) (d : Option Nat) (v : Value) : LE := match d with
 | some d => (d, v) :: L
 | none => L
theorem zaL {e : Env} {L : LE} {d : Option Nat} {v : Value} : updL (putO L d v) e = updO (updL L e) d v := by cases d <;> rfl
def nthO {α : Type} : List α → Nat → Option α
 | [], _ => none
 | a :: _, 0 => some a
 | _ :: l, i + 1 => nthO l i
theorem zlE {α : Type} : ∀ (l : List α) (i : Nat), nthO l i = l[i]? := by
 intro l
 induction l with
 | nil => intro i; simp [nthO]
 | cons a l ih => intro i; cases i <;> simp [nthO, ih]
theorem WD {α : Type} {a : Array α} {i : Nat} : nthO a.toList i = a[i]? := by rw [zlE]; simp
def ikN : IntKind → Nat
 | .i8 => 0 | .i16 => 1 | .i32 => 2 | .i64 => 3 | .u8 => 4 | .u16 => 5 | .u32 => 6 | .u64 => 7
theorem zlx {a b : IntKind} (h : Nat.beq (ikN a) (ikN b) = true) : a = b := by
 cases a <;> cases b <;> first | rfl | (simp [ikN] at h)
abbrev FT := List (Nat × Nat × Nat)
def ftAt : FT → Nat → Nat → Option Nat
 | [], _, _ => none
 | (s, f, o) :: l, s', f' => bif Nat.beq s' s && Nat.beq f' f then some o else ftAt l s' f'
def FTok (P : Program) (ft : FT) : Prop := ∀ p ∈ ft, fldB P p.1 p.2.1 = some p.2.2
theorem zlw {P : Program} : ∀ {ft : FT} {s f o : Nat}, FTok P ft → ftAt ft s f = some o → fldB P s f = some o := by
 intro ft
 induction ft with
 | nil => intro s f o _ h; cases h
 | cons p ft ih =>
  obtain ⟨s', f', o'⟩ := p
  intro s f o hp h
  simp only [ftAt] at h
  cases hb : (Nat.beq s s' && Nat.beq f f') with
  | true =>
   rw [hb] at h
   simp only [Bool.and_eq_true] at hb
   have h1 := Nat.eq_of_beq_eq_true hb.1
   have h2 := Nat.eq_of_beq_eq_true hb.2
   subst h1 h2
   have := hp (s, f, o') (by simp)
   simpa [this] using h
  | false => rw [hb] at h; exact ih (fun q hq => hp q (by simp [hq])) h
def ftB (P : Program) : FT → Bool
 | [] => true
 | (s, f, o) :: l => match fldB P s f with
  | some o' => Nat.beq o' o && ftB P l
  | none => false
theorem zlZ {P : Program} : ∀ {ft : FT}, ftB P ft = true → FTok P ft := by
 intro ft
 induction ft with
 | nil => intro _ p hp; cases hp
 | cons q ft ih =>
  obtain ⟨s, f, o⟩ := q
  intro h p hp
  simp only [ftB] at h
  split at h
  ·rename_i o' ho
   simp only [Bool.and_eq_true] at h
   rcases List.mem_cons.1 hp with rfl | hp
   ·rw [ho, Nat.eq_of_beq_eq_true h.1]
   ·exact ih h.2 p hp
  ·cases h
def mapO (L : LE) : List Operand → Option (List Value)
 | [] => some []
 | x :: l => match lkO L x, mapO L l with
  | some v, some vs => some (v :: vs)
  | _, _ => none
theorem zbU {e : Env} {L : LE} : ∀ {l : List Operand} {vs : List Value}, mapO L l = some vs → l.map (evalE (updL L e)) = vs := by
 intro l
 induction l with
 | nil => intro vs h; simp [mapO] at h; subst h; rfl
 | cons x l ih =>
  intro vs h
  simp only [mapO] at h
  split at h
  ·rename_i v ws h1 h2
   simp only [Option.some.injEq] at h
   subst h
   simp [yq h1, ih h2]
  ·cases h
def pureV (ft : FT) (L : LE) : Op → Option Value
 | .move x => lkO L x
 | .assign x => lkO L x
 | .pick c x y => match lkO L c with
  | some (.bool true) => lkO L x
  | some (.bool false) => lkO L y
  | _ => none
 | .extract x i => match lkO L x with
  | some (.tuple vs) => nthO vs.toList i
  | _ => none
 | .unOp .not _ x => match lkO L x with
  | some (.bool b) => some (.bool (!b))
  | _ => none
 | .binOp op _ x y _ => match lkO L x, lkO L y with
  | some (.int k a), some (.int k' b) => bif Nat.beq (ikN k) (ikN k') then binI op k a b else none
  | _, _ => none
 | .fieldAddr s x f => match lkO L x with
  | some (.pointer (some A)) => match ftAt ft s f with
   | some off => some (.pointer (some (A.add off)))
   | none => none
  | _ => none
 | .nilCheck x => match lkO L x with
  | some (.pointer (some A)) => some (.pointer (some A))
  | some (.func (.func g) a b) => some (.func (.func g) a b)
  | _ => none
 | .makeFunc (.func g) a b => match mapO L a.toList, mapO L b.toList with
  | some vs, some ws => some (.func (.func g) vs.toArray ws.toArray)
  | _, _ => none
 | _ => none
theorem zez {P : Program} {B : RO} {ft : FT} (hft : FTok P ft) {L : LE} {e : Env} {o : Oper} {v : Value} {h : Heap} {K : Next → Heap → Prop} (hp : pureV ft L o.op = some v) (k : K (.value v) h) : semH P B (execOp (evalE (updL L e)) o) h K := by
 obtain ⟨d, op, ty, pos, aft, g⟩ := o
 simp only at hp
 unfold pureV at hp
 split at hp
 ·exact zk1 v (yq hp) k
 ·exact ziW v (yq hp) k
 ·split at hp
  ·rename_i hc; exact zgc true v (yq hc) ((if_pos rfl).trans (yq hp)) k
  ·rename_i hc; exact zgc false v (yq hc) ((if_neg Bool.false_ne_true).trans (yq hp)) k
  ·cases hp
 ·split at hp
  ·rename_i vs hx
   rw [WD] at hp
   exact zha vs v (yq hx) hp k
  ·cases hp
 ·split at hp
  ·rename_i b hx; cases hp; exact zlL b (yq hx) k
  ·cases hp
 ·split at hp
  ·rename_i k1 a k2 b hx hy
   cases hb : Nat.beq (ikN k1) (ikN k2) with
   | true =>
    rw [hb] at hp
    have := zlx hb
    subst this
    exact wg k1 a b v (yq hx) (yq hy) (by simpa using hp) k
   | false => rw [hb] at hp; cases hp
  ·cases hp
 ·split at hp
  ·rename_i A hx
   split at hp
   ·rename_i off ho
    cases hp
    exact zfc A off (yq hx) (zlw hft ho) k
   ·cases hp
  ·cases hp
 ·split at hp
  ·rename_i A hx; cases hp; exact zp A (yq hx) k
  ·rename_i g' a b hx; cases hp; exact zfd g' a b (yq hx) k
  ·cases hp
 ·split at hp
  ·rename_i g' a b vs ws ha hb
   cases hp
   have h1 := zbU (e := e) ha
   have h2 := zbU (e := e) hb
   exact zgb _ _ (Array.toList_inj.1 (by simp [h1])) (Array.toList_inj.1 (by simp [h2])) k
  ·cases hp
 ·cases hp
def okO (N : Nat) (o : Oper) : Bool := dstOK N o && wl o
def wantL (ops : List Oper) (L : LE) (o : Oper) : Option Bool := match o.guard with
 | none => some true
 | some (j, w) => match nthO ops j with
  | none => none
  | some oj => match oj.dst with
   | none => none
   | some d => match lk L d with
    | some (.bool true) => some w
    | some (.bool false) => some (bif w then false else true)
    | some (.tuple _) => some false
    | _ => none
theorem WI {ops : Array Oper} {L : LE} {e : Env} {o : Oper} {b : Bool} (h : wantL ops.toList L o = some b) : Region.wanted o (xT ops (updL L e)) = b := by
 unfold wantL at h
 unfold Region.wanted
 split at h
 ·rename_i hg; rw [hg]; simpa using h
 ·rename_i j w hg
  rw [hg]
  simp only
  split at h
  ·cases h
  ·rename_i oj hj
   rw [WD] at hj
   split at h
   ·cases h
   ·rename_i d hd
    have hb : (ops[j]?).bind (·.dst) = some d := by rw [hj]; exact hd
    unfold xT
    rw [hb]
    simp only
    split at h
    ·rename_i hl; rw [zcd hl]; cases w <;> simp_all
    ·rename_i hl; rw [zcd hl]; cases w <;> simp_all
    ·rename_i hl; rw [zcd hl]; cases w <;> simp_all
    ·cases h
def zdC (ft : FT) (N : Nat) (ops : List Oper) (i : Nat) (L : LE) : Option LE := match nthO ops i with
 | none => none
 | some o => match okO N o, wantL ops L o with
  | true, some true => match pureV ft L o.op with
   | some v => some (putO L o.dst v)
   | none => none
  | true, some false => some (putO L o.dst undef)
  | _, _ => none
def st1 (ft : FT) (N : Nat) (L : LE) : List Item → Option (List Item × LE)
 | .code .skip :: k => some (k, L)
 | .code (.label _) :: k => some (k, L)
 | .inBlock _ :: k => some (k, L)
 | .inScope _ :: k => some (k, L)
 | .code (.scope c) :: k => some (.code c :: .inScope c :: k, L)
 | .code (.seq x y) :: k => some (.code x :: .code y :: k, L)
 | .code (.block id c) :: k => some (.code c :: .inBlock id :: k, L)
 | .code (.exit id) :: k => match exitTo id k with
  | some k' => some (k', L)
  | none => none
 | .code (.cond c x y) :: k => match lkO L c with
  | some (.bool true) => some (.code x :: k, L)
  | some (.bool false) => some (.code y :: k, L)
  | _ => none
 | .code (.region _ ops false) :: k => some (.inRegion ops (List.range ops.size) :: k, L)
 | .inRegion _ [] :: k => some (k, L)
 | .inRegion ops (i :: r) :: k => match zdC ft N ops.toList i L with
  | some L' => some (.inRegion ops r :: k, L')
  | none => none
 | _ => none
def aut (ft : FT) (N : Nat) : Nat → List Item → LE → Option (List Item × LE)
 | 0, t, L => some (t, L)
 | n + 1, t, L => match st1 ft N L t with
  | some (t', L') => aut ft N n t' L'
  | none => none
def autT (ft : FT) (N : Nat) (ops : List Oper) : Nat → Ord → LE → Option (Ord × LE)
 | 0, t, L => some (t, L)
 | n + 1, .q i t, L => match zdC ft N ops i L with
  | some L' => autT ft N ops n t L'
  | none => none
 | _ + 1, _, _ => none
section
variable {P : Program} {B : RO} {N : Nat} {k : List Item} {e : Env} {h : Heap} {Φ : Lv → Env → Heap → Prop} {ft : FT}
theorem zlN (hft : FTok P ft) {t t' : List Item} {L L' : LE} (hs : st1 ft N L t = some (t', L')) (hr : Run P B N t' (updL L' e) h Φ) : Run P B N t (updL L e) h Φ := by
 unfold st1 at hs
 split at hs <;> try (cases hs; done)
 ·cases hs; exact hr.skip
 ·cases hs; exact hr.label
 ·cases hs; exact hr.inBlock
 ·cases hs; exact hr.inScope
 ·cases hs; exact hr.scope
 ·cases hs; exact hr.seq
 ·cases hs; exact hr.block
 ·split at hs
  ·rename_i k' hk; cases hs; exact hr.exit hk
  ·cases hs
 ·split at hs
  ·rename_i hc; cases hs; exact Run.condT (yq hc) hr
  ·rename_i hc; cases hs; exact Run.condF (yq hc) hr
  ·cases hs
 ·cases hs; exact hr.region
 ·cases hs; exact hr.region_end
 ·rename_i ops i r k0
  split at hs
  ·rename_i L1 hq
   cases hs
   unfold zdC at hq
   split at hq
   ·cases hq
   ·rename_i o ho
    rw [WD] at ho
    split at hq
    ·rename_i hok hw
     have hok' : (dstOK N o && wl o) = true := hok
     split at hq
     ·rename_i v hv
      cases hq
      refine Run.go ho hok' (WI hw) (zez hft hv ?_)
      show Run P B N _ (updO (updL L e) o.dst v) h Φ
      rw [← zaL]; exact hr
     ·cases hq
    ·rename_i hok hw
     cases hq
     have hok' : (dstOK N o && wl o) = true := hok
     refine Run.no ho hok' (WI hw) ?_
     rw [← zaL]; exact hr
    ·cases hq
  ·cases hs
theorem zlk (hft : FTok P ft) : ∀ (n : Nat) {t t' : List Item} {L L' : LE}, aut ft N n t L = some (t', L') → Run P B N t' (updL L' e) h Φ → Run P B N t (updL L e) h Φ := by
 intro n
 induction n with
 | zero => intro t t' L L' ha hr; simp only [aut, Option.some.injEq, Prod.mk.injEq] at ha; obtain ⟨rfl, rfl⟩ := ha; exact hr
 | succ n ih =>
  intro t t' L L' ha hr
  simp only [aut] at ha
  split at ha
  ·rename_i t1 L1 h1; exact zlN hft h1 (ih ha hr)
  ·cases ha
theorem zkx (hft : FTok P ft) {ops : Array Oper} {C : Heap → Prop} {z : List Nat} : ∀ (n : Nat) {t t' : Ord} {L L' : LE}, autT ft N ops.toList n t L = some (t', L') → RunT P B N ops k Φ C z t' (updL L' e) h → RunT P B N ops k Φ C z t (updL L e) h := by
 intro n
 induction n with
 | zero => intro t t' L L' ha hr; simp only [autT, Option.some.injEq, Prod.mk.injEq] at ha; obtain ⟨rfl, rfl⟩ := ha; exact hr
 | succ n ih =>
  intro t t' L L' ha hr
  unfold autT at ha
  split at ha
  ·rename_i heq; cases heq
  ·rename_i i t heq
   cases heq
   split at ha
   ·rename_i L1 hq
    unfold zdC at hq
    split at hq
    ·cases hq
    ·rename_i o ho
     rw [WD] at ho
     split at hq
     ·rename_i hok hw
      have hok' : (dstOK N o && wl o) = true := hok
      split at hq
      ·rename_i v hv
       cases hq
       refine RunT.quiet (v := v) ho hok' (WI hw) (fun h' hC => zez hft hv ⟨rfl, rfl⟩) ?_
       rw [← zaL]; exact ih ha hr
      ·cases hq
     ·rename_i hok hw
      cases hq
      have hok' : (dstOK N o && wl o) = true := hok
      refine RunT.skip ho hok' (WI hw) ?_
      rw [← zaL]; exact ih ha hr
     ·cases hq
   ·cases ha
  ·cases ha
def at1 (N : Nat) (ops : List Oper) (i : Nat) (L : LE) : Option Oper := match nthO ops i with
 | none => none
 | some o => match okO N o, wantL ops L o with
  | true, some true => some o
  | _, _ => none
theorem zbQ {ops : Array Oper} {i : Nat} {L : LE} {o : Oper} (h : at1 N ops.toList i L = some o) : ops[i]? = some o ∧ (dstOK N o && wl o) = true ∧ Region.wanted o (xT ops (updL L e)) = true := by
 unfold at1 at h
 split at h
 ·cases h
 ·rename_i o' ho
  rw [WD] at ho
  split at h
  ·rename_i hok hw
   cases h
   exact ⟨ho, hok, WI hw⟩
  ·cases h
variable {ops : Array Oper} {i : Nat} {idx : List Nat} {L : LE} {d : Nat} {op : Op} {ty : TypeId} {pos : String} {aft : Array Edge} {g : Option (Nat × Bool)}
theorem zg (ho : at1 N ops.toList i L = some ⟨some d, op, ty, pos, aft, g⟩) (hs : semH P B (execOp (evalE (updL L e)) ⟨some d, op, ty, pos, aft, g⟩) h (fun nx h' => After P B nx h' (fun v h'' => Run P B N (.inRegion ops idx :: k) (updL ((d, v) :: L) e) h'' Φ))) :
  Run P B N (.inRegion ops (i :: idx) :: k) (updL L e) h Φ := by
 obtain ⟨h1, h2, h3⟩ := zbQ (e := e) ho
 exact Run.go h1 h2 h3 hs
theorem zg0 (ho : at1 N ops.toList i L = some ⟨none, op, ty, pos, aft, g⟩) (hs : semH P B (execOp (evalE (updL L e)) ⟨none, op, ty, pos, aft, g⟩) h (fun nx h' => After P B nx h' (fun v h'' => Run P B N (.inRegion ops idx :: k) (updL L e) h'' Φ))) :
  Run P B N (.inRegion ops (i :: idx) :: k) (updL L e) h Φ := by
 obtain ⟨h1, h2, h3⟩ := zbQ (e := e) ho
 exact Run.go h1 h2 h3 hs
theorem zo {K : Env → Heap → Prop} (ho : at1 N ops.toList i L = some ⟨some d, op, ty, pos, aft, g⟩) (hs : semH P B (execOp (evalE (updL L e)) ⟨some d, op, ty, pos, aft, g⟩) h (fun nx h' => After P B nx h' (fun v h'' => K (updL ((d, v) :: L) e) h''))) : OpH P B N ops i K (updL L e) h := by
 obtain ⟨h1, h2, h3⟩ := zbQ (e := e) ho
 exact OpH.go h1 h2 h3 hs
theorem zo0 {K : Env → Heap → Prop} (ho : at1 N ops.toList i L = some ⟨none, op, ty, pos, aft, g⟩) (hs : semH P B (execOp (evalE (updL L e)) ⟨none, op, ty, pos, aft, g⟩) h (fun nx h' => After P B nx h' (fun v h'' => K (updL L e) h''))) : OpH P B N ops i K (updL L e) h := by
 obtain ⟨h1, h2, h3⟩ := zbQ (e := e) ho
 exact OpH.go h1 h2 h3 hs
def no1 (N : Nat) (ops : List Oper) (i : Nat) (L : LE) : Option LE := match nthO ops i with
 | none => none
 | some o => match okO N o, wantL ops L o with
  | true, some false => some (putO L o.dst undef)
  | _, _ => none
theorem zon {K : Env → Heap → Prop} {L' : LE} (ho : no1 N ops.toList i L = some L') (hs : K (updL L' e) h) : OpH P B N ops i K (updL L e) h := by
 unfold no1 at ho
 split at ho
 ·cases ho
 ·rename_i o h1
  rw [WD] at h1
  split at ho
  ·rename_i hok hw
   cases ho
   refine OpH.no h1 hok (WI hw) ?_
   rw [← zaL]; exact hs
  ·cases ho
theorem zq {C : Heap → Prop} {z : List Nat} {t : Ord} {v : Value} (ho : at1 N ops.toList i L = some ⟨some d, op, ty, pos, aft, g⟩) (hq : ∀ h', C h' → VB P B ⟨some d, op, ty, pos, aft, g⟩ (updL L e) h' v) (hr : RunT P B N ops k Φ C z t (updL ((d, v) :: L) e) h) :
  RunT P B N ops k Φ C z (.q i t) (updL L e) h := by
 obtain ⟨h1, h2, h3⟩ := zbQ (e := e) ho
 exact RunT.quiet h1 h2 h3 hq hr
theorem zqe {z : List Nat} {t : Ord} {v : Value} {h0 : Heap} (ho : at1 N ops.toList i L = some ⟨some d, op, ty, pos, aft, g⟩) (hq : VB P B ⟨some d, op, ty, pos, aft, g⟩ (updL L e) h0 v) (hr : RunT P B N ops k Φ (fun h' => h' = h0) z t (updL ((d, v) :: L) e) h) :
  RunT P B N ops k Φ (fun h' => h' = h0) z (.q i t) (updL L e) h := zq ho (fun _ e => e ▸ hq) hr
def argO : Nat → List Value → LE → Option LE
 | _, [], acc => some acc
 | n, v :: l, acc => argO (n + 1) l ((n, v) :: acc)
theorem Agree.argO {e : Env} : ∀ (l : List Value) (n : Nat) (acc L : LE), (∀ i v, l[i]? = some v → e (n + i) = v) → Agree acc e → argO n l acc = some L → Agree L e := by
 intro l
 induction l with
 | nil => intro n acc L _ ha h; simp only [H.argO, Option.some.injEq] at h; subst h; exact ha
 | cons v l ih =>
  intro n acc L he ha h
  exact ih (n + 1) ((n, v) :: acc) L (fun i u hu => by have := he (i + 1) u (by simpa using hu); rw [← this]; congr 1; omega) ⟨by simpa using he 0 v (by simp), ha⟩ h
theorem zspec {f : FuncId} {c : Code} {l : List Value} {L : LE} {Post : Value → Heap → Prop} {fn : Func} (hf : P.funcs[f]? = some fn) (rs : List ResultVar) (hc : fn.body = some c) (hrs : fn.results = rs.toArray) (hN : fn.ntmps = N) (hn : Nat.ble l.length N = true) (hL : argO 0 l [] = some L)
  (hr : Run P B N [.code c] (updL L (env0 l.toArray)) h (fun j e h' => (j = .fall ∨ j = .ret) ∧ resH P B h' e rs (fun vs => Fin B h' (Post (pack vs))))) :
  Spec P B f l.toArray h Post := by
 refine Spec.of_run hf hc hrs hN (Nat.le_of_ble_eq_true (by simpa using hn)) ?_
 rwa [zea] at hr
 refine Agree.argO l 0 [] L (fun i v hv => ?_) trivial hL
 simp [env0, Array.getD_eq_getD_getElem?, hv]
def argP : List (Nat × Value) → LE → Option LE
 | [], L => some L
 | (t, v) :: l, L => argP l ((t, v) :: L)
theorem zli {e : Env} : ∀ (l : List (Nat × Value)) (L L' : LE), argP l L = some L' → putE (updL L e) l = updL L' e := by
 intro l
 induction l with
 | nil => intro L L' h; simp only [argP, Option.some.injEq] at h; subst h; rfl
 | cons p l ih => obtain ⟨t, v⟩ := p; intro L L' h; exact ih ((t, v) :: L) L' h
theorem zput {todo : List Item} {l : List (Nat × Value)} {L L' : LE} (ha : argP l L = some L') (hr : Run P B N todo (updL L' e) h Φ) : Run P B N todo (putE (updL L e) l) h Φ := by rwa [zli l L L' ha]
theorem zr {X : Env → Heap → Prop} (hr : X e h) : Run P B N (.code .ret :: k) e h (fun j e h => (j = .fall ∨ j = .ret) ∧ X e h) := Run.ret ⟨.inr rfl, hr⟩
theorem zf {X : Env → Heap → Prop} (hr : X e h) : Run P B N [] e h (fun j e h => (j = .fall ∨ j = .ret) ∧ X e h) := Run.fall ⟨.inl rfl, hr⟩
variable {α : Type} {f : α → Value} {A : Addr} {t : TypeId} {x : Operand}
theorem zl {K : α → Prop} (s : ∃ x : α, cellH B h A = some (f x) ∧ K x) (ho : at1 N ops.toList i L = some ⟨some d, .load t x, ty, pos, aft, g⟩) (hx : lkO L x = some (.pointer (some A))) (ht : aggB P t = some false)
  (hr : ∀ x, K x → Run P B N (.inRegion ops idx :: k) (updL ((d, f x) :: L) e) h Φ) : Run P B N (.inRegion ops (i :: idx) :: k) (updL L e) h Φ := by
 obtain ⟨y, hl, hK⟩ := s
 exact zg ho (zh A (f y) (yq hx) ht hl (hr y hK))
theorem zn {vs : List Value} {n : Nat} (hl : za B h A 0 vs) (ho : at1 N ops.toList i L = some ⟨some d, .load t x, ty, pos, aft, g⟩) (hx : lkO L x = some (.pointer (some A))) (ht : aggB P t = some true) (hn : szB P t = some n) (hv : vs.length = n)
  (hr : Run P B N (.inRegion ops idx :: k) (updL ((d, .agg vs.toArray) :: L) e) h Φ) : Run P B N (.inRegion ops (i :: idx) :: k) (updL L e) h Φ :=
 zg ho (z0 A vs (yq hx) ht (hn.trans (congrArg some hv.symm)) hl hr)
theorem zs1 {y : Operand} {v : Value} {K : Heap → Prop} (s : ∃ h' : Heap, ym h A v = some h' ∧ K h') (ho : at1 N ops.toList i L = some ⟨none, .store t x y, ty, pos, aft, g⟩) (hx : lkO L x = some (.pointer (some A))) (hy : lkO L y = some v) (h1 : isOne v = true) (hn : szB P t = some 1)
  (hr : ∀ h', K h' → Run P B N (.inRegion ops idx :: k) (updL L e) h' Φ) : Run P B N (.inRegion ops (i :: idx) :: k) (updL L e) h Φ := by
 obtain ⟨h', hl, hK⟩ := s
 exact zg0 ho (v8 A v h' (yq hx) (yq hy) h1 hn hl (hr h' hK))
theorem zsn {y : Operand} {vs : List Value} {n : Nat} {K : Heap → Prop} (s : ∃ h' : Heap, zi A h 0 vs h' ∧ K h') (ho : at1 N ops.toList i L = some ⟨none, .store t x y, ty, pos, aft, g⟩) (hx : lkO L x = some (.pointer (some A))) (hy : lkO L y = some (.agg vs.toArray)) (hn : szB P t = some n) (hv : vs.length = n)
  (hr : ∀ h', K h' → Run P B N (.inRegion ops idx :: k) (updL L e) h' Φ) : Run P B N (.inRegion ops (i :: idx) :: k) (updL L e) h Φ := by
 obtain ⟨h', hl, hK⟩ := s
 exact zg0 ho (y7 A vs h' (yq hx) (yq hy) (hn.trans (congrArg some hv.symm)) hl (hr h' hK))
theorem zcall {f : FuncId} {args : List Operand} {tys : Array TypeId} {vs : List Value} {Q : Value → Heap → Prop} (s : Spec P B f vs.toArray h Q) (ho : at1 N ops.toList i L = some ⟨some d, .call ⟨.value (.func f), args.toArray, tys⟩, ty, pos, aft, g⟩) (ha : mapO L args = some vs) (hg : Goes P f)
  (hr : ∀ v h', Q v h' → Run P B N (.inRegion ops idx :: k) (updL ((d, v) :: L) e) h' Φ) : Run P B N (.inRegion ops (i :: idx) :: k) (updL L e) h Φ :=
 zg ho (zA vs hg rfl (zbU ha) (Spec.mono s fun v h' hv => hr v h' hv))
theorem znil {p : Option Addr} {K : Addr → Prop} (s : ∃ A : Addr, p = some A ∧ K A) (ho : at1 N ops.toList i L = some ⟨some d, .nilCheck x, ty, pos, aft, g⟩) (hx : lkO L x = some (.pointer p))
  (hr : ∀ A, K A → Run P B N (.inRegion ops idx :: k) (updL ((d, .pointer (some A)) :: L) e) h Φ) : Run P B N (.inRegion ops (i :: idx) :: k) (updL L e) h Φ := by
 obtain ⟨A, hp, hK⟩ := s
 exact zg ho (zp A ((yq hx).trans (congrArg Value.pointer hp)) (hr A hK))
theorem zal {K : Nat → Heap → Prop} {zs : List Value} {o : AObj} (s : ∀ b : Nat, h b = none → B b = none → ∀ h' : Heap, h' = h.set b o → K b h') (ho : at1 N ops.toList i L = some ⟨some d, .alloc t, ty, pos, aft, g⟩) (hz : zeroB P t = some zs) (hv : o = .vec t (zc zs) zs.length)
  (hr : ∀ b h', K b h' → Run P B N (.inRegion ops idx :: k) (updL ((d, .pointer (some ⟨b, 0, none⟩)) :: L) e) h' Φ) : Run P B N (.inRegion ops (i :: idx) :: k) (updL L e) h Φ := by
 subst hv
 exact zg ho (zeE zs hz fun b h1 h2 => hr b _ (s b h1 h2 _ rfl))
theorem zb1 {K : Nat → Heap → Prop} {v : Value} {o : AObj} (s : ∀ b : Nat, h b = none → B b = none → ∀ h' : Heap, h' = h.set b o → K b h') (ho : at1 N ops.toList i L = some ⟨some d, .box t x, ty, pos, aft, g⟩) (hx : lkO L x = some v) (h1 : isOne v = true) (hv : o = .vec t [.plain v] 1)
  (hr : ∀ b h', K b h' → Run P B N (.inRegion ops idx :: k) (updL ((d, .pointer (some ⟨b, 0, none⟩)) :: L) e) h' Φ) : Run P B N (.inRegion ops (i :: idx) :: k) (updL L e) h Φ := by
 subst hv
 exact zg ho (zkZ v (yq hx) h1 fun b h1 h2 => hr b _ (s b h1 h2 _ rfl))
theorem zbn {K : Nat → Heap → Prop} {vs : List Value} {o : AObj} (s : ∀ b : Nat, h b = none → B b = none → ∀ h' : Heap, h' = h.set b o → K b h') (ho : at1 N ops.toList i L = some ⟨some d, .box t x, ty, pos, aft, g⟩) (hx : lkO L x = some (.agg vs.toArray)) (hv : o = .vec t (zc vs) vs.length)
  (hr : ∀ b h', K b h' → Run P B N (.inRegion ops idx :: k) (updL ((d, .pointer (some ⟨b, 0, none⟩)) :: L) e) h' Φ) : Run P B N (.inRegion ops (i :: idx) :: k) (updL L e) h Φ := by
 subst hv
 exact zg ho (zf9 vs (yq hx) fun b h1 h2 => hr b _ (s b h1 h2 _ rfl))
theorem zt {p S1 S2 : Prop} {w : BinOp} {t' : TypeId} {y : Operand} {kk : IntKind} {a b : Int} (s : (p → S1) ∧ (¬ p → S2)) (ho : at1 N ops.toList i L = some ⟨some d, .binOp w t x y t', ty, pos, aft, g⟩) (hx : lkO L x = some (.int kk a)) (hy : lkO L y = some (.int kk b))
  (hT : p → binI w kk a b = some (.bool true)) (hF : ¬ p → binI w kk a b = some (.bool false))
  (h1 : S1 → Run P B N (.inRegion ops idx :: k) (updL ((d, .bool true) :: L) e) h Φ) (h2 : S2 → Run P B N (.inRegion ops idx :: k) (updL ((d, .bool false) :: L) e) h Φ) : Run P B N (.inRegion ops (i :: idx) :: k) (updL L e) h Φ := by
 by_cases hp : p
 ·exact zg ho (wg kk a b _ (yq hx) (yq hy) (hT hp) (h1 (s.1 hp)))
 ·exact zg ho (wg kk a b _ (yq hx) (yq hy) (hF hp) (h2 (s.2 hp)))
theorem zu {p S1 S2 : Prop} {w : BinOp} {t' : TypeId} {y : Operand} {kk : IntKind} {a b : Int} (s : (p → S1) ∧ (¬ p → S2)) (ho : at1 N ops.toList i L = some ⟨some d, .binOp w t x y t', ty, pos, aft, g⟩) (hx : lkO L x = some (.int kk a)) (hy : lkO L y = some (.int kk b))
  (hT : p → binI w kk a b = some (.bool false)) (hF : ¬ p → binI w kk a b = some (.bool true))
  (h1 : S1 → Run P B N (.inRegion ops idx :: k) (updL ((d, .bool false) :: L) e) h Φ) (h2 : S2 → Run P B N (.inRegion ops idx :: k) (updL ((d, .bool true) :: L) e) h Φ) : Run P B N (.inRegion ops (i :: idx) :: k) (updL L e) h Φ := by
 by_cases hp : p
 ·exact zg ho (wg kk a b _ (yq hx) (yq hy) (hT hp) (h1 (s.1 hp)))
 ·exact zg ho (wg kk a b _ (yq hx) (yq hy) (hF hp) (h2 (s.2 hp)))
end
section
variable {P : Program} {B : RO} {h : Heap} {ρ : Operand → Value} {d : Option Nat} {ty : TypeId} {pos : String} {aft : Array Edge} {g : Option (Nat × Bool)} {K : Next → Heap → Prop}
theorem zd3 : ∀ (l cs : List Value) (off : Nat), off + l.length ≤ cs.length → putL cs off l = cs.take off ++ l ++ cs.drop (off + l.length) := by
 intro l
 induction l with
 | nil => intro cs off _; simp [putL]
 | cons c r ih =>
  intro cs off h
  simp only [List.length_cons] at h
  rw [putL, ih _ _ (by rw [List.length_set]; omega), List.take_set, List.take_succ_eq_append_getElem (by omega : off < cs.length), List.set_append_right _ _ (by rw [List.length_take]; omega), List.length_take, Nat.min_eq_left (by omega), Nat.sub_self, List.set_cons_zero, List.drop_set_of_lt (by omega)]
  simp only [List.length_cons, List.append_assoc, List.cons_append, List.nil_append]
  rw [show off + 1 + r.length = off + (r.length + 1) by omega]
theorem zbe {place : Nat → Option (Nat × Nat)} {cs l : List Value} {i off size : Nat} {rest : List (Nat × Value)} (hp : place i = some (off, size)) (hl : l.length = size) (hle : off + size ≤ cs.length) : fillL place cs ((i, .agg l.toArray) :: rest) = fillL place (putL cs off l) rest := by
 have e : (Value.agg l.toArray).cells.toList = l := rfl
 conv => lhs; unfold fillL
 rw [hp]
 simp only [e]
 rw [if_neg (by rw [hl]; simp; omega)]
theorem zg9 {t : TypeId} {parts : List (Nat × Operand)} {zs : List Value} {pl : List (Nat × Nat)} {n1 n2 : Nat} (l1 l2 z3 : List Value) (hz : zeroB P t = some zs) (hp : yo P t = some pl) (hv : parts.map (fun p => (p.1, ρ p.2)) = [(0, .agg l1.toArray), (1, .agg l2.toArray)])
  (h1 : l1.length = n1) (h2 : l2.length = n2) (hpl : pl.take 2 = [(0, n1), (n1, n2)]) (hd : zs.drop (n1 + n2) = z3) (hle : Nat.ble (n1 + n2) zs.length = true) (k : K (.value (.agg (l1 ++ l2 ++ z3).toArray)) h) : semH P B (execOp ρ ⟨d, .build t parts.toArray, ty, pos, aft, g⟩) h K := by
 have hle := Nat.le_of_ble_eq_true hle
 have p0 : pl[0]? = some (0, n1) := by have := congrArg (·[0]?) hpl; simpa [List.getElem?_take] using this
 have p1 : pl[1]? = some (n1, n2) := by have := congrArg (·[1]?) hpl; simpa [List.getElem?_take] using this
 refine zH _ (l1 ++ l2 ++ z3) hz hp hv ?_ k
 have e1 : putL zs 0 l1 = l1 ++ zs.drop n1 := by rw [zd3 _ _ _ (by omega), h1]; simp
 have e2 : putL (l1 ++ zs.drop n1) n1 l2 = l1 ++ l2 ++ z3 := by
  have hl : (l1 ++ zs.drop n1).length = zs.length := by rw [List.length_append, List.length_drop]; omega
  rw [zd3 _ _ _ (by rw [hl]; omega), ← h1, List.take_left, h1, h2, List.drop_append, h1, List.drop_of_length_le (by omega), List.nil_append, List.drop_drop, show n1 + (n1 + n2 - n1) = n1 + n2 by omega, hd]
 rw [zbe (place := fun i => pl[i]?) p0 h1 (by omega), e1, zbe (place := fun i => pl[i]?) p1 h2 (by rw [List.length_append, List.length_drop]; omega), e2]
 rfl
theorem zak {t : TypeId} {parts : List (Nat × Operand)} {zs : List Value} {te sz bz : Nat} (l : List Value) (ht : slcB P t = some (te, sz, bz)) (hz : zeroB P te = some zs) (hzl : zs.length = sz) (hl : l.length = sz) (h1 : 1 * sz ≤ 16777216) (h2 : 1 * sz ≠ 0) (hv : parts.map (fun p => (p.1, ρ p.2)) = [(0, .agg l.toArray)])
  (k : ∀ b, h b = none → B b = none → ∀ h', h' = h.set b (.vec te (zc l) sz) → K (.value (.slice (some ⟨b, 0, none⟩) 1 1)) h') : semH P B (execOp ρ ⟨d, .buildSlice t 1 parts.toArray, ty, pos, aft, g⟩) h K := by
 refine yh _ l ht hz hzl h1 h2 hv ?_ (by rw [hl]; exact k)
 have e1 : (List.replicate 1 zs).flatten = zs := by simp
 rw [e1, zbe (place := fun i => some (i * sz, sz)) (off := 0) (by simp) hl (by omega), zd3 _ _ _ (by omega)]
 simp only [fillL, List.take_zero, List.nil_append, Nat.zero_add]
 rw [List.drop_of_length_le (by omega), List.append_nil]
theorem ziZ {t : TypeId} {x : Operand} {f off n : Nat} (l : List Value) (v : Value) (hx : ρ x = .agg l.toArray) (ht : partB P t f = some (off, n, false)) (hv : l[off]? = some v) (k : K (.value v) h) : semH P B (execOp ρ ⟨d, .field t x f, ty, pos, aft, g⟩) h K :=
 zeG l.toArray v hx ht (by simpa using hv) k
end
section
variable {P : Program} {B : RO} {h0 h h' : Heap} {L : List (Option (Nat × AObj))} {r : Option (Nat × AObj)} {e : TypeId} {sz : Nat} {xs : List Value} {α : Type} {cells : α → List Value} {l : List α} {a : Option Addr} {m c : Nat}
theorem Row.src (R : Row r (.slice a m c) e sz (l.flatMap cells)) (hr : ∀ k o, r = some (k, o) → h k = some o) (hc : ∀ x, (cells x).length = sz) (h0 : 0 < sz) (ho : ∀ x, ∀ y ∈ cells x, isOne y = true) : Src B h (.slice a m c) sz m (l.flatMap cells) := by
 obtain ⟨rfl, hrd⟩ := R.rd (B := B) hc h0
 exact (hrd h hr).src hc ho
theorem Keep.pushS (E : Keep B h0 L h) (q : Nat) {t tx : TypeId} {bz n : Nat} {zs ys : List Value} {x : Value} (hq : L[q]? = some r) (R : Row r (.slice a m c) e sz xs) (ht : slcB P t = some (e, sz, bz)) (hz : zeroB P e = some zs) (hzs : zs.length = sz) (hsz : 0 < sz) (hbz : 0 < bz) (hst : slT P tx = true)
  (hx : Src B h x sz n ys) (hb : (xs.length + ys.length) * bz ≤ 1099511627776) {K : Value → Heap → Prop}
  (hK : ∀ a' m' c' r' h'', Row r' (.slice a' m' c') e sz (xs ++ ys) → Keep B h0 (L.set q r') h'' → K (.slice a' m' c') h'') {ty : TypeId} : semH P B (Builtin.append_ #[t, tx] ty #[.slice a m c, x]) h K := by
 have tf := zeH hst
 refine zax (n := n) (ys := ys) ht hz hzs hsz hbz tf.1 tf.2 (E.sl q hq R) hx hb ?_
 intro v' h'' ap
 obtain ⟨r', R', E'⟩ := E.appd q hq R ap
 obtain ⟨a', m', c', rfl⟩ := R'.slice
 exact hK _ _ _ _ _ R' E'
theorem Row.cut (R : Row r (.slice a m c) e sz xs) {n : Nat} (hn : n ≤ m) : Row r (.slice a n c) e sz (xs.take (n * sz)) := by
 rcases R with ⟨e0, e1, e2⟩ | ⟨k, m', c', nn, js, e0, e1, e3, e4, e5⟩
 ·cases e1
  have : n = 0 := by omega
  subst this
  exact .inl ⟨e0, rfl, by rw [e2]; simp⟩
 ·cases e1
  have h1 : n * sz ≤ m * sz := Nat.mul_le_mul_right _ hn
  refine .inr ⟨k, n, c, nn, xs.drop (n * sz) ++ js, ?_, rfl, by rw [List.length_take]; omega, by omega, e5⟩
  rw [← List.append_assoc, List.take_append_drop]; exact e0
end
theorem Xa {α : Type} {cells : α → List Value} (x : α) : ∀ (l : List α) (i : Nat) (hi : i < l.length), (l.set i x).flatMap cells = (l.take i).flatMap cells ++ cells x ++ (l.drop (i + 1)).flatMap cells
 | [], i, hi => by simp at hi
 | y :: l, 0, _ => by simp
 | y :: l, i + 1, hi => by
  simp only [List.set_cons_succ, List.flatMap_cons, List.take_succ_cons, List.drop_succ_cons]
  rw [Xa x l i (by simpa using hi)]
  simp [List.append_assoc]
theorem Xk {α : Type} {cells : α → List Value} (l : List α) (i : Nat) (hi : i < l.length) : l.flatMap cells = (l.take i).flatMap cells ++ (cells l[i] ++ (l.drop (i + 1)).flatMap cells) := by
 conv => lhs; rw [← List.take_append_drop i l, List.drop_eq_getElem_cons hi]
 rw [List.flatMap_append, List.flatMap_cons]
section
variable {P : Program} {B : RO} {h0 h h' : Heap} {L : List (Option (Nat × AObj))} {r : Option (Nat × AObj)} {e : TypeId} {sz : Nat} {α : Type} {cells : α → List Value} {l : List α} {a : Option Addr} {m c : Nat}
theorem Keep.rowSet (E : Keep B h0 L h) (q : Nat) (hq : L[q]? = some r) (R : Row r (.slice a m c) e sz (l.flatMap cells)) (hc : ∀ x, (cells x).length = sz) (hsz : 0 < sz) (i : Nat) (hi : i < l.length) (x : α) (ho : ∀ y ∈ cells x, isOne y = true) :
  ∃ A h' r', a = some A ∧ zi (A.add (i * sz)) h 0 (cells x) h' ∧ Row r' (.slice a m c) e sz ((l.set i x).flatMap cells) ∧ Keep B h0 (L.set q r') h' := by
 have hfl := zI hc l
 rcases R with ⟨_, _, e2⟩ | ⟨k, m', c', nn, js, rfl, e1, e3, e4, e5⟩
 ·rw [e2] at hfl
  have : l.length * sz = 0 := hfl.symm
  rcases Nat.mul_eq_zero.1 this with h | h <;> omega
 ·cases e1
  have hb := E.at q hq
  have hlen := zI hc (l.take i)
  rw [List.length_take, Nat.min_eq_left (by omega)] at hlen
  have hbb := hb
  rw [Xk l i hi, List.append_assoc, List.append_assoc] at hbb
  have htot : l.length * sz ≤ nn := by
   have : m * sz ≤ c * sz := Nat.mul_le_mul_right _ e4
   omega
  have hii : i * sz + sz ≤ l.length * sz := by
   have : (i + 1) * sz ≤ l.length * sz := Nat.mul_le_mul_right _ hi
   rw [Nat.add_mul, Nat.one_mul] at this; exact this
  obtain ⟨h2, s1, _, s3⟩ := zi.over (cells x) h (i * sz) 0 _ _ ho hbb (by rw [hlen]; omega) (by rw [hc]; omega)
  have hne : cells x ≠ [] := fun e0 => by have := hc x; rw [e0] at this; simp at this; omega
  have s3 := s3 hne
  have hdrop : (cells l[i] ++ ((l.drop (i + 1)).flatMap cells ++ js)).drop (cells x).length = (l.drop (i + 1)).flatMap cells ++ js := by
   rw [hc, ← hc l[i], List.drop_left]
  rw [hdrop, ← List.append_assoc, ← Xa (cells := cells) x l i hi] at s3
  have hset : ((l.set i x).flatMap cells).length = (l.flatMap cells).length := by
   rw [zI hc, zI hc, List.length_set]
  have E2 := E.put (o' := .vec e (zc ((l.set i x).flatMap cells ++ js)) nn) q hq
  rw [← s3] at E2
  refine ⟨_, h2, _, rfl, ?_, .inr ⟨k, m, c, nn, js, rfl, rfl, by rw [hset]; exact e3, e4, e5⟩, E2⟩
  rw [z8, Nat.zero_add]; exact s1
end
theorem w64 {n : Int} (h : -9223372036854775808 ≤ n) (h' : n ≤ 9223372036854775807) : IntKind.wrap .i64 n = n := IntWalk.i64_in n ⟨h, h'⟩
theorem wu64 (n : Int) : IntKind.wrap .u64 n = n % 18446744073709551616 := by simp [IntKind.wrap, IntKind.bits, IntKind.signed]
theorem wu8 (n : Int) : IntKind.wrap .u8 n = n % 256 := IntKind.wrap_u8 n
def natB (n : Nat) : List UInt8 := if n < 128 then [UInt8.ofNat n] else UInt8.ofNat (n % 128 + 128) :: natB (n / 128)
termination_by n
decreasing_by omega
theorem zlB {n : Nat} (h : n < 128) : natB n = [UInt8.ofNat n] := by rw [natB, if_pos h]
theorem zlA {n : Nat} (h : ¬ n < 128) : natB n = UInt8.ofNat (n % 128 + 128) :: natB (n / 128) := by rw [natB, if_neg h]
theorem zkP (n : Nat) : 0 < (natB n).length := by
 rw [natB]; split <;> simp
def natI (i : Int) : List UInt8 := if i < 0 then [] else natB i.toNat
def zig (i : Int) : Nat := if i < 0 then (-2 * i - 1).toNat else (2 * i).toNat
theorem two1 : (2 : Int) ^ (min (Int.toNat (1)) (IntKind.bits .u64)) = 2 := by decide
def bl (s : ByteArray) : List UInt8 := s.data.toList
def ba (l : List UInt8) : ByteArray := ⟨l.toArray⟩
theorem bl_ba (l : List UInt8) : bl (ba l) = l := by simp [bl, ba]
theorem ba_bl (s : ByteArray) : ba (bl s) = s := by cases s; simp [bl, ba]
theorem zfH {s t : ByteArray} (h : bl s = bl t) : s = t := by rw [← ba_bl s, h, ba_bl]
theorem zeq (s t : ByteArray) : bl (s ++ t) = bl s ++ bl t := by simp [bl]
theorem zep (l m : List UInt8) : ba (l ++ m) = ba l ++ ba m := zfH (by rw [zeq, bl_ba, bl_ba, bl_ba])
theorem wr (s : ByteArray) : (bl s).length = s.size := by simp [bl]
theorem WB (l : List UInt8) : (ba l).size = l.length := by rw [← wr, bl_ba]
set_option maxRecDepth 100000
section
variable {P : Program} {B : RO} {h0 h h' : Heap} {L : List (Option (Nat × AObj))} {r : Option (Nat × AObj)} {e : TypeId} {sz : Nat} {xs : List Value} {α : Type} {cells : α → List Value} {l : List α} {a : Option Addr} {m c : Nat}
theorem zf7 {t tx ty : TypeId} {bz : Nat} {zs : List Value} {n : Nat} {ki : IntKind} {K : Value → Heap → Prop} (ht : slcB P t = some (e, sz, bz)) (hz : zeroB P e = some zs) (hzs : zs.length = sz) (hsz : 0 < sz) (hbz : 0 < bz) (hix : intB P tx = some ki)
  (hv : SlRow h (.slice a m c) e sz xs) (hgrow : c < m + n) (h0 : 0 < n) (hb : (m + n) * bz ≤ 1099511627776)
  (hk : ∀ b nc nn ys js, h b = none → B b = none → ys.length = n * sz → m + n ≤ nc → nc * sz ≤ nn → K (.slice (some ⟨b, 0, none⟩) (m + n) nc) (h.set b (.vec e (zc (xs ++ ys ++ js)) nn))) : semH P B (Builtin.append_ #[t, tx] ty #[.slice a m c, .int .i64 (n : Nat)]) h K := by
 have hn1 : n * bz ≤ 1099511627776 := Nat.le_trans (Nat.mul_le_mul_right _ (by omega)) hb
 have hn2 : n ≤ 1099511627776 := Nat.le_trans (Nat.le_mul_of_pos_right _ hbz) hn1
 have hmn : m + n ≤ 1099511627776 := Nat.le_trans (Nat.le_mul_of_pos_right _ hbz) hb
 unfold slcB at ht
 split at ht
 ·rename_i e' hu
  cases hin : P.info? e' with
  | none => rw [hin] at ht; cases ht
  | some inf =>
   rw [hin] at ht
   simp only [Option.map_some, Option.some.injEq, Prod.mk.injEq] at ht
   obtain ⟨rfl, rfl, rfl⟩ := ht
   unfold Builtin.append_
   simp only [List.getElem?_toArray, List.getElem?_cons_zero, List.getElem?_cons_succ]
   rw [ya hu]
   dsimp only
   rw [wv (n := inf.size) (by simp [szB, hin])]
   have htx : ∃ k', P.underlying tx = some (.int k') := by
    unfold intB at hix
    split at hix
    ·rename_i k' hk'; exact ⟨k', hk'⟩
    ·cases hix
   obtain ⟨k', hk'⟩ := htx
   rw [ya hk']
   have hw : IntKind.i64.wrap (n : Int) = n := IntWalk.i64_in n ⟨by omega, by omega⟩
   have hsmall : (n : Int) * (inf.bytes : Int) ≤ 1099511627776 := by
    have : ((n * inf.bytes : Nat) : Int) ≤ 1099511627776 := Int.ofNat_le.2 hn1
    rw [Int.natCast_mul] at this
    exact this
   simp only [pure_bind, if_true, asInt, asIntOf, hw]
   rw [if_neg (by omega), Z2 hin, if_neg (by show ¬ (_ > (2 : Int) ^ 48); omega)]
   simp only [Bool.not_true, Bool.false_eq_true, if_false, Int.toNat_natCast]
   rw [if_neg (by omega), Z2 hin]
   have hcap : Builtin.nextslicecap (m + n) c * inf.bytes ≤ 281474976710656 := by
    have h1 := zdz (m + n) c (by omega)
    have h2 : Builtin.nextslicecap (m + n) c * inf.bytes ≤ (2 * (m + n) + 200) * inf.bytes := Nat.mul_le_mul_right _ h1
    have h3 : inf.bytes ≤ (m + n) * inf.bytes := Nat.le_mul_of_pos_left _ (by omega)
    have h4 : (2 * (m + n) + 200) * inf.bytes = 2 * ((m + n) * inf.bytes) + 200 * inf.bytes := by rw [Nat.add_mul, Nat.mul_assoc]
    omega
   have hmx : IntKind.i64.max = 9223372036854775807 := by decide
   rw [if_neg (by rw [hmx]; omega), Z2 hin, if_neg (by show ¬ (_ > 2 ^ 48); omega)]
   refine zay rfl fun q => ?_
   have hcut : m + n ≤ (Question.appendCap (m + n) c e').cut q := by simp [Question.cut]
   generalize (Question.appendCap (m + n) c e').cut q = nc at hcut
   rw [Z2 hin]
   refine zbZ ?_
   have hold : ∀ {α : Type} {f : Array Value → Sem α} {K : α → Heap → Prop}, semH P B (f xs.toArray) h K → semH P B (Builtin.firstCells inf.size m (.slice a m c) >>= f) h K := by
    intro α f K k
    rcases hv with ⟨h1, h2⟩ | ⟨k', m', c', nn, js, h1, h2, h3, h4, h5⟩
    ·cases h1
     subst h2
     exact k
    ·cases h1
     rw [zS]
     show semH P B (loadCellsFrom ⟨k', 0, none⟩ 0 (m * inf.size) #[]) h _
     rw [h3]
     refine vq xs 0 #[] (za.of_vec xs 0 h2 (fun j y hj => ?_)) ?_
     ·simp only [Nat.zero_add]
      exact xl (by rw [List.getElem?_append_left (List.getElem?_eq_some_iff.1 hj).1]; exact hj)
     ·simpa using k
   refine hold ?_
   have hns : ¬ (n * inf.size = 0) := by
    intro hh
    rcases Nat.mul_eq_zero.1 hh with h | h <;> omega
   rw [if_neg hns, bind_assoc]
   refine Xc hz fun z hzc => ?_
   have hzc' : z.cells.size = inf.size := by rw [← hzs, ← hzc]; simp
   simp only [pure_bind]
   refine Xc hz fun z' hzc2 => ?_
   have hzc2' : z'.cells.size = inf.size := by rw [← hzs, ← hzc2]; simp
   have hxl : xs.length = m * inf.size := by
    rcases hv with ⟨h1, h2⟩ | ⟨k', m', c', nn, js, h1, h2, h3, h4, h5⟩
    ·cases h1; subst h2; simp
    ·cases h1; exact h3.symm
   refine Zf fun b hb1 hb2 => ?_
   have e1 : (xs.toArray ++ Builtin.zeroCells z.cells n ++ Builtin.zeroCells z'.cells (nc - (m + n))).toList = xs ++ (Builtin.zeroCells z.cells n).toList ++ (Builtin.zeroCells z'.cells (nc - (m + n))).toList := by simp
   have e2 : (xs.toArray ++ Builtin.zeroCells z.cells n ++ Builtin.zeroCells z'.cells (nc - (m + n))).size = m * inf.size + n * inf.size + (nc - (m + n)) * inf.size := by simp [WJ, hzc', hzc2', hxl, Nat.add_assoc]
   have e3 : nc * inf.size ≤ m * inf.size + n * inf.size + (nc - (m + n)) * inf.size := by
    rw [← Nat.add_mul, ← Nat.add_mul]
    exact Nat.mul_le_mul_right _ (by omega)
   have hyl : (Builtin.zeroCells z.cells n).toList.length = n * inf.size := by simp [WJ, hzc']
   rw [e1, e2]
   exact hk _ _ _ _ _ hb1 hb2 hyl hcut e3
 ·cases ht
theorem WM {t tx ty : TypeId} {bz nS cS dLen cD : Nat} {A D : Addr} {ys : List Value} {K : Value → Heap → Prop} (ht : slcB P t = some (e, sz, bz)) (hc : za B h A 0 ys) (hl : ys.length = min nS dLen * sz) (st : zi D h 0 ys h') (hk : K (.int .i64 ((min nS dLen : Nat) : Int)) h') :
  semH P B (Builtin.copy_ #[t, tx] ty #[.slice (some D) dLen cD, .slice (some A) nS cS]) h K := by
 unfold slcB at ht
 split at ht
 ·rename_i e' hu
  cases hin : P.info? e' with
  | none => rw [hin] at ht; cases ht
  | some inf =>
   rw [hin] at ht
   simp only [Option.map_some, Option.some.injEq, Prod.mk.injEq] at ht
   obtain ⟨rfl, rfl, rfl⟩ := ht
   unfold Builtin.copy_
   simp only [List.getElem?_toArray, List.getElem?_cons_zero, List.getElem?_cons_succ]
   rw [ya hu]
   dsimp only
   have hlen : Builtin.lenOf (.slice (some A) nS cS) = pure nS := rfl
   rw [hlen, pure_bind, wv (n := inf.size) (by simp [szB, hin])]
   rw [zS]
   show semH P B (loadCellsFrom A 0 (min nS dLen * inf.size) #[]) h _
   rw [← hl]
   refine vq ys 0 #[] hc ?_
   simp only [Array.empty_append]
   rw [zS]
   exact YS ys 0 st hk
 ·cases ht
theorem zfb {t tb : TypeId} {bz la ca lb cb ka kb oa ob na nb : Nat} {fa fb : List Fld} {ea eb : TypeId} {K : Value → Heap → Prop} (ht : slcB P t = some (e, sz, bz)) (ha : h ka = some (.vec ea fa na)) (hb : h kb = some (.vec eb fb nb)) (hne : ka ≠ kb) (h5 : ea ≠ 5 ∧ eb ≠ 5) (hn : na ≠ 0 ∧ nb ≠ 0) (hk : K (.bool false) h) :
  semH P B (Extern.SlicesOverlaps.overlaps #[t, t] #[tb] #[.slice (some ⟨ka, oa, none⟩) la ca, .slice (some ⟨kb, ob, none⟩) lb cb]) h K := by
 unfold slcB at ht
 split at ht
 ·rename_i e' hu
  cases hin : P.info? e' with
  | none => rw [hin] at ht; cases ht
  | some inf =>
   rw [hin] at ht
   simp only [Option.map_some, Option.some.injEq, Prod.mk.injEq] at ht
   obtain ⟨rfl, rfl, rfl⟩ := ht
   have fz : ∀ (o : Nat), Zm B h ⟨ka, o, none⟩ = some false := fun o => by
    unfold Zm; simp [ha, h5.1]
   have fz2 : ∀ (o : Nat), Zm B h ⟨kb, o, none⟩ = some false := fun o => by
    unfold Zm; simp [hb, h5.2]
   have sh : ZC B h ka = some (some (ea, na)) := by unfold ZC; simp [ha]
   have sh2 : ZC B h kb = some (some (eb, nb)) := by unfold ZC; simp [hb]
   have hbn : (ka != kb) = true := by simpa using hne
   have hbn' : (ka == kb) = false := by simpa using hne
   show semH P B (α := Value) (do
    let .slice elem ← underlying t | stuck "slices.overlaps: slice type expected"
    let size ← sizeOf elem
    if la = 0 ∨ lb = 0 ∨ size = 0 then pure (Value.bool false)
    else if ka != kb && (← frozen ⟨ka, oa, none⟩) && (← frozen ⟨kb, ob, none⟩) then unsupported .addressObserved
    else do
     if ka != kb then do
      noView ⟨ka, oa, none⟩; noView ⟨kb, ob, none⟩
      if ← mayBeOne ⟨ka, oa, none⟩ ⟨kb, ob, none⟩ then return Value.bool ((← choose (.extern "sameAddr.stringBytes" 2)) == 1)
     pure (Value.bool (ka == kb && oa < ob + lb * size && ob < oa + la * size))) h K
   rw [ya hu]
   dsimp only
   rw [wv (n := inf.size) (by simp [szB, hin])]
   split
   ·exact hk
   ·have frz : ∀ {α : Type} {A : Addr} {f : Bool → Sem α} {K : α → Heap → Prop}, Zm B h A = some false → semH P B (f false) h K → semH P B (frozen A >>= f) h K := fun {α A f K} e k => by
     rw [zS]
     show semH P B (.frozen A .pure) h _
     intro b hb
     rw [hb false e]; exact k
    have shp : ∀ {α : Type} {q : Nat} {s : Option (TypeId × Nat)} {f : Option (TypeId × Nat) → Sem α} {K : α → Heap → Prop}, ZC B h q = some s → semH P B (f s) h K → semH P B (shape q >>= f) h K := fun {α q s f K} e k => by
     rw [zS]
     exact ⟨s, e, k⟩
    have nv : ∀ {α : Type} {q o : Nat} {s : TypeId × Nat} {f : Unit → Sem α} {K : α → Heap → Prop}, ZC B h q = some (some s) → semH P B (f ()) h K → semH P B (noView ⟨q, o, none⟩ >>= f) h K := fun {α q o s f K} e k => by
     unfold noView viewAt
     simp only [bind_assoc]
     refine shp e ?_
     exact k
    have sg : ∀ {α : Type} {q o : Nat} {s : TypeId × Nat} {f : Bool → Sem α} {K : α → Heap → Prop}, ZC B h q = some (some s) → (∀ o, Zm B h ⟨q, o, none⟩ = some false) → semH P B (f false) h K → semH P B (stringish ⟨q, o, none⟩ >>= f) h K := fun {α q o s f K} e e2 k => by
     unfold stringish
     simp only [bind_assoc]
     refine frz (e2 _) ?_
     simp only [Bool.false_eq_true, if_false, bind_assoc]
     refine shp e ?_
     exact frz (e2 _) k
    refine frz (fz _) (frz (fz2 _) ?_)
    simp only [hbn, hbn', Bool.and_false, Bool.false_eq_true, if_false]
    refine nv sh (nv sh2 ?_)
    unfold mayBeOne
    simp only [bind_assoc]
    refine sg sh fz (sg sh2 fz2 (shp sh (shp sh2 ?_)))
    exact hk
 ·cases ht
end
section
variable {P : Program} {B : RO} {h0 h h' : Heap} {L : List (Option (Nat × AObj))} {r : Option (Nat × AObj)} {e : TypeId} {sz : Nat} {xs : List Value} {a : Option Addr} {m c : Nat}
theorem zlG (a : Option Addr) (n k : Nat) : (if n = 0 then a else Option.map (fun x => Addr.add x (0 * k)) a) = a := by
 split
 ·rfl
 ·cases a
  ·rfl
  ·show some (Addr.add _ (0 * k)) = _
   rw [Nat.zero_mul]; rfl
theorem zO {L : List (Option (Nat × AObj))} {j : Nat} {x : Option (Nat × AObj)} (y : List (Option (Nat × AObj))) (hj : L[j]? = some x) : (L ++ y)[j]? = some x := by
 rw [List.getElem?_append_left (List.getElem?_eq_some_iff.1 hj).1]; exact hj
theorem Keep.remap {L' : List (Option (Nat × AObj))} (E : Keep B h0 L h) (f : Nat → Nat) (hf : ∀ (i : Nat) (y : Nat × AObj), L'[i]? = some (some y) → L[f i]? = some (some y)) (hi : ∀ i j, i < L'.length → j < L'.length → f i = f j → i = j) : Keep B h0 L' h :=
 ⟨E.le, E.nw, fun i k o e => E.z _ k o (hf i _ e), fun i k o e => E.get _ k o (hf i _ e), fun i j k o o' e e' => hi i j (List.getElem?_eq_some_iff.1 e).1 (List.getElem?_eq_some_iff.1 e').1 (E.nd _ _ _ _ _ (hf i _ e) (hf j _ e'))⟩
theorem Keep.moveLast {x : Option (Nat × AObj)} (E : Keep B h0 (L ++ [x]) h) (q : Nat) : Keep B h0 (L.set q x) h := by
 let f : Nat → Nat := fun i => if i = q then L.length else i
 have key : ∀ (i : Nat) (y : Nat × AObj), (L.set q x)[i]? = some (some y) → (L ++ [x])[f i]? = some (some y) ∧ i < L.length := fun i y hi => by
  have hl := (List.getElem?_eq_some_iff.1 hi).1
  rw [List.length_set] at hl
  by_cases h : i = q
  ·subst h
   rw [List.getElem?_set_self hl] at hi
   simp [f]; exact ⟨Option.some.inj hi, hl⟩
  ·rw [List.getElem?_set_ne (Ne.symm h)] at hi
   simp only [f, if_neg h]
   rw [List.getElem?_append_left hl]; exact ⟨hi, hl⟩
 refine ⟨E.le, E.nw, fun i k o e => E.z _ k o (key i _ e).1, fun i k o e => E.get _ k o (key i _ e).1, fun i j k o o' e e' => ?_⟩
 obtain ⟨a1, a2⟩ := key i _ e
 obtain ⟨b1, b2⟩ := key j _ e'
 have := E.nd _ _ _ _ _ a1 b1
 simp only [f] at this
 by_cases h1 : i = q <;> by_cases h2 : j = q
 ·rw [h1, h2]
 ·rw [if_pos h1, if_neg h2] at this; omega
 ·rw [if_neg h1, if_pos h2] at this; omega
 ·rw [if_neg h1, if_neg h2] at this; exact this
theorem Keep.storesV (E : Keep B h0 L h) (i : Nat) {k nn : Nat} {t : TypeId} {fs gs : List Value} (hi : L[i]? = some (some (k, .vec t (zc (fs ++ gs)) nn))) (ys : List Value) (ho : ∀ y ∈ ys, isOne y = true) (o : Nat) (hf : fs.length = o) (hn : o + ys.length ≤ nn) :
  ∃ h', zi ⟨k, o, none⟩ h 0 ys h' ∧ Keep B h0 (L.set i (some (k, .vec t (zc (fs ++ ys ++ gs.drop ys.length)) nn))) h' := by
 obtain ⟨h', s1, s2, s3⟩ := zi.over ys h o 0 fs gs ho (E.at i hi) (by omega) (by omega)
 refine ⟨h', s1, ?_⟩
 by_cases hy : ys = []
 ·rw [s2 hy, hy]
  have : L.set i (some (k, .vec t (zc (fs ++ [] ++ gs.drop ([] : List Value).length)) nn)) = L := by
   obtain ⟨hl, e⟩ := List.getElem?_eq_some_iff.1 hi
   rw [List.append_nil, List.length_nil, List.drop_zero, ← e]; exact List.set_getElem_self hl
  rw [this]; exact E
 ·rw [s3 hy]; exact E.put i hi
theorem Keep.storesLast {k nn : Nat} {t : TypeId} {fs gs : List Value} (E : Keep B h0 (L ++ [some (k, .vec t (zc (fs ++ gs)) nn)]) h) (ys : List Value) (ho : ∀ y ∈ ys, isOne y = true) (o : Nat) (hf : fs.length = o) (hn : o + ys.length ≤ nn) :
  ∃ h', zi ⟨k, o, none⟩ h 0 ys h' ∧ Keep B h0 (L ++ [some (k, .vec t (zc (fs ++ ys ++ gs.drop ys.length)) nn)]) h' := by
 obtain ⟨h', s, E'⟩ := E.storesV L.length (by rw [List.getElem?_append_right (Nat.le_refl _), Nat.sub_self]; rfl) ys ho o hf hn
 rw [List.set_append_right _ _ (Nat.le_refl _), Nat.sub_self] at E'
 exact ⟨h', s, E'⟩
theorem Keep.cellsV (E : Keep B h0 L h) (i : Nat) {k nn : Nat} {t : TypeId} {fs ys gs : List Value} (hi : L[i]? = some (some (k, .vec t (zc (fs ++ ys ++ gs)) nn))) (o : Nat) (hf : fs.length = o) : za B h ⟨k, o, none⟩ 0 ys :=
 za.of_vec ys 0 (E.at i hi) fun j y hj => by
  have hl := (List.getElem?_eq_some_iff.1 hj).1
  rw [Vy, Nat.add_zero, List.append_assoc, List.getElem?_append_right (by omega), show o + j - fs.length = j by omega, List.getElem?_append_left hl, hj]
  rfl
def InsP (P : Program) (ts sz tb ti : Nat) (rot : RO → Option Addr → Nat → Nat → Int → Heap → (Heap → Prop) → Prop) (B : RO) (a1 : Option Addr) (n2 : Nat) (c3 : Nat) (i4 : Int) (a5 : Option Addr) (n6 : Nat) (c7 : Nat) (h : Heap) (Q : Option Addr → Nat → Nat → Heap → Prop) : Prop :=
 0 ≤ (i4 : Int) ∧ (i4 : Int) ≤ ((n2 : Nat) : Int) ∧ ((n2 : Nat) : Int) ≤ (c3 : Nat) ∧
 (((n6 : Nat) : Int) = 0 →
 Fin B h (Q a1 n2 c3)) ∧ (¬ (((n6 : Nat) : Int) = 0) →
 ((i4 : Int) = (n2 : Nat) →
 semH P B (Builtin.append_ #[ts, ts] ts #[(Value.slice a1 n2 c3), (Value.slice a5 n6 c7)]) h (fun v h13 => ∃ a14 : Option Addr, ∃ n15 : Nat, ∃ c16 : Nat, v = (Value.slice a14 n15 c16) ∧
 Fin B h13 (Q a14 n15 c16))) ∧ (¬ ((i4 : Int) = (n2 : Nat)) →
 ((IntKind.wrap .i64 (((n2 : Nat)) + ((n6 : Nat))) : Int) > ((c3 : Nat)) →
 0 ≤ (0 : Int) ∧ (0 : Int) ≤ (i4 : Int) ∧ (i4 : Int) ≤ (c3 : Nat) ∧
 semH P B (Builtin.append_ #[ts, ti] ts #[(Value.slice (if c3 = Int.toNat (0) then a1 else Option.map (·.add (Int.toNat (0) * sz)) a1) (Int.toNat (i4) - Int.toNat (0)) (c3 - Int.toNat (0))), (Value.int .i64 (IntKind.wrap .i64 ((IntKind.wrap .i64 (((n2 : Nat)) + ((n6 : Nat)))) - (i4))))]) h (fun v h18 => ∃ a19 : Option Addr, ∃ n20 : Nat, ∃ c21 : Nat, v = (Value.slice a19 n20 c21) ∧
 0 ≤ (i4 : Int) ∧ (i4 : Int) ≤ ((n20 : Nat) : Int) ∧ ((n20 : Nat) : Int) ≤ (c21 : Nat) ∧
 semH P B (Builtin.copy_ #[ts, ts] ti #[(Value.slice (if c21 = Int.toNat (i4) then a19 else Option.map (·.add (Int.toNat (i4) * sz)) a19) (Int.toNat ((n20 : Nat)) - Int.toNat (i4)) (c21 - Int.toNat (i4))), (Value.slice a5 n6 c7)]) h18 (fun v h22 => ∃ i23 : Int, v = (Value.int .i64 (i23)) ∧
 0 ≤ (IntKind.wrap .i64 ((i4) + ((n6 : Nat))) : Int) ∧ (IntKind.wrap .i64 ((i4) + ((n6 : Nat))) : Int) ≤ ((n20 : Nat) : Int) ∧ ((n20 : Nat) : Int) ≤ (c21 : Nat) ∧
 0 ≤ (i4 : Int) ∧ (i4 : Int) ≤ ((n2 : Nat) : Int) ∧ ((n2 : Nat) : Int) ≤ (c3 : Nat) ∧
 semH P B (Builtin.copy_ #[ts, ts] ti #[(Value.slice (if c21 = Int.toNat (IntKind.wrap .i64 ((i4) + ((n6 : Nat)))) then a19 else Option.map (·.add (Int.toNat (IntKind.wrap .i64 ((i4) + ((n6 : Nat)))) * sz)) a19) (Int.toNat ((n20 : Nat)) - Int.toNat (IntKind.wrap .i64 ((i4) + ((n6 : Nat))))) (c21 - Int.toNat (IntKind.wrap .i64 ((i4) + ((n6 : Nat)))))), (Value.slice (if c3 = Int.toNat (i4) then a1 else Option.map (·.add (Int.toNat (i4) * sz)) a1) (Int.toNat ((n2 : Nat)) - Int.toNat (i4)) (c3 - Int.toNat (i4)))]) h22 (fun v h24 => ∃ i25 : Int, v = (Value.int .i64 (i25)) ∧
 Fin B h24 (Q a19 n20 c21))))) ∧ (¬ ((IntKind.wrap .i64 (((n2 : Nat)) + ((n6 : Nat))) : Int) > ((c3 : Nat))) →
 0 ≤ (0 : Int) ∧ (0 : Int) ≤ (IntKind.wrap .i64 (((n2 : Nat)) + ((n6 : Nat))) : Int) ∧ (IntKind.wrap .i64 (((n2 : Nat)) + ((n6 : Nat))) : Int) ≤ (c3 : Nat) ∧
 0 ≤ (IntKind.wrap .i64 ((i4) + ((n6 : Nat))) : Int) ∧ (IntKind.wrap .i64 ((i4) + ((n6 : Nat))) : Int) ≤ (((Int.toNat (IntKind.wrap .i64 (((n2 : Nat)) + ((n6 : Nat)))) - Int.toNat (0)) : Nat) : Int) ∧ (((Int.toNat (IntKind.wrap .i64 (((n2 : Nat)) + ((n6 : Nat)))) - Int.toNat (0)) : Nat) : Int) ≤ ((c3 - Int.toNat (0)) : Nat) ∧
 semH P B (Extern.SlicesOverlaps.overlaps #[ts, ts] #[tb] #[(Value.slice a5 n6 c7), (Value.slice (if (c3 - Int.toNat (0)) = Int.toNat (IntKind.wrap .i64 ((i4) + ((n6 : Nat)))) then (if c3 = Int.toNat (0) then a1 else Option.map (·.add (Int.toNat (0) * sz)) a1) else Option.map (·.add (Int.toNat (IntKind.wrap .i64 ((i4) + ((n6 : Nat)))) * sz)) (if c3 = Int.toNat (0) then a1 else Option.map (·.add (Int.toNat (0) * sz)) a1)) (Int.toNat (((Int.toNat (IntKind.wrap .i64 (((n2 : Nat)) + ((n6 : Nat)))) - Int.toNat (0)) : Nat)) - Int.toNat (IntKind.wrap .i64 ((i4) + ((n6 : Nat))))) ((c3 - Int.toNat (0)) - Int.toNat (IntKind.wrap .i64 ((i4) + ((n6 : Nat))))))]) h (fun v h26 => ∃ b27 : Bool, v = (Value.bool b27) ∧
 (b27 = true →
 0 ≤ ((n2 : Nat) : Int) ∧ ((n2 : Nat) : Int) ≤ (((Int.toNat (IntKind.wrap .i64 (((n2 : Nat)) + ((n6 : Nat)))) - Int.toNat (0)) : Nat) : Int) ∧ (((Int.toNat (IntKind.wrap .i64 (((n2 : Nat)) + ((n6 : Nat)))) - Int.toNat (0)) : Nat) : Int) ≤ ((c3 - Int.toNat (0)) : Nat) ∧
 semH P B (Builtin.copy_ #[ts, ts] ti #[(Value.slice (if (c3 - Int.toNat (0)) = Int.toNat ((n2 : Nat)) then (if c3 = Int.toNat (0) then a1 else Option.map (·.add (Int.toNat (0) * sz)) a1) else Option.map (·.add (Int.toNat ((n2 : Nat)) * sz)) (if c3 = Int.toNat (0) then a1 else Option.map (·.add (Int.toNat (0) * sz)) a1)) (Int.toNat (((Int.toNat (IntKind.wrap .i64 (((n2 : Nat)) + ((n6 : Nat)))) - Int.toNat (0)) : Nat)) - Int.toNat ((n2 : Nat))) ((c3 - Int.toNat (0)) - Int.toNat ((n2 : Nat)))), (Value.slice a5 n6 c7)]) h26 (fun v h32 => ∃ i33 : Int, v = (Value.int .i64 (i33)) ∧
 0 ≤ (i4 : Int) ∧ (i4 : Int) ≤ (((Int.toNat (IntKind.wrap .i64 (((n2 : Nat)) + ((n6 : Nat)))) - Int.toNat (0)) : Nat) : Int) ∧ (((Int.toNat (IntKind.wrap .i64 (((n2 : Nat)) + ((n6 : Nat)))) - Int.toNat (0)) : Nat) : Int) ≤ ((c3 - Int.toNat (0)) : Nat) ∧
 rot B (if (c3 - Int.toNat (0)) = Int.toNat (i4) then (if c3 = Int.toNat (0) then a1 else Option.map (·.add (Int.toNat (0) * sz)) a1) else Option.map (·.add (Int.toNat (i4) * sz)) (if c3 = Int.toNat (0) then a1 else Option.map (·.add (Int.toNat (0) * sz)) a1)) (Int.toNat (((Int.toNat (IntKind.wrap .i64 (((n2 : Nat)) + ((n6 : Nat)))) - Int.toNat (0)) : Nat)) - Int.toNat (i4)) ((c3 - Int.toNat (0)) - Int.toNat (i4)) ((n6 : Nat)) h32 (fun h34 =>
 Fin B h34 (Q (if c3 = Int.toNat (0) then a1 else Option.map (·.add (Int.toNat (0) * sz)) a1) (Int.toNat (IntKind.wrap .i64 (((n2 : Nat)) + ((n6 : Nat)))) - Int.toNat (0)) (c3 - Int.toNat (0)))))) ∧ (b27 = false →
 0 ≤ (IntKind.wrap .i64 ((i4) + ((n6 : Nat))) : Int) ∧ (IntKind.wrap .i64 ((i4) + ((n6 : Nat))) : Int) ≤ (((Int.toNat (IntKind.wrap .i64 (((n2 : Nat)) + ((n6 : Nat)))) - Int.toNat (0)) : Nat) : Int) ∧ (((Int.toNat (IntKind.wrap .i64 (((n2 : Nat)) + ((n6 : Nat)))) - Int.toNat (0)) : Nat) : Int) ≤ ((c3 - Int.toNat (0)) : Nat) ∧
 0 ≤ (i4 : Int) ∧ (i4 : Int) ≤ (((Int.toNat (IntKind.wrap .i64 (((n2 : Nat)) + ((n6 : Nat)))) - Int.toNat (0)) : Nat) : Int) ∧ (((Int.toNat (IntKind.wrap .i64 (((n2 : Nat)) + ((n6 : Nat)))) - Int.toNat (0)) : Nat) : Int) ≤ ((c3 - Int.toNat (0)) : Nat) ∧
 semH P B (Builtin.copy_ #[ts, ts] ti #[(Value.slice (if (c3 - Int.toNat (0)) = Int.toNat (IntKind.wrap .i64 ((i4) + ((n6 : Nat)))) then (if c3 = Int.toNat (0) then a1 else Option.map (·.add (Int.toNat (0) * sz)) a1) else Option.map (·.add (Int.toNat (IntKind.wrap .i64 ((i4) + ((n6 : Nat)))) * sz)) (if c3 = Int.toNat (0) then a1 else Option.map (·.add (Int.toNat (0) * sz)) a1)) (Int.toNat (((Int.toNat (IntKind.wrap .i64 (((n2 : Nat)) + ((n6 : Nat)))) - Int.toNat (0)) : Nat)) - Int.toNat (IntKind.wrap .i64 ((i4) + ((n6 : Nat))))) ((c3 - Int.toNat (0)) - Int.toNat (IntKind.wrap .i64 ((i4) + ((n6 : Nat)))))), (Value.slice (if (c3 - Int.toNat (0)) = Int.toNat (i4) then (if c3 = Int.toNat (0) then a1 else Option.map (·.add (Int.toNat (0) * sz)) a1) else Option.map (·.add (Int.toNat (i4) * sz)) (if c3 = Int.toNat (0) then a1 else Option.map (·.add (Int.toNat (0) * sz)) a1)) (Int.toNat (((Int.toNat (IntKind.wrap .i64 (((n2 : Nat)) + ((n6 : Nat)))) - Int.toNat (0)) : Nat)) - Int.toNat (i4)) ((c3 - Int.toNat (0)) - Int.toNat (i4)))]) h26 (fun v h28 => ∃ i29 : Int, v = (Value.int .i64 (i29)) ∧
 0 ≤ (i4 : Int) ∧ (i4 : Int) ≤ (((Int.toNat (IntKind.wrap .i64 (((n2 : Nat)) + ((n6 : Nat)))) - Int.toNat (0)) : Nat) : Int) ∧ (((Int.toNat (IntKind.wrap .i64 (((n2 : Nat)) + ((n6 : Nat)))) - Int.toNat (0)) : Nat) : Int) ≤ ((c3 - Int.toNat (0)) : Nat) ∧
 semH P B (Builtin.copy_ #[ts, ts] ti #[(Value.slice (if (c3 - Int.toNat (0)) = Int.toNat (i4) then (if c3 = Int.toNat (0) then a1 else Option.map (·.add (Int.toNat (0) * sz)) a1) else Option.map (·.add (Int.toNat (i4) * sz)) (if c3 = Int.toNat (0) then a1 else Option.map (·.add (Int.toNat (0) * sz)) a1)) (Int.toNat (((Int.toNat (IntKind.wrap .i64 (((n2 : Nat)) + ((n6 : Nat)))) - Int.toNat (0)) : Nat)) - Int.toNat (i4)) ((c3 - Int.toNat (0)) - Int.toNat (i4))), (Value.slice a5 n6 c7)]) h28 (fun v h30 => ∃ i31 : Int, v = (Value.int .i64 (i31)) ∧
 Fin B h30 (Q (if c3 = Int.toNat (0) then a1 else Option.map (·.add (Int.toNat (0) * sz)) a1) (Int.toNat (IntKind.wrap .i64 (((n2 : Nat)) + ((n6 : Nat)))) - Int.toNat (0)) (c3 - Int.toNat (0))))))))))
theorem zho {ts tb ti bz kx c7 : Nat} {ki : IntKind} {zs ys : List Value} {rot : RO → Option Addr → Nat → Nat → Int → Heap → (Heap → Prop) → Prop} {Q : Option Addr → Nat → Nat → Heap → Prop}
  (ht : slcB P ts = some (e, sz, bz)) (hz : zeroB P e = some zs) (hzs : zs.length = sz) (hsz : 0 < sz) (hbz : 0 < bz) (hst : slT P ts = true) (hti : intB P ti = some ki) (h5 : e ≠ 5)
  (E : Keep B h0 L h) (q : Nat) (hq : L[q]? = some r) (R : Row r (.slice a m c) e sz xs) (hxo : ∀ y ∈ xs, isOne y = true) (j : Nat) (hj : L[j]? = some (some (kx, .vec e (zc ys) sz))) (hys : ys.length = sz) (hone : ∀ y ∈ ys, isOne y = true) (hjq : j ≠ q) (i : Nat) (hi : i ≤ m) (hb : (xs.length + sz) * bz ≤ 1099511627776)
  (hQ : ∀ a' c' r' h', Row r' (.slice a' (m + 1) c') e sz (xs.take (i * sz) ++ ys ++ xs.drop (i * sz)) → Keep B h0 (L.set q r') h' → Q a' (m + 1) c' h') : InsP P ts sz tb ti rot B a m c (i : Nat) (some ⟨kx, 0, none⟩) 1 c7 h Q := by
 have hmx := Row.len R
 have hcap := Row.cap R
 have hm1 : m ≤ xs.length := by rw [← hmx]; exact Nat.le_mul_of_pos_right _ hsz
 have hlim : xs.length + sz ≤ 1099511627776 := Nat.le_trans (Nat.le_mul_of_pos_right _ hbz) hb
 have hw1 : IntKind.wrap .i64 (((m : Nat) : Int) + ((1 : Nat) : Int)) = ((m + 1 : Nat) : Int) := by rw [w64 (by omega) (by omega)]; omega
 have hw2 : IntKind.wrap .i64 (((i : Nat) : Int) + ((1 : Nat) : Int)) = ((i + 1 : Nat) : Int) := by rw [w64 (by omega) (by omega)]; omega
 have hw3 : IntKind.wrap .i64 (((m + 1 : Nat) : Int) - ((i : Nat) : Int)) = ((m + 1 - i : Nat) : Int) := by rw [w64 (by omega) (by omega)]; omega
 have him : i * sz ≤ m * sz := Nat.mul_le_mul_right _ hi
 have hsrc : ∀ {L' : List (Option (Nat × AObj))} {h1 : Heap}, Keep B h0 L' h1 → L'[j]? = some (some (kx, .vec e (zc ys) sz)) → za B h1 ⟨kx, 0, none⟩ 0 ys := fun E1 hj1 => E1.cellsV (fs := []) (gs := []) j (by rw [List.append_nil]; exact hj1) 0 rfl
 unfold InsP
 simp only [hw1, hw2, hw3, Int.toNat_natCast, Int.toNat_zero, Nat.sub_zero, zlG]
 refine ⟨by omega, by omega, by omega, fun e0 => absurd e0 (by decide), fun _ => ⟨fun hin => ?_, fun hin => ⟨fun hgr => ?_, fun hroom => ?_⟩⟩⟩
 ·refine E.pushS q (n := 1) (ys := ys) hq R ht hz hzs hsz hbz hst ⟨by omega, hone, .inl ⟨_, _, rfl, hsrc E hj⟩⟩ (by rw [hys]; exact hb) fun a' m' c' r' h'' R' E' => ?_
  have hm' := Row.len R'
  have : m' = m + 1 := by
   have h1 : m' * sz = (m + 1) * sz := by rw [hm', List.length_append, hys, Nat.add_mul, hmx, Nat.one_mul]
   exact Nat.eq_of_mul_eq_mul_right hsz h1
  subst this
  have hie : i = m := by omega
  refine ⟨_, _, _, rfl, Fin.of (hQ _ _ _ _ ?_ E')⟩
  rw [hie, hmx, List.take_length, List.drop_length, List.append_nil]; exact R'
 ·have hil : i < m := by omega
  have Rc := R.cut (n := i) hi
  refine ⟨by omega, by omega, by omega, zf7 (n := m + 1 - i) (m := i) ht hz hzs hsz hbz hti (E.sl q hq Rc) (by omega) (by omega) ?_ fun b nc nn zz js hb1 hb2 hzl hnc hnn => ?_⟩
  ·refine Nat.le_trans (Nat.mul_le_mul_right _ ?_) hb
   omega
  have him1 : (i + 1) * sz ≤ m * sz := Nat.mul_le_mul_right _ hil
  have e1 : (i + 1) * sz = i * sz + sz := by rw [Nat.add_mul, Nat.one_mul]
  have e2 : (m + 1 - i) * sz + i * sz = m * sz + sz := by rw [← Nat.add_mul, show m + 1 - i + i = m + 1 by omega, Nat.add_mul, Nat.one_mul]
  have hnc2 : (i + (m + 1 - i)) * sz ≤ nc * sz := Nat.mul_le_mul_right _ hnc
  rw [Nat.add_mul] at hnc2
  have htl : (xs.take (i * sz)).length = i * sz := by rw [List.length_take]; omega
  have E1 := E.new (o := .vec e (zc (xs.take (i * sz) ++ (zz ++ js))) nn) hb1 hb2
  rw [List.append_assoc]
  refine ⟨_, _, _, rfl, by omega, by omega, by omega, ?_⟩
  rw [if_neg (by omega), Option.map_some, z8, Nat.zero_add]
  obtain ⟨h22, st, E2⟩ := E1.storesLast ys hone (i * sz) htl (by omega)
  refine WM ht (hsrc E1 (by rw [List.getElem?_append_left (List.getElem?_eq_some_iff.1 hj).1]; exact hj)) (by rw [Nat.min_eq_left (by omega)]; omega) st ⟨_, rfl, by omega, by omega, by omega, by omega, by omega, by omega, ?_⟩
  rcases R with ⟨_, e3, e4⟩ | ⟨k, m', c', nk, jk, rfl, e3, e4, e5, e6⟩
  ·cases e3; omega
  cases e3
  rw [if_neg (by omega), Option.map_some, z8, Nat.zero_add, if_neg (by omega), Option.map_some, z8, Nat.zero_add]
  have hql : q < L.length := (List.getElem?_eq_some_iff.1 hq).1
  have hdl : (xs.drop (i * sz)).length = (m - i) * sz := by rw [List.length_drop, Nat.sub_mul]; omega
  have hc2 : za B h22 ⟨k, i * sz, none⟩ 0 (xs.drop (i * sz)) := E2.cellsV (fs := xs.take (i * sz)) (gs := jk) q (by rw [List.getElem?_append_left hql, hq, List.take_append_drop]) (i * sz) htl
  obtain ⟨h24, st2, E3⟩ := E2.storesLast (xs.drop (i * sz)) (fun y hy => hxo y (List.mem_of_mem_drop hy)) ((i + 1) * sz) (by rw [List.length_append, htl, hys]; omega) (by rw [List.length_drop]; omega)
  refine WM ht hc2 (by rw [hdl, Nat.min_eq_left (by omega)]) st2 ⟨_, rfl, Fin.of ?_⟩
  have e7 : i + (m + 1 - i) = m + 1 := by omega
  rw [e7]
  refine hQ _ _ _ _ (.inr ⟨b, m + 1, nc, nn, _, rfl, rfl, ?_, by omega, hnn⟩) (E3.moveLast q)
  rw [List.length_append, List.length_append, htl, hys, List.length_drop, Nat.add_mul, Nat.one_mul]; omega
 ·have hil : i < m := by omega
  have hmc : m + 1 ≤ c := by omega
  rcases R with ⟨_, e3, e4⟩ | ⟨k, m', c', nk, jk, rfl, e3, e4, e5, e6⟩
  ·cases e3; omega
  cases e3
  have him1 : (i + 1) * sz ≤ m * sz := Nat.mul_le_mul_right _ hil
  have e1 : (i + 1) * sz = i * sz + sz := by rw [Nat.add_mul, Nat.one_mul]
  have hmc2 : (m + 1) * sz ≤ c * sz := Nat.mul_le_mul_right _ hmc
  rw [Nat.add_mul, Nat.one_mul] at hmc2
  have htl : (xs.take (i * sz)).length = i * sz := by rw [List.length_take]; omega
  have htl1 : (xs.take ((i + 1) * sz)).length = (i + 1) * sz := by rw [List.length_take]; omega
  have hql : q < L.length := (List.getElem?_eq_some_iff.1 hq).1
  refine ⟨by omega, by omega, by omega, by omega, by omega, by omega, ?_⟩
  have ni1 : ¬ c = i + 1 := by omega
  have ni : ¬ c = i := by omega
  simp only [if_neg ni1, if_neg ni, Option.map_some, z8, Nat.zero_add]
  refine zfb ht (E.at j hj) (E.at q hq) (fun e0 => hjq (E.nd j q kx _ _ hj (by rw [e0]; exact hq))) ⟨h5, h5⟩ ⟨by omega, by omega⟩ ⟨_, rfl, fun e0 => (by cases e0), fun _ => ⟨by omega, by omega, by omega, by omega, by omega, by omega, ?_⟩⟩
  have hdl : (xs.drop (i * sz)).length = (m - i) * sz := by rw [List.length_drop, Nat.sub_mul]; omega
  have hc2 : za B h ⟨k, i * sz, none⟩ 0 (xs.drop (i * sz)) := E.cellsV (fs := xs.take (i * sz)) (gs := jk) q (by rw [hq, List.take_append_drop]) (i * sz) htl
  obtain ⟨h28, st, E2⟩ := E.storesV q (fs := xs.take ((i + 1) * sz)) (gs := xs.drop ((i + 1) * sz) ++ jk) (by rw [hq, ← List.append_assoc, List.take_append_drop]) (xs.drop (i * sz)) (fun y hy => hxo y (List.mem_of_mem_drop hy)) ((i + 1) * sz) htl1 (by rw [List.length_drop]; omega)
  refine WM ht hc2 (by rw [hdl, Nat.min_eq_right (by omega)]; congr 1; omega) st ⟨_, rfl, by omega, by omega, by omega, ?_⟩
  have e8 : xs.take ((i + 1) * sz) = xs.take (i * sz) ++ (xs.drop (i * sz)).take sz := by rw [e1, List.take_add]
  generalize hrest : (xs.drop ((i + 1) * sz) ++ jk).drop (xs.drop (i * sz)).length = rest at E2
  obtain ⟨h30, st2, E3⟩ := E2.storesV q (k := k) (nn := nk) (t := e) (fs := xs.take (i * sz)) (gs := (xs.drop (i * sz)).take sz ++ (xs.drop (i * sz) ++ rest)) (by rw [List.getElem?_set_self hql, e8]; simp only [List.append_assoc]) ys hone (i * sz) htl (by omega)
  refine WM ht (hsrc E2 (by rw [List.getElem?_set_ne (Ne.symm hjq)]; exact hj)) (by rw [Nat.min_eq_left (by omega)]; omega) st2 ⟨_, rfl, Fin.of ?_⟩
  rw [List.set_set] at E3
  have e9 : ((xs.drop (i * sz)).take sz ++ (xs.drop (i * sz) ++ rest)).drop ys.length = xs.drop (i * sz) ++ rest := by
   rw [List.drop_left']
   rw [List.length_take, List.length_drop, hys]; omega
  rw [e9, ← List.append_assoc] at E3
  refine hQ _ _ _ _ (.inr ⟨k, m + 1, c, nk, rest, rfl, rfl, ?_, hmc, e6⟩) E3
  rw [List.length_append, List.length_append, htl, hys, List.length_drop, Nat.add_mul, Nat.one_mul]; omega
end
section
variable {V : Type} {l m : List (Int × V)} {i j : Int} {v : V} {p : Nat} {x : Int × V}
def insD : List (Int × V) → Int → V → List (Int × V)
 | [], i, v => [(i, v)]
 | y :: t, i, v => if y.1 < i then y :: insD t i v else if y.1 = i then (i, v) :: t else (i, v) :: y :: t
def SortD (l : List (Int × V)) : Prop := l.Pairwise fun x y => x.1 < y.1
def atD (l : List (Int × V)) (i : Int) : Option V := (l.find? fun x => x.1 == i).map (·.2)
structure PosD (l : List (Int × V)) (i : Int) (p : Nat) : Prop where
 le : p ≤ l.length
 lo : ∀ (q : Nat) (x : Int × V), q < p → l[q]? = some x → x.1 < i
 hi : ∀ (q : Nat) (x : Int × V), p ≤ q → l[q]? = some x → i ≤ x.1
def x5 (l : List (Int × V)) (p : Nat) (i : Int) : Bool := match l[p]? with
 | some x => x.1 == i
 | none => false
theorem PosD.tail {y : Int × V} (k : PosD (y :: l) i (p + 1)) : PosD l i p :=
 ⟨by have := k.le; simp at this; exact this, fun q x hq hx => k.lo (q + 1) x (by omega) (by simpa using hx), fun q x hq hx => k.hi (q + 1) x (by omega) (by simpa using hx)⟩
theorem zcO : ∀ {l : List (Int × V)} {p : Nat}, PosD l i p → x5 l p i = false → insD l i v = l.take p ++ (i, v) :: l.drop p
 | [], p, k, _ => by
  have := k.le; simp at this; subst this; rfl
 | y :: t, 0, k, hf => by
  have h1 := k.hi 0 y (Nat.le_refl _) rfl
  have h2 : y.1 ≠ i := by simpa [x5] using hf
  rw [insD, if_neg (by omega), if_neg h2]; rfl
 | y :: t, p + 1, k, hf => by
  have h1 := k.lo 0 y (by omega) rfl
  rw [insD, if_pos h1, zcO k.tail (by simpa [x5] using hf)]; rfl
theorem zcP : ∀ {l : List (Int × V)} {p : Nat}, PosD l i p → x5 l p i = true → insD l i v = l.set p (i, v)
 | [], p, k, hf => by simp [x5] at hf
 | y :: t, 0, k, hf => by
  have h2 : y.1 = i := by simpa [x5] using hf
  rw [insD, if_neg (by omega), if_pos h2]; rfl
 | y :: t, p + 1, k, hf => by
  have h1 := k.lo 0 y (by omega) rfl
  rw [insD, if_pos h1, zcP k.tail (by simpa [x5] using hf)]; rfl
theorem WK (hf : x5 l p i = true) : ∃ x, l[p]? = some x ∧ x.1 = i := by
 unfold x5 at hf
 split at hf
 ·rename_i x hx; exact ⟨x, hx, by simpa using hf⟩
 ·cases hf
theorem zdX : ∀ {l : List (Int × V)} {p : Nat} {x : Int × V}, PosD l i p → l[p]? = some x → x.1 = i → atD l i = some x.2
 | [], p, x, _, h, _ => by simp at h
 | y :: t, 0, x, k, h, e => by
  simp at h; subst h
  simp [atD, e]
 | y :: t, p + 1, x, k, h, e => by
  have h1 := k.lo 0 y (by omega) rfl
  have := zdX k.tail (by simpa using h) e
  have hn : (y.1 == i) = false := by simp; omega
  simp only [atD, List.find?_cons, hn]
  exact this
theorem zdW : ∀ {l : List (Int × V)} {p : Nat}, SortD l → PosD l i p → x5 l p i = false → atD l i = none
 | [], p, _, _, _ => rfl
 | y :: t, 0, s, k, hf => by
  have h1 := k.hi 0 y (Nat.le_refl _) rfl
  have h2 : y.1 ≠ i := by simpa [x5] using hf
  rw [SortD, List.pairwise_cons] at s
  unfold atD
  rw [Option.map_eq_none_iff, List.find?_eq_none]
  intro z hz
  rcases List.mem_cons.1 hz with rfl | hz
  ·simpa using h2
  ·have := s.1 z hz
   simp; omega
 | y :: t, p + 1, s, k, hf => by
  have h1 := k.lo 0 y (by omega) rfl
  rw [SortD, List.pairwise_cons] at s
  have := zdW s.2 k.tail (by simpa [x5] using hf)
  have hn : (y.1 == i) = false := by simp; omega
  simp only [atD, List.find?_cons, hn]
  exact this
theorem zbg : ∀ {l : List (Int × V)}, x ∈ insD l i v → x = (i, v) ∨ x ∈ l
 | [], h => by simp [insD] at h; exact .inl h
 | y :: t, h => by
  unfold insD at h
  split at h
  ·rcases List.mem_cons.1 h with rfl | h
   ·exact .inr (by simp)
   ·rcases zbg h with h | h
    ·exact .inl h
    ·exact .inr (by simp [h])
  ·split at h
   ·rcases List.mem_cons.1 h with rfl | h
    ·exact .inl rfl
    ·exact .inr (by simp [h])
   ·rcases List.mem_cons.1 h with rfl | h
    ·exact .inl rfl
    ·exact .inr h
theorem SortD.ins : ∀ {l : List (Int × V)}, SortD l → SortD (insD l i v)
 | [], _ => by simp [insD, SortD]
 | y :: t, s => by
  have s' := s
  rw [SortD, List.pairwise_cons] at s
  unfold insD
  split
  ·rename_i h
   refine List.pairwise_cons.2 ⟨fun z hz => ?_, SortD.ins s.2⟩
   rcases zbg hz with rfl | hz
   ·exact h
   ·exact s.1 z hz
  ·split
   ·rename_i h
    refine List.pairwise_cons.2 ⟨fun z hz => ?_, s.2⟩
    have := s.1 z hz
    simp only; omega
   ·rename_i h1 h2
    refine List.pairwise_cons.2 ⟨fun z hz => ?_, s'⟩
    rcases List.mem_cons.1 hz with rfl | hz
    ·simp only; omega
    ·have := s.1 z hz
     simp only; omega
theorem zca : ∀ (l : List (Int × V)), atD (insD l i v) j = if j = i then some v else atD l j
 | [] => by
  unfold insD atD
  by_cases h : j = i
  ·subst h; simp
  ·simp [h, Ne.symm h]
 | y :: t => by
  have ih := zca t
  unfold insD
  by_cases h : j = i
  ·subst h
   rw [if_pos rfl] at ih ⊢
   split
   ·rename_i h1
    have hn : (y.1 == j) = false := by simp; omega
    simp only [atD, List.find?_cons, hn]
    exact ih
   ·split
    ·simp [atD]
    ·simp [atD]
  ·rw [if_neg h] at ih ⊢
   split
   ·simp only [atD, List.find?_cons]
    cases hn : (y.1 == j)
    ·exact ih
    ·rfl
   ·split
    ·rename_i h2
     have hn : (y.1 == j) = false := by simp; omega
     have hn2 : (i == j) = false := by simp; omega
     simp only [atD, List.find?_cons, hn, hn2]
    ·have hn2 : (i == j) = false := by simp; omega
     simp only [atD, List.find?_cons, hn2]
theorem zlT (h : ∀ x ∈ l, i < x.1) : atD l i = none := by
 unfold atD
 rw [Option.map_eq_none_iff, List.find?_eq_none]
 intro z hz
 have := h z hz
 simp; omega
theorem SortD.get (s : SortD l) {p q : Nat} {x y : Int × V} (h : q < p) (hx : l[q]? = some x) (hy : l[p]? = some y) : x.1 < y.1 := by
 obtain ⟨h1, rfl⟩ := List.getElem?_eq_some_iff.1 hx
 obtain ⟨h2, rfl⟩ := List.getElem?_eq_some_iff.1 hy
 exact List.pairwise_iff_getElem.1 s q p h1 h2 h
end
section
variable {P : Program} {B : RO} {h0 h h' : Heap} {L : List (Option (Nat × AObj))} {r : Option (Nat × AObj)} {e : TypeId} {sz : Nat} {xs : List Value} {a : Option Addr} {m c : Nat}
theorem Keep.picks (E : Keep B h0 L h) (is : List Nat) (hn : is.Nodup) : Keep B h0 (is.map fun i => L.getD i none) h := by
 refine E.remap (fun j => is.getD j 0) (fun j y hj => ?_) (fun i j hi hj e => ?_)
 ·rw [List.getElem?_map] at hj
  obtain ⟨i, hi, e⟩ := Option.map_eq_some_iff.1 hj
  have : is.getD j 0 = i := by rw [List.getD_eq_getElem?_getD, hi]; rfl
  rw [this]
  rw [List.getD_eq_getElem?_getD] at e
  cases hL : L[i]? with
  | none => rw [hL] at e; cases e
  | some z => rw [hL] at e; exact congrArg some e
 ·rw [List.length_map] at hi hj
  rw [List.getD_eq_getElem?_getD, List.getD_eq_getElem?_getD, List.getElem?_eq_getElem hi, List.getElem?_eq_getElem hj] at e
  have e : is[i] = is[j] := e
  have hp := List.pairwise_iff_getElem.1 hn
  rcases Nat.lt_trichotomy i j with h | h | h
  ·exact absurd e (hp i j hi hj h)
  ·exact h
  ·exact absurd e.symm (hp j i hj hi h)
theorem Keep.dropMid {M N : List (Option (Nat × AObj))} (E : Keep B h0 (L ++ (M ++ N)) h) : Keep B h0 (L ++ N) h := by
 refine E.remap (fun i => if i < L.length then i else i + M.length) (fun i z hi => ?_) (fun i j hi hj e => ?_)
 ·by_cases h1 : i < L.length
  ·rw [List.getElem?_append_left h1] at hi
   rw [if_pos h1, List.getElem?_append_left h1]; exact hi
  ·rw [List.getElem?_append_right (by omega)] at hi
   rw [if_neg h1, List.getElem?_append_right (by omega), List.getElem?_append_right (by omega)]
   rw [show i + M.length - L.length - M.length = i - L.length by omega]; exact hi
 ·have e : (if i < L.length then i else i + M.length) = (if j < L.length then j else j + M.length) := e
  split at e <;> split at e <;> omega
end
open Go Go.RowKit
section
variable {B : RO} {h0 h h' : Heap} {L M : List (Option (Nat × AObj))} {j k n : Nat} {o o' : AObj}
theorem upM (j : Nat) {x : Option (Nat × AObj)} (hj : M[j]? = some x) : (L ++ M)[L.length + j]? = some x := by
 rw [List.getElem?_append_right (by omega), show L.length + j - L.length = j by omega]; exact hj
theorem Keep.gM (E : Keep B h0 (L ++ M) h) (j : Nat) (hj : M[j]? = some (some (k, o))) : h k = some o := E.at (L.length + j) (upM j hj)
theorem Keep.cM (E : Keep B h0 (L ++ M) h) (j : Nat) {i n : Nat} {t : TypeId} {fs : List Fld} {v : Value} (hj : M[j]? = some (some (k, .vec t fs n))) (hi : fs[i]? = some (.plain v)) : cellH B h ⟨k, i, none⟩ = some v := zd (E.gM j hj) hi
theorem Keep.start (E : Keep B h0 L h) : Keep B h0 (L ++ []) h := by rw [List.append_nil]; exact E
theorem Keep.nM (E : Keep B h0 (L ++ M) h) (hk : h k = none) (hb : B k = none) (e : h' = h.set k o) : Keep B h0 (L ++ (M ++ [some (k, o)])) h' := by
 rw [← List.append_assoc]; exact E.made hk hb e
theorem Keep.pM (E : Keep B h0 (L ++ M) h) (j : Nat) (hj : M[j]? = some (some (k, o))) : Keep B h0 (L ++ M.set j (some (k, o'))) (h.set k o') := by
 have := E.put (o' := o') (L.length + j) (upM j hj)
 rwa [List.set_append_right _ _ (by omega), show L.length + j - L.length = j by omega] at this
theorem setM (j : Nat) (x : Option (Nat × AObj)) : (L ++ M).set (L.length + j) x = L ++ M.set j x := by
 rw [List.set_append_right _ _ (by omega), show L.length + j - L.length = j by omega]
theorem Keep.tM (E : Keep B h0 (L ++ M) h) (n : Nat) : Keep B h0 (L ++ M.take n) h := by
 have := E.take (L.length + n)
 rwa [List.take_length_add_append] at this
theorem Keep.zM (E : Keep B h0 (L ++ M) h) : Keep B h0 L h := E.popL
theorem Keep.vM (E : Keep B h0 (L ++ M) h) (j : Nat) {k nn : Nat} {t : TypeId} {fs gs : List Value} (hj : M[j]? = some (some (k, .vec t (zc (fs ++ gs)) nn))) (ys : List Value) (ho : ∀ y ∈ ys, isOne y = true) (o : Nat) (hf : fs.length = o) (hn : o + ys.length ≤ nn) :
  ∃ h', zi ⟨k, o, none⟩ h 0 ys h' ∧ Keep B h0 (L ++ M.set j (some (k, .vec t (zc (fs ++ ys ++ gs.drop ys.length)) nn))) h' := by
 obtain ⟨h', s1, E1⟩ := E.storesV (L.length + j) (upM j hj) ys ho o hf hn
 rw [setM] at E1
 exact ⟨h', s1, E1⟩
theorem Keep.sM (E : Keep B h0 (L ++ M) h) (is : List Nat) (hn : is.Nodup) : Keep B h0 (L ++ is.map fun i => M.getD i none) h := by
 refine E.remap (fun i => if i < L.length then i else L.length + is.getD (i - L.length) 0) (fun i y hy => ?_) (fun i j hi hj e => ?_)
 ·by_cases h1 : i < L.length
  ·simp only [if_pos h1]
   rw [List.getElem?_append_left h1] at hy
   rw [List.getElem?_append_left h1]; exact hy
  ·simp only [if_neg h1]
   rw [List.getElem?_append_right (by omega), List.getElem?_map] at hy
   cases hq : is[i - L.length]? with
   | none => rw [hq] at hy; cases hy
   | some q =>
    rw [hq] at hy
    simp only [Option.map_some, Option.some.injEq] at hy
    rw [List.getD_eq_getElem?_getD] at hy ⊢
    rw [hq]
    simp only [Option.getD_some]
    cases hm : M[q]? with
    | none => rw [hm] at hy; cases hy
    | some z => rw [hm] at hy; simp only [Option.getD_some] at hy; subst hy; exact upM q hm
 ·rw [List.length_append, List.length_map] at hi hj
  have e : (if i < L.length then i else L.length + is.getD (i - L.length) 0) = (if j < L.length then j else L.length + is.getD (j - L.length) 0) := e
  split at e <;> split at e
  ·exact e
  ·omega
  ·omega
  ·rename_i h1 h2
   rw [List.getD_eq_getElem?_getD, List.getD_eq_getElem?_getD, List.getElem?_eq_getElem (by omega), List.getElem?_eq_getElem (by omega)] at e
   simp only [Option.getD_some] at e
   have e2 : is[i - L.length]'(by omega) = is[j - L.length]'(by omega) := by omega
   have hp := List.pairwise_iff_getElem.1 hn
   rcases Nat.lt_trichotomy (i - L.length) (j - L.length) with h | h | h
   ·exact absurd e2 (hp _ _ (by omega) (by omega) h)
   ·omega
   ·exact absurd e2.symm (hp _ _ (by omega) (by omega) h)
end
noncomputable def zgn (l : List UInt8) : Option (Nat × List UInt8) :=
 open Classical in if h : ∃ p : Nat × List UInt8, l = natB p.1 ++ p.2 ∧ p.1 < 18446744073709551616 then some (Classical.choose h) else none
theorem zhf {l : List UInt8} (h : ∀ n r, l = natB n ++ r → ¬ n < 18446744073709551616) : zgn l = none := by
 unfold zgn
 rw [dif_neg]
 rintro ⟨p, h1, h2⟩
 exact h _ _ h1 h2
theorem zfT {m : Nat} {b : UInt8} {r t : List UInt8} (hb : b.toNat < 128) : b :: t = natB m ++ r ↔ m = b.toNat ∧ t = r := by
 by_cases hm : m < 128
 ·rw [zlB hm]
  simp only [List.cons_append, List.nil_append, List.cons.injEq]
  constructor
  ·rintro ⟨h1, h2⟩
   refine ⟨?_, h2⟩
   rw [h1, UInt8.toNat_ofNat']; omega
  ·rintro ⟨h1, h2⟩
   refine ⟨?_, h2⟩
   rw [h1]; simp
 ·rw [zlA hm]
  constructor
  ·intro h
   simp only [List.cons_append, List.cons.injEq] at h
   rw [h.1, UInt8.toNat_ofNat'] at hb
   omega
  ·intro h; omega
def Half (l : List UInt8) (k acc : Nat) (rest : List UInt8) : Prop :=
 acc < 2 ^ (7 * k) ∧ rest.length + k = l.length ∧ ∀ n r, l = natB n ++ r ↔ rest = natB (n / 2 ^ (7 * k)) ++ r ∧ n % 2 ^ (7 * k) = acc ∧ (0 < k → 2 ^ (7 * k) ≤ n)
theorem Half.zero (l : List UInt8) : Half l 0 0 l := ⟨by simp, rfl, fun n r => by simp [Nat.mod_one]⟩
theorem Half.done {l t : List UInt8} {k acc : Nat} {b : UInt8} (h : Half l k acc (b :: t)) (hb : b.toNat < 128) (h0 : 0 < k → b.toNat ≠ 0) : l = natB (acc + b.toNat * 2 ^ (7 * k)) ++ t := by
 obtain ⟨h1, h2, h3⟩ := h
 have hpos : 0 < 2 ^ (7 * k) := Nat.two_pow_pos _
 refine (h3 _ _).2 ⟨(zfT hb).2 ⟨?_, rfl⟩, ?_, fun hk => ?_⟩
 ·rw [Nat.add_mul_div_right _ _ hpos, Nat.div_eq_of_lt h1, Nat.zero_add]
 ·rw [Nat.add_mul_mod_self_right, Nat.mod_eq_of_lt h1]
 ·have := h0 hk
  have : 1 * 2 ^ (7 * k) ≤ b.toNat * 2 ^ (7 * k) := Nat.mul_le_mul_right _ (by omega)
  omega
theorem Half.empty {l : List UInt8} {k acc : Nat} (h : Half l k acc []) : zgn l = none := by
 refine zhf fun n r e => ?_
 have := ((h.2.2 n r).1 e).1
 have h2 := zkP (n / 2 ^ (7 * k))
 have h3 := congrArg List.length this
 simp only [List.length_nil, List.length_append] at h3
 omega
theorem ziG (s : ByteArray) (i j : Nat) : bl (s.extract i j) = ((bl s).drop i).take (j - i) := by
 unfold bl
 rw [ByteArray.data_extract, Array.toList_extract, List.extract_eq_take_drop]
end Go.Proofs.YtgldgabefiialaaGreat.H
