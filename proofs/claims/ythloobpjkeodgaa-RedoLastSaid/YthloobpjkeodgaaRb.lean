/- Redo: what loads are (plain). No condition. -/
import Derived.Test.YthloobpjkeodgaaRa
import Derived.Test.YthloobpjkeodgaaTe
import Derived.Test.YthloobpjkeodgaaKh
namespace Go.Proofs.Ythloobpjkeodgaa.H
open Go Go.RowKit
set_option linter.unusedVariables false
set_option maxRecDepth 100000

abbrev ChR := Int × (Bool × ByteArray)
def chB (x : ChR) : List UInt8 := natI x.1 ++ (if x.2.1 = true then (1 : UInt8) :: (natB x.2.2.size ++ bl x.2.2) else [0])
def loadB (n : Int) (l : DFL) : List UInt8 := natI n ++ l.flatMap chB
theorem natB_0 : natB 0 = [0] := by rw [natB_lo (by omega)]; rfl
theorem natB_1 : natB 1 = [1] := by rw [natB_lo (by omega)]; rfl
theorem natI_nat (n : Nat) : natI (n : Int) = natB n := by rw [natI, if_neg (by omega), Int.toNat_natCast]
/-- A number, at most so great. -/
noncomputable def natT (most : Nat) (l : List UInt8) : Option (Nat × List UInt8) :=
  match wordOf l with
  | none => none
  | some (n, r) => if most < n then none else some (n, r)
theorem natT_some {most n : Nat} {l r : List UInt8} (h : natT most l = some (n, r)) : wordOf l = some (n, r) ∧ n ≤ most := by
  unfold natT at h
  cases hw : wordOf l with
  | none => rw [hw] at h; cases h
  | some p =>
    obtain ⟨n', r'⟩ := p
    rw [hw] at h
    simp only at h
    split at h
    · cases h
    · cases h; exact ⟨rfl, by omega⟩
theorem natT_eq {most n : Nat} {l r : List UInt8} (h : natT most l = some (n, r)) : l = natB n ++ r ∧ n ≤ most := ⟨(wordOf_eq (natT_some h).1).1, (natT_some h).2⟩
theorem natT_ok {most n : Nat} (hn : n ≤ most) (hm : most < 18446744073709551616) (r : List UInt8) : natT most (natB n ++ r) = some (n, r) := by
  rw [natT, wordOf_some rfl (by omega)]; simp; omega
theorem rNat_none {most : Nat} {l : List UInt8} (h : natT most l = none) : rNat most l false = (0, [], true) := by
  unfold natT at h
  cases hw : wordOf l with
  | none => rw [rNat, rWord_none hw]; simp
  | some p =>
    obtain ⟨n', r'⟩ := p
    rw [hw] at h
    simp only at h
    split at h
    · rw [rNat, rWord_some hw]; simp; omega
    · cases h
theorem rNat_some {most n : Nat} {l r : List UInt8} (h : natT most l = some (n, r)) : rNat most l false = (n, r, false) := by
  obtain ⟨hw, hn⟩ := natT_some h
  rw [rNat, rWord_some hw, if_neg (by simp only; omega)]
theorem rNat_bad (most : Int) : rNat most [] true = (0, [], true) := by
  rw [rNat, rWord_bad]; simp
theorem rText_none {most : Nat} {l : List UInt8} (h : natT most l = none) : rText most l false = ([], [], true) := by
  rw [rText, rNat_none h]; simp [rRaw]
theorem rText_short {most n : Nat} {l r : List UInt8} (h : natT most l = some (n, r)) (hs : r.length < n) : rText most l false = ([], [], true) := by
  rw [rText, rNat_some h, rRaw, if_pos (by simp only; omega)]
theorem rText_some {most n : Nat} {l r : List UInt8} (h : natT most l = some (n, r)) (hs : ¬ r.length < n) : rText most l false = (r.take n, r.drop n, false) := by
  rw [rText, rNat_some h, rRaw, if_neg (by simp only; simp; omega)]; simp
/-- One change of the bytes. -/
noncomputable def stepC (l : List UInt8) : Option (ChR × List UInt8) :=
  match natT 5 l with
  | none => none
  | some (i, r) => match natT 1 r with
    | none => none
    | some (k, r2) => if k = 1 then (match natT 32 r2 with
        | none => none
        | some (n, r3) => if r3.length < n then none else some (((i : Int), true, ba (r3.take n)), r3.drop n))
      else some (((i : Int), false, ByteArray.empty), r2)
theorem stepC_0 {l : List UInt8} (h : natT 5 l = none) : stepC l = none := by rw [stepC, h]
theorem stepC_1 {l r : List UInt8} {i : Nat} (h : natT 5 l = some (i, r)) (h1 : natT 1 r = none) : stepC l = none := by rw [stepC, h]; simp [h1]
theorem stepC_off {l r r2 : List UInt8} {i k : Nat} (h : natT 5 l = some (i, r)) (h1 : natT 1 r = some (k, r2)) (hk : k ≠ 1) : stepC l = some (((i : Int), false, ByteArray.empty), r2) := by rw [stepC, h]; simp [h1, hk]
theorem stepC_2 {l r r2 : List UInt8} {i : Nat} (h : natT 5 l = some (i, r)) (h1 : natT 1 r = some (1, r2)) (h2 : natT 32 r2 = none) : stepC l = none := by rw [stepC, h]; simp [h1, h2]
theorem stepC_3 {l r r2 r3 : List UInt8} {i n : Nat} (h : natT 5 l = some (i, r)) (h1 : natT 1 r = some (1, r2)) (h2 : natT 32 r2 = some (n, r3)) (hs : r3.length < n) : stepC l = none := by rw [stepC, h]; simp [h1, h2, hs]
theorem stepC_on {l r r2 r3 : List UInt8} {i n : Nat} (h : natT 5 l = some (i, r)) (h1 : natT 1 r = some (1, r2)) (h2 : natT 32 r2 = some (n, r3)) (hs : ¬ r3.length < n) : stepC l = some (((i : Int), true, ba (r3.take n)), r3.drop n) := by rw [stepC, h]; simp [h1, h2, hs]
/-- A change that can be. -/
def GoodC (x : ChR) : Prop := 0 ≤ x.1 ∧ x.1 ≤ 5 ∧ goodF x.2.1 x.2.2 = true
theorem stepC_some {l r : List UInt8} {x : ChR} (h : stepC l = some (x, r)) : GoodC x ∧ l = chB x ++ r := by
  cases h0 : natT 5 l with
  | none => rw [stepC_0 h0] at h; cases h
  | some p =>
    obtain ⟨i, r1⟩ := p
    obtain ⟨e0, hi⟩ := natT_eq h0
    cases h1 : natT 1 r1 with
    | none => rw [stepC_1 h0 h1] at h; cases h
    | some p =>
      obtain ⟨k, r2⟩ := p
      obtain ⟨e1, hk⟩ := natT_eq h1
      by_cases hk1 : k = 1
      · subst hk1
        cases h2 : natT 32 r2 with
        | none => rw [stepC_2 h0 h1 h2] at h; cases h
        | some p =>
          obtain ⟨n, r3⟩ := p
          obtain ⟨e2, hn⟩ := natT_eq h2
          by_cases hs : r3.length < n
          · rw [stepC_3 h0 h1 h2 hs] at h; cases h
          · rw [stepC_on h0 h1 h2 hs] at h
            cases h
            have hl : (r3.take n).length = n := by rw [List.length_take]; omega
            refine ⟨⟨by simp only; omega, by simp only; omega, ?_⟩, ?_⟩
            · unfold goodF; simp only [ba_size, hl]; simp; exact hn
            · unfold chB
              simp only [if_true, natI_nat, ba_size, hl, bl_ba]
              rw [e0, e1, e2, natB_1]
              simp [List.append_assoc]
      · rw [stepC_off h0 h1 hk1] at h
        cases h
        have : k = 0 := by omega
        subst this
        refine ⟨⟨by simp only; omega, by simp only; omega, rfl⟩, ?_⟩
        unfold chB
        simp only [natI_nat]
        rw [e0, e1, natB_0]
        simp
theorem chB_pos (x : ChR) : 0 < (chB x).length := by unfold chB; split <;> simp <;> omega
theorem stepC_lt {l r : List UInt8} {x : ChR} (h : stepC l = some (x, r)) : r.length < l.length := by
  have e := (stepC_some h).2
  have := chB_pos x
  rw [e, List.length_append]; omega
theorem stepC_ok {x : ChR} (g : GoodC x) (r : List UInt8) : stepC (chB x ++ r) = some (x, r) := by
  obtain ⟨i, b, s⟩ := x
  obtain ⟨g1, g2, g3⟩ := g
  simp only at g1 g2 g3
  obtain ⟨n, rfl⟩ := Int.eq_ofNat_of_zero_le g1
  have hn : n ≤ 5 := by omega
  cases b with
  | true =>
    have hs : s.size ≤ 32 := by unfold goodF at g3; simp at g3; exact g3
    have e0 : natT 5 (chB ((n : Int), true, s) ++ r) = some (n, 1 :: (natB s.size ++ bl s) ++ r) := by
      unfold chB; simp only [natI_nat, if_true, List.append_assoc]; exact natT_ok hn (by omega) _
    have e1 : natT 1 (1 :: (natB s.size ++ bl s) ++ r) = some (1, natB s.size ++ (bl s ++ r)) := by
      have := natT_ok (most := 1) (n := 1) (by omega) (by omega) (natB s.size ++ (bl s ++ r))
      rw [natB_1] at this
      simpa [List.append_assoc] using this
    have e2 : natT 32 (natB s.size ++ (bl s ++ r)) = some (s.size, bl s ++ r) := natT_ok hs (by omega) _
    have := bl_length s
    rw [stepC_on e0 e1 e2 (by rw [List.length_append]; omega), ← this, List.take_left, List.drop_left, ba_bl]
  | false =>
    have hs : s = ByteArray.empty := by
      unfold goodF at g3; simp at g3; exact g3.2
    subst hs
    have e0 : natT 5 (chB ((n : Int), false, ByteArray.empty) ++ r) = some (n, 0 :: r) := by
      unfold chB; simp only [natI_nat]; rw [List.append_assoc]; exact natT_ok hn (by omega) _
    have e1 : natT 1 (0 :: r) = some (0, r) := by
      have := natT_ok (most := 1) (n := 0) (by omega) (by omega) r
      rw [natB_0] at this
      exact this
    exact stepC_off e0 e1 (by omega)
/-- All changes of the bytes. -/
noncomputable def readC (l : List UInt8) (last : Int) : Option DFL :=
  if l = [] then some [] else
  match h : stepC l with
  | none => none
  | some (x, r) => if x.1 ≤ last then none else (readC r x.1).map (x :: ·)
termination_by l.length
decreasing_by exact stepC_lt h
theorem readC_nil (last : Int) : readC [] last = some [] := by rw [readC, if_pos rfl]
theorem readC_none {l : List UInt8} {last : Int} (h0 : l ≠ []) (h : stepC l = none) : readC l last = none := by
  rw [readC, if_neg h0]
  split
  · rfl
  · rename_i h2; rw [h] at h2; cases h2
theorem readC_some {l r : List UInt8} {x : ChR} {last : Int} (h : stepC l = some (x, r)) : readC l last = if x.1 ≤ last then none else (readC r x.1).map (x :: ·) := by
  have h0 : l ≠ [] := fun e => by have := stepC_lt h; rw [e] at this; simp at this
  rw [readC, if_neg h0]
  split
  · rename_i h2; rw [h] at h2; cases h2
  · rename_i h2; rw [h] at h2; cases h2; rfl
theorem readC_props : ∀ (n : Nat) (l : List UInt8) (last : Int) (xs : DFL), l.length ≤ n → readC l last = some xs → l = xs.flatMap chB ∧ SortD xs ∧ (∀ x ∈ xs, GoodC x ∧ last < x.1)
  | 0, l, last, xs, hl, h => by
    have : l = [] := List.length_eq_zero_iff.1 (by omega)
    subst this
    rw [readC_nil] at h; cases h
    exact ⟨rfl, List.Pairwise.nil, fun x hx => by cases hx⟩
  | n + 1, l, last, xs, hl, h => by
    by_cases h0 : l = []
    · subst h0
      rw [readC_nil] at h; cases h
      exact ⟨rfl, List.Pairwise.nil, fun x hx => by cases hx⟩
    · cases hs : stepC l with
      | none => rw [readC_none h0 hs] at h; cases h
      | some p =>
        obtain ⟨x, r⟩ := p
        rw [readC_some hs] at h
        split at h
        · cases h
        · rename_i hlt
          cases hr : readC r x.1 with
          | none => rw [hr] at h; cases h
          | some ys =>
            rw [hr] at h
            cases h
            have := stepC_lt hs
            obtain ⟨e1, e2, e3⟩ := readC_props n r x.1 ys (by omega) hr
            obtain ⟨g, e⟩ := stepC_some hs
            refine ⟨by rw [List.flatMap_cons, ← e1]; exact e, List.pairwise_cons.2 ⟨fun y hy => (e3 y hy).2, e2⟩, fun y hy => ?_⟩
            rcases List.mem_cons.1 hy with rfl | hy
            · exact ⟨g, by omega⟩
            · exact ⟨(e3 y hy).1, by have := (e3 y hy).2; omega⟩
theorem readC_back : ∀ (xs : DFL) (last : Int), SortD xs → (∀ x ∈ xs, GoodC x ∧ last < x.1) → readC (xs.flatMap chB) last = some xs
  | [], last, _, _ => readC_nil last
  | x :: xs, last, s, g => by
    obtain ⟨s1, s2⟩ := List.pairwise_cons.1 s
    obtain ⟨gx, hx⟩ := g x (by simp)
    rw [List.flatMap_cons, readC_some (stepC_ok gx _), if_neg (by omega), readC_back xs x.1 s2 (fun y hy => ⟨(g y (by simp [hy])).1, s1 y hy⟩)]
    rfl
/-- What a load's bytes are: a number, and changes. -/
noncomputable def loadOf (l : List UInt8) : Option (Nat × DFL) :=
  match natT 1099511627776 l with
  | none => none
  | some (n, r) => (readC r (-1)).map fun xs => (n, xs)
theorem loadOf_none {l : List UInt8} (h : natT 1099511627776 l = none) : loadOf l = none := by rw [loadOf, h]
theorem loadOf_eq {l r : List UInt8} {n : Nat} (h : natT 1099511627776 l = some (n, r)) : loadOf l = (readC r (-1)).map fun xs => (n, xs) := by rw [loadOf, h]
theorem loadOf_some {l : List UInt8} {n : Nat} {xs : DFL} (h : loadOf l = some (n, xs)) : l = loadB n xs ∧ SortD xs ∧ (∀ x ∈ xs, GoodC x) ∧ n ≤ 1099511627776 := by
  cases h0 : natT 1099511627776 l with
  | none => rw [loadOf_none h0] at h; cases h
  | some p =>
    obtain ⟨m, r⟩ := p
    rw [loadOf_eq h0] at h
    cases hr : readC r (-1) with
    | none => rw [hr] at h; cases h
    | some ys =>
      rw [hr] at h
      cases h
      obtain ⟨e1, e2, e3⟩ := readC_props _ r (-1) xs (Nat.le_refl _) hr
      obtain ⟨e0, hm⟩ := natT_eq h0
      exact ⟨by rw [loadB, natI_nat, ← e1]; exact e0, e2, fun x hx => (e3 x hx).1, hm⟩
theorem loadOf_back {n : Nat} {xs : DFL} (hn : n ≤ 1099511627776) (s : SortD xs) (g : ∀ x ∈ xs, GoodC x) : loadOf (loadB n xs) = some (n, xs) := by
  have e0 : natT 1099511627776 (loadB n xs) = some (n, xs.flatMap chB) := by rw [loadB, natI_nat]; exact natT_ok hn (by omega) _
  rw [loadOf_eq e0, readC_back xs (-1) s (fun x hx => ⟨g x hx, by have := (g x hx).1; omega⟩)]
  rfl
theorem sortGood_aux : ∀ (d : DFL) (lo : Int), SortD d → (∀ x ∈ d, lo ≤ x.1 ∧ x.1 ≤ 5) → lo ≤ 6 → (d.length : Int) ≤ 6 - lo
  | [], lo, _, _, h => by simp; omega
  | x :: d, lo, s, g, h => by
    obtain ⟨s1, s2⟩ := List.pairwise_cons.1 s
    have g0 := g x (by simp)
    have := sortGood_aux d (x.1 + 1) s2 (fun y hy => ⟨by have := s1 y hy; omega, (g y (by simp [hy])).2⟩) (by omega)
    rw [List.length_cons]; omega
theorem sortGood_len (d : DFL) (s : SortD d) (g : ∀ x ∈ d, GoodC x) : d.length ≤ 6 := by
  have := sortGood_aux d 0 s (fun x hx => ⟨(g x hx).1, (g x hx).2.1⟩) (by omega)
  omega
/-- A change, done to files. -/
def apC (ver : Int) (l : FL) (x : ChR) : FL := l.set x.1.toNat (x.2, ver)
def apCs (ver : Int) (l : FL) (xs : DFL) : FL := xs.foldl (apC ver) l
theorem apCs_cons (ver : Int) (l : FL) (x : ChR) (xs : DFL) : apCs ver l (x :: xs) = apCs ver (apC ver l x) xs := rfl
theorem apCs_len (ver : Int) : ∀ (xs : DFL) (l : FL), (apCs ver l xs).length = l.length
  | [], l => rfl
  | x :: xs, l => by rw [apCs_cons, apCs_len ver xs]; simp [apC]
theorem apCs_snoc (ver : Int) (l : FL) (xs : DFL) (x : ChR) : apCs ver l (xs ++ [x]) = apC ver (apCs ver l xs) x := by unfold apCs; rw [List.foldl_append]; rfl
theorem apCs_app (ver : Int) (l : FL) (xs ys : DFL) : apCs ver l (xs ++ ys) = apCs ver (apCs ver l xs) ys := by unfold apCs; rw [List.foldl_append]
theorem apCs_take (ver : Int) (l : FL) {xs : DFL} {j : Nat} {x : ChR} (h : xs[j]? = some x) : apCs ver l (xs.take (j + 1)) = apC ver (apCs ver l (xs.take j)) x := by
  obtain ⟨hq, rfl⟩ := List.getElem?_eq_some_iff.1 h
  rw [List.take_succ_eq_append_getElem hq, apCs_snoc]
theorem setF_good {l : FL} {x : ChR} (g : GoodC x) (h6 : l.length = 6) (ver : Int) : setF l x.1 x.2.1 x.2.2 ver = apC ver l x := by
  obtain ⟨g1, g2, g3⟩ := g
  unfold setF setB
  rw [g3, decide_eq_true (show 0 ≤ x.1 ∧ x.1 < (l.length : Int) by omega)]
  rfl
theorem apCs_off (ver : Int) : ∀ (xs : DFL) (l : FL) (q : Nat), (∀ x ∈ xs, x.1.toNat ≠ q) → (apCs ver l xs)[q]? = l[q]?
  | [], l, q, _ => rfl
  | x :: xs, l, q, h => by
    rw [apCs_cons, apCs_off ver xs _ q (fun y hy => h y (by simp [hy])), apC, List.getElem?_set_ne (h x (by simp))]
theorem apCs_on (ver : Int) : ∀ (xs : DFL) (l l' : FL) (q : Nat), l.length = l'.length → (∃ x ∈ xs, x.1.toNat = q) → (apCs ver l xs)[q]? = (apCs ver l' xs)[q]?
  | [], l, l', q, _, h => by obtain ⟨x, hx, _⟩ := h; cases hx
  | x :: xs, l, l', q, hl, h => by
    rw [apCs_cons, apCs_cons]
    by_cases h2 : ∃ y ∈ xs, y.1.toNat = q
    · exact apCs_on ver xs _ _ q (by simp [apC, hl]) h2
    · have h3 : ∀ y ∈ xs, y.1.toNat ≠ q := fun y hy e => h2 ⟨y, hy, e⟩
      rw [apCs_off ver xs _ q h3, apCs_off ver xs _ q h3]
      obtain ⟨y, hy, e⟩ := h
      rcases List.mem_cons.1 hy with rfl | hy
      · subst e
        simp only [apC]
        by_cases hq : y.1.toNat < l.length
        · rw [List.getElem?_set_self hq, List.getElem?_set_self (by omega)]
        · rw [List.getElem?_eq_none (by simp; omega), List.getElem?_eq_none (by simp; omega)]
      · exact absurd e (h3 y hy)
theorem apCs_twice (ver : Int) (l : FL) (xs : DFL) : apCs ver (apCs ver l xs) xs = apCs ver l xs := by
  refine List.ext_getElem? fun q => ?_
  by_cases h : ∃ x ∈ xs, x.1.toNat = q
  · exact apCs_on ver xs _ _ q (apCs_len ver xs l) h
  · exact apCs_off ver xs _ q fun x hx e => h ⟨x, hx, e⟩
theorem apCs_ver (ver : Int) : ∀ (xs : DFL) (l : FL) (q : Nat), q < l.length → (∃ x ∈ xs, x.1.toNat = q) → ∃ f, (apCs ver l xs)[q]? = some (f, ver)
  | [], l, q, _, h => by obtain ⟨x, hx, _⟩ := h; cases hx
  | x :: xs, l, q, hl, h => by
    rw [apCs_cons]
    by_cases h2 : ∃ y ∈ xs, y.1.toNat = q
    · exact apCs_ver ver xs _ q (by simp [apC, hl]) h2
    · have h3 : ∀ y ∈ xs, y.1.toNat ≠ q := fun y hy e => h2 ⟨y, hy, e⟩
      rw [apCs_off ver xs _ q h3]
      obtain ⟨y, hy, e⟩ := h
      rcases List.mem_cons.1 hy with rfl | hy
      · subst e
        exact ⟨y.2, by rw [apC, List.getElem?_set_self hl]⟩
      · exact absurd e (h3 y hy)
/-- The loads ahead of the first one that is none. -/
noncomputable def goods : List ByteArray → List (Nat × DFL)
  | [] => []
  | b :: t => match loadOf (bl b) with
    | none => []
    | some p => p :: goods t
theorem goods_none {b : ByteArray} {t : List ByteArray} (h : loadOf (bl b) = none) : goods (b :: t) = [] := by rw [goods, h]
theorem goods_some {b : ByteArray} {t : List ByteArray} {p : Nat × DFL} (h : loadOf (bl b) = some p) : goods (b :: t) = p :: goods t := by rw [goods, h]
theorem goods_len : ∀ (l : List ByteArray), (goods l).length ≤ l.length
  | [] => Nat.le_refl _
  | b :: t => by
    cases h : loadOf (bl b) with
    | none => rw [goods_none h]; simp
    | some p => rw [goods_some h]; simp; exact goods_len t
theorem goods_get : ∀ {l : List ByteArray} {j : Nat} {b : ByteArray}, l[j]? = some b → j < (goods l).length → loadOf (bl b) = (goods l)[j]?
  | [], j, b, h, _ => by simp at h
  | c :: t, j, b, h, hj => by
    cases hc : loadOf (bl c) with
    | none => rw [goods_none hc] at hj; simp at hj
    | some p =>
      rw [goods_some hc] at hj ⊢
      cases j with
      | zero => simp at h; subst h; simpa using hc
      | succ j =>
        simp only [List.getElem?_cons_succ] at h ⊢
        exact goods_get h (by simpa using hj)
theorem goods_end : ∀ {l : List ByteArray} {b : ByteArray}, l[(goods l).length]? = some b → loadOf (bl b) = none
  | [], b, h => by simp at h
  | c :: t, b, h => by
    cases hc : loadOf (bl c) with
    | none => rw [goods_none hc] at h; simp at h; subst h; exact hc
    | some p =>
      rw [goods_some hc] at h
      simp only [List.length_cons, List.getElem?_cons_succ] at h
      exact goods_end h
def chsOf (l : List (Nat × DFL)) : DFL := l.flatMap (·.2)
def lastOf (l : List (Nat × DFL)) : Int := l.foldl (fun m p => if ((p.1 : Nat) : Int) > m then ((p.1 : Nat) : Int) else m) 0
theorem chsOf_take {l : List (Nat × DFL)} {j : Nat} {p : Nat × DFL} (h : l[j]? = some p) : chsOf (l.take (j + 1)) = chsOf (l.take j) ++ p.2 := by
  obtain ⟨hq, rfl⟩ := List.getElem?_eq_some_iff.1 h
  rw [List.take_succ_eq_append_getElem hq, chsOf, List.flatMap_append]; simp [chsOf]
theorem lastOf_take {l : List (Nat × DFL)} {j : Nat} {p : Nat × DFL} (h : l[j]? = some p) : lastOf (l.take (j + 1)) = if ((p.1 : Nat) : Int) > lastOf (l.take j) then ((p.1 : Nat) : Int) else lastOf (l.take j) := by
  obtain ⟨hq, rfl⟩ := List.getElem?_eq_some_iff.1 h
  rw [List.take_succ_eq_append_getElem hq, lastOf, List.foldl_append]; rfl
end Go.Proofs.Ythloobpjkeodgaa.H
