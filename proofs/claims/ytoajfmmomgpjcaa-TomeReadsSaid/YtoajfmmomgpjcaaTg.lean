/- Tomes: what reading bytes answers (plain). No condition. -/
import Derived.Test.YtoajfmmomgpjcaaTe
import Derived.Test.YtoajfmmomgpjcaaKh
namespace Go.Proofs.Ytoajfmmomgpjcaa.H
open Go Go.RowKit
set_option linter.unusedVariables false
set_option maxRecDepth 100000

/-- One file of the bytes: its number, its text, what is left. -/
noncomputable def stepR (l : List UInt8) : Option (Nat × List UInt8 × List UInt8) :=
  match wordOf l with
  | none => none
  | some (i, r) => if 5 < i then none else match wordOf r with
    | none => none
    | some (n, r2) => if 32 < n ∨ r2.length < n then none else some (i, r2.take n, r2.drop n)
theorem stepR_w0 {l : List UInt8} (h : wordOf l = none) : stepR l = none := by rw [stepR, h]
theorem stepR_i {l r : List UInt8} {i : Nat} (h : wordOf l = some (i, r)) (hi : 5 < i) : stepR l = none := by rw [stepR, h]; simp [hi]
theorem stepR_w1 {l r : List UInt8} {i : Nat} (h : wordOf l = some (i, r)) (h2 : wordOf r = none) : stepR l = none := by rw [stepR, h]; simp [h2]
theorem stepR_n {l r r2 : List UInt8} {i n : Nat} (h : wordOf l = some (i, r)) (h2 : wordOf r = some (n, r2)) (hn : 32 < n ∨ r2.length < n) : stepR l = none := by rw [stepR, h]; simp [h2, hn]
theorem stepR_ok {l r r2 : List UInt8} {i n : Nat} (h : wordOf l = some (i, r)) (hi : ¬ 5 < i) (h2 : wordOf r = some (n, r2)) (hn : ¬ (32 < n ∨ r2.length < n)) : stepR l = some (i, r2.take n, r2.drop n) := by
  rw [stepR, h]; simp only [if_neg hi, h2, if_neg hn]
theorem stepR_some {l t r : List UInt8} {i : Nat} (h : stepR l = some (i, t, r)) : i ≤ 5 ∧ t.length ≤ 32 ∧ l = natB i ++ (natB t.length ++ t) ++ r := by
  unfold stepR at h
  split at h
  · cases h
  · rename_i i' r' hw
    split at h
    · cases h
    · rename_i hi
      split at h
      · cases h
      · rename_i n r2 hw2
        split at h
        · cases h
        · rename_i hn
          simp only [Option.some.injEq, Prod.mk.injEq] at h
          obtain ⟨rfl, rfl, rfl⟩ := h
          have e1 := (wordOf_eq hw).1
          have e2 := (wordOf_eq hw2).1
          have hl : (r2.take n).length = n := by rw [List.length_take]; omega
          refine ⟨by omega, by omega, ?_⟩
          rw [hl, e1, e2]
          simp [List.append_assoc]
theorem stepR_lt {l t r : List UInt8} {i : Nat} (h : stepR l = some (i, t, r)) : r.length < l.length := by
  have e := (stepR_some h).2.2
  have := natB_pos i
  rw [e]
  simp only [List.length_append]; omega
theorem stepR_file {i : Nat} {s : ByteArray} (hi : i ≤ 5) (hs : s.size ≤ 32) (r : List UInt8) : stepR (fileB ((i : Int), true, s) ++ r) = some (i, bl s, r) := by
  have e1 : natI (i : Int) = natB i := by rw [natI, if_neg (by omega), Int.toNat_natCast]
  have hw : wordOf (fileB ((i : Int), true, s) ++ r) = some (i, natB s.size ++ bl s ++ r) := wordOf_some (by unfold fileB; rw [e1]; simp [List.append_assoc]) (by omega)
  have hw2 : wordOf (natB s.size ++ bl s ++ r) = some (s.size, bl s ++ r) := wordOf_some (by simp [List.append_assoc]) (by omega)
  have := bl_length s
  rw [stepR_ok hw (by omega) hw2 (by rw [List.length_append]; omega), ← this, List.take_left, List.drop_left]
/-- All files of the bytes. -/
noncomputable def readG (l : List UInt8) (last : Int) (z : FL) : Option FL :=
  if l = [] then some z else
  match h : stepR l with
  | none => none
  | some (i, t, r) => if (i : Int) ≤ last then none else readG r i (z.set i ((true, ba t), 0))
termination_by l.length
decreasing_by exact stepR_lt h
theorem readG_nil (last : Int) (z : FL) : readG [] last z = some z := by rw [readG, if_pos rfl]
theorem readG_none {l : List UInt8} {last : Int} {z : FL} (h0 : l ≠ []) (h : stepR l = none) : readG l last z = none := by
  rw [readG, if_neg h0]
  split
  · rfl
  · rename_i h2; rw [h] at h2; cases h2
theorem readG_some {l t r : List UInt8} {i : Nat} {last : Int} {z : FL} (h : stepR l = some (i, t, r)) : readG l last z = if (i : Int) ≤ last then none else readG r i (z.set i ((true, ba t), 0)) := by
  have h0 : l ≠ [] := fun e => by have := stepR_lt h; rw [e] at this; simp at this
  rw [readG, if_neg h0]
  split
  · rename_i h2; rw [h] at h2; cases h2
  · rename_i h2; rw [h] at h2; cases h2; rfl
/-- What holds while bytes are read. -/
structure StR (z : FL) (last : Int) : Prop where
  n6 : z.length = 6
  lo : -1 ≤ last
  hi : last < 6
  off : ∀ (q : Nat) (x : FileS × Int), last < (q : Int) → z[q]? = some x → x = ((false, ByteArray.empty), 0)
  on : ∀ x, 0 ≤ last → z[last.toNat]? = some x → x.1.1 = true
  v0 : ∀ x ∈ z, x.2 = 0
  ok : TomeOk z
theorem StR.zero : StR zF (-1) := ⟨rfl, by omega, by omega, fun q x _ h => by
    have := List.mem_of_getElem? h
    exact (List.mem_replicate.1 this).2, fun x h => by omega, fun x hx => by rw [(List.mem_replicate.1 hx).2], TomeOk.zero⟩
theorem ba_small {t : List UInt8} (h : t.length ≤ 32) : (ba t).size ≤ 32 := by rw [ba_size]; exact h
theorem StR.step {z : FL} {last : Int} (k : StR z last) {i : Nat} (hi : i ≤ 5) (hl : ¬ (i : Int) ≤ last) {t : List UInt8} (ht : t.length ≤ 32) : StR (z.set i ((true, ba t), 0)) i := by
  have h6 := k.n6
  refine ⟨by rw [List.length_set]; exact k.n6, by omega, by omega, fun q x hq hx => ?_, fun x _ hx => ?_, fun x hx => ?_, ?_⟩
  · rw [List.getElem?_set_ne (by omega)] at hx
    exact k.off q x (by omega) hx
  · rw [Int.toNat_natCast, List.getElem?_set_self (by omega)] at hx
    cases hx; rfl
  · rcases List.mem_or_eq_of_mem_set hx with h | rfl
    · exact k.v0 x h
    · rfl
  · have e : z.set i ((true, ba t), 0) = setF z i true (ba t) 0 := by
      have hb : setB z i true (ba t) = true := by
        unfold setB goodF
        rw [decide_eq_true (ba_small ht), decide_eq_true (show 0 ≤ (i : Int) ∧ (i : Int) < (z.length : Int) by omega)]; rfl
      rw [setF, hb]; rfl
    rw [e]; exact k.ok.set _ _ _ _
theorem StR.le_iff {z : FL} {last : Int} (k : StR z last) {i : Nat} : (i : Int) ≤ last ↔ ∃ q x, i ≤ q ∧ z[q]? = some x ∧ x.1.1 = true := by
  have h6 := k.n6
  constructor
  · intro h
    have h2 := k.hi
    have hx := List.getElem?_eq_getElem (l := z) (i := last.toNat) (by omega)
    exact ⟨last.toNat, _, by omega, hx, k.on _ (by omega) hx⟩
  · rintro ⟨q, x, h1, h2, h3⟩
    by_cases hq : last < (q : Int)
    · rw [k.off q x hq h2] at h3; cases h3
    · omega
def allN (n : Nat) (l : FL) : List (Int × Bool × ByteArray) := (l.zipIdx n).map fun p => ((p.2 : Int), p.1.1.1, p.1.1.2)
def filesN (n : Nat) (l : FL) : List (Int × Bool × ByteArray) := (allN n l).filter fun x => x.2.1
theorem filesN_append (n : Nat) (l m : FL) : filesN n (l ++ m) = filesN n l ++ filesN (n + l.length) m := by
  unfold filesN allN
  rw [List.zipIdx_append, List.map_append, List.filter_append]
theorem filesN_cons (n : Nat) (x : FileS × Int) (l : FL) : filesN n (x :: l) = (if x.1.1 = true then [((n : Int), true, x.1.2)] else []) ++ filesN (n + 1) l := by
  unfold filesN allN
  rw [List.zipIdx_cons, List.map_cons, List.filter_cons]
  by_cases h : x.1.1 = true
  · simp [h]
  · simp [h]
theorem filesN_off : ∀ (l : FL) (n : Nat), (∀ x ∈ l, x.1.1 = false) → filesN n l = []
  | [], _, _ => rfl
  | x :: l, n, h => by
    rw [filesN_cons, h x (by simp), filesN_off l _ fun y hy => h y (by simp [hy])]; rfl
theorem filesOf_N (l : FL) : filesOf l = filesN 0 l := rfl
theorem StR.bytes {z : FL} {last : Int} (k : StR z last) {i : Nat} (hi : i ≤ 5) (hl : ¬ (i : Int) ≤ last) (t : List UInt8) : tomeB (z.set i ((true, ba t), 0)) = tomeB z ++ (natB i ++ (natB t.length ++ t)) := by
  have h6 := k.n6
  have hd : ∀ x ∈ z.drop (i + 1), x.1.1 = false := fun x hx => by
    obtain ⟨q, hq⟩ := List.getElem?_of_mem hx
    rw [List.getElem?_drop] at hq
    rw [k.off _ x (by omega) hq]
  have hz : z = z.take i ++ (z[i]'(by omega) :: z.drop (i + 1)) := by rw [← List.drop_eq_getElem_cons (by omega), List.take_append_drop]
  have hs : z.set i ((true, ba t), 0) = z.take i ++ (((true, ba t), 0) :: z.drop (i + 1)) := by rw [List.set_eq_take_append_cons_drop, if_pos (by omega)]
  have hzi : (z[i]'(by omega)).1.1 = false := by rw [k.off i _ (by omega) (List.getElem?_eq_getElem (by omega))]
  have e1 : natI (i : Int) = natB i := by rw [natI, if_neg (by omega), Int.toNat_natCast]
  have f1 : filesOf (z.set i ((true, ba t), 0)) = filesN 0 (z.take i) ++ [((i : Int), true, ba t)] := by
    rw [filesOf_N, hs, filesN_append, filesN_cons, filesN_off _ _ hd, List.length_take, Nat.min_eq_left (by omega)]
    simp
  have f2 : filesOf z = filesN 0 (z.take i) := by
    rw [filesOf_N]
    conv => lhs; rw [hz]
    rw [filesN_append, filesN_cons, filesN_off _ _ hd, hzi]
    simp
  unfold tomeB
  rw [f1, f2, List.flatMap_append]
  simp [fileB, e1, ba_size, bl_ba]
theorem readG_props : ∀ (n : Nat) (l : List UInt8) (last : Int) (z z' : FL), l.length ≤ n → StR z last → readG l last z = some z' → tomeB z' = tomeB z ++ l ∧ ∃ last', StR z' last'
  | n, l, last, z, z', hn, k, h => by
    by_cases h0 : l = []
    · subst h0
      rw [readG_nil] at h
      cases h
      exact ⟨by simp, last, k⟩
    · cases hs : stepR l with
      | none => rw [readG_none h0 hs] at h; cases h
      | some p =>
        obtain ⟨i, t, r⟩ := p
        rw [readG_some hs] at h
        split at h
        · cases h
        · rename_i hle
          obtain ⟨a1, a2, a3⟩ := stepR_some hs
          have hlt := stepR_lt hs
          match n, hn with
          | 0, hn => omega
          | n + 1, hn =>
            obtain ⟨b1, b2⟩ := readG_props n r i _ z' (by omega) (k.step a1 hle a2) h
            refine ⟨?_, b2⟩
            rw [b1, k.bytes a1 hle, a3]
            simp [List.append_assoc]
theorem readG_ok {l : List UInt8} {z : FL} (h : readG l (-1) zF = some z) : tomeB z = l ∧ ∃ last, StR z last := by
  obtain ⟨a, b⟩ := readG_props _ l (-1) zF z (Nat.le_refl _) StR.zero h
  refine ⟨?_, b⟩
  rw [a]
  have : tomeB zF = [] := rfl
  rw [this]; rfl
def unver (z : FL) : FL := z.map fun x => (x.1, 0)
theorem good_off {x : FileS × Int} (h : goodF x.1.1 x.1.2 = true) (hb : x.1.1 = false) : (x.1, (0 : Int)) = ((false, ByteArray.empty), 0) := by
  unfold goodF at h
  rw [hb] at h
  simp at h
  obtain ⟨⟨b, s⟩, v⟩ := x
  simp at h hb
  simp only [Prod.mk.injEq, and_true]
  exact ⟨hb, h.2⟩
theorem readG_back {z : FL} (k : TomeOk z) : ∀ (n p : Nat) (last : Int), p + n = 6 → last < p → readG ((filesN p (z.drop p)).flatMap fileB) last ((unver z).take p ++ List.replicate n ((false, ByteArray.empty), 0)) = some (unver z)
  | 0, p, last, hp, hl => by
    have h6 := k.n6
    rw [List.drop_eq_nil_of_le (by omega)]
    have : filesN p [] = [] := rfl
    rw [this, List.flatMap_nil, readG_nil, List.take_of_length_le (by simp [unver]; omega)]
    simp
  | n + 1, p, last, hp, hl => by
    have h6 := k.n6
    have hpl : p < z.length := by omega
    have hg := k.good z[p] (List.getElem_mem hpl)
    have hsz := k.size z[p] (List.getElem_mem hpl)
    have hu : (unver z).length = 6 := by simp [unver]; exact h6
    have huv : (unver z)[p]'(by omega) = (z[p].1, 0) := by simp [unver]
    have htk : (unver z).take (p + 1) = (unver z).take p ++ [(z[p].1, 0)] := by rw [List.take_succ_eq_append_getElem (by omega), huv]
    have hlt : ((unver z).take p).length = p := by rw [List.length_take]; omega
    rw [List.drop_eq_getElem_cons hpl, filesN_cons]
    cases hb : z[p].1.1 with
    | false =>
      have ih := readG_back k n (p + 1) last (by omega) (by omega)
      rw [htk, good_off hg hb] at ih
      rw [List.replicate_succ, if_neg (by simp), List.nil_append]
      rw [List.append_assoc] at ih
      exact ih
    | true =>
      have ih := readG_back k n (p + 1) p (by omega) (by omega)
      rw [htk] at ih
      rw [if_pos rfl, List.singleton_append, List.flatMap_cons, readG_some (stepR_file (by omega) hsz _), if_neg (by omega)]
      have e : ((unver z).take p ++ List.replicate (n + 1) ((false, ByteArray.empty), (0 : Int))).set p ((true, ba (bl z[p].1.2)), 0) = (unver z).take p ++ [(z[p].1, 0)] ++ List.replicate n ((false, ByteArray.empty), 0) := by
        rw [List.set_append_right _ _ (by omega), hlt, Nat.sub_self, List.replicate_succ, List.set_cons_zero, ba_bl, List.append_assoc]
        have : z[p].1 = (true, z[p].1.2) := by rw [← hb]
        rw [← this]; rfl
      rw [e]; exact ih
theorem readG_tome {z : FL} (k : TomeOk z) : readG (tomeB z) (-1) zF = some (unver z) := by
  have := readG_back k 6 0 (-1) rfl (by omega)
  simpa [tomeB, filesOf_N, zF] using this
theorem tomeB_inj {z w : FL} (k : TomeOk z) (k2 : TomeOk w) (h : tomeB z = tomeB w) : filesC z = filesC w := by
  have e1 := readG_tome k
  rw [h, readG_tome k2] at e1
  have e2 := Option.some.inj e1
  have key : ∀ l : FL, filesC (unver l) = filesC l := fun l => by unfold filesC unver; rw [List.flatMap_map]; rfl
  rw [← key z, ← key w, e2]
theorem filesC_inj : ∀ {z w : FL}, filesC z = filesC w → unver z = unver w
  | [], [], _ => rfl
  | [], y :: w, h => by simp [filesC, fileC] at h
  | x :: z, [], h => by simp [filesC, fileC] at h
  | x :: z, y :: w, h => by
    obtain ⟨⟨b, s⟩, v⟩ := x
    obtain ⟨⟨b', s'⟩, v'⟩ := y
    simp only [filesC, fileC, List.flatMap_cons, List.cons_append, List.nil_append, List.cons.injEq, Value.bool.injEq, Value.string.injEq] at h
    have ih := filesC_inj (z := z) (w := w) h.2.2
    simp only [unver, List.map_cons] at ih ⊢
    rw [h.1, h.2.1, ih]
theorem tomeB_unver : ∀ (l : FL) (n : Nat), filesN n (unver l) = filesN n l
  | [], _ => rfl
  | x :: l, n => by
    show filesN n ((x.1, 0) :: unver l) = _
    rw [filesN_cons, filesN_cons, tomeB_unver l]
theorem tomeB_eq {z w : FL} (h : filesC z = filesC w) : tomeB z = tomeB w := by
  unfold tomeB
  rw [filesOf_N, filesOf_N, ← tomeB_unver z, ← tomeB_unver w, filesC_inj h]
theorem eqL_files : ∀ (z w : FL), eqL (filesC z) (filesC w) = true ↔ filesC z = filesC w
  | [], [] => by simp [filesC, eqL]
  | [], y :: w => by simp [filesC, fileC, eqL]
  | x :: z, [] => by simp [filesC, fileC, eqL]
  | x :: z, y :: w => by
    obtain ⟨⟨b, s⟩, v⟩ := x
    obtain ⟨⟨b', s'⟩, v'⟩ := y
    have ih := eqL_files z w
    have hs : (s == s') = true ↔ s = s' := by
      cases s with | mk d => cases s' with | mk d' =>
      show (d == d') = true ↔ _
      rw [beq_iff_eq, ByteArray.mk.injEq]
    simp only [filesC, fileC, List.flatMap_cons, List.cons_append, List.nil_append, List.cons.injEq, Value.bool.injEq, Value.string.injEq, eqL, leafEq, Bool.and_eq_true, beq_iff_eq, hs] at ih ⊢
    rw [ih]
end Go.Proofs.Ytoajfmmomgpjcaa.H
