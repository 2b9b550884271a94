/- What the law's proof stands on, part 5. No condition. -/
import Derived.Test.YtlehephbflgblaaG4
namespace Go.Proofs.Ytlehephbflgblaa.H
open Go
set_option linter.unusedVariables false
set_option maxRecDepth 100000
def fileB (x : Int × Bool × ByteArray) : List UInt8 := natI x.1 ++ (natB x.2.2.size ++ bl x.2.2)
def tomeB (l : List (FileS × Int)) : List UInt8 := (filesOf l).flatMap fileB
structure TomeOk (l : List (FileS × Int)) : Prop where
  n6 : l.length = 6
  good : ∀ x ∈ l, goodF x.1.1 x.1.2 = true
theorem TomeOk.size {l : List (FileS × Int)} (k : TomeOk l) : ∀ x ∈ l, x.1.2.size ≤ 32 := fun x hx => by
  have := k.good x hx
  unfold goodF at this
  simp only [Bool.and_eq_true, decide_eq_true_eq] at this
  exact this.1
theorem TomeOk.zero : TomeOk (List.replicate 6 ((false, ByteArray.empty), 0)) := ⟨rfl, fun x hx => by
  rw [List.mem_replicate] at hx
  rw [hx.2]; decide⟩
theorem TomeOk.set {l : List (FileS × Int)} (k : TomeOk l) (n : Int) (b : Bool) (s : ByteArray) (ver : Int) : TomeOk (setF l n b s ver) := by
  refine ⟨by rw [setF_len]; exact k.n6, fun x hx => ?_⟩
  unfold setF at hx
  split at hx
  · rename_i h
    unfold setB at h
    rw [Bool.and_eq_true] at h
    rcases List.mem_or_eq_of_mem_set hx with h1 | h1
    · exact k.good x h1
    · rw [h1]; exact h.1
  · exact k.good x hx
theorem allF_mem {l : List (FileS × Int)} {x : Int × Bool × ByteArray} (h : x ∈ allF l) : ∃ y ∈ l, x.2 = y.1 ∧ 0 ≤ x.1 ∧ x.1 < l.length := by
  obtain ⟨q, hq⟩ := List.getElem?_of_mem h
  rw [allF_get] at hq
  obtain ⟨y, hy, rfl⟩ := Option.map_eq_some_iff.1 hq
  have := (List.getElem?_eq_some_iff.1 hy).1
  exact ⟨y, List.mem_of_getElem? hy, rfl, by simp, by simp only; omega⟩
theorem filesOf_mem {l : List (FileS × Int)} {x : Int × Bool × ByteArray} (h : x ∈ filesOf l) : ∃ y ∈ l, x.2 = y.1 ∧ 0 ≤ x.1 ∧ x.1 < l.length := allF_mem (List.mem_filter.1 h).1
theorem fileB_len (k : (x : Int × Bool × ByteArray) → Prop) {x : Int × Bool × ByteArray} (h1 : x.1 ≤ 1000) (h2 : x.2.2.size ≤ 1000) : (fileB x).length ≤ 1020 := by
  unfold fileB
  have a := natI_length (i := x.1) (by omega)
  have b := natB_length (n := x.2.2.size) (by omega)
  rw [List.length_append, List.length_append, bl_length]
  omega
theorem flat_len {x : Int × Bool × ByteArray} : ∀ (l : List (Int × Bool × ByteArray)), (∀ x ∈ l, x.1 ≤ 1000 ∧ x.2.2.size ≤ 1000) → (l.flatMap fileB).length ≤ 1020 * l.length
  | [], _ => by simp
  | y :: l, h => by
    have h1 := fileB_len (fun _ => True) (h y (by simp)).1 (h y (by simp)).2
    have h2 := flat_len (x := x) l (fun z hz => h z (by simp [hz]))
    rw [List.flatMap_cons, List.length_append, List.length_cons]
    omega
section
variable {B : RO} {h0 h h' : Heap} {L : List (Option (Nat × AObj))} {r : Option (Nat × AObj)} {i kT kR : Nat} {v : Value} {l : List (FileS × Int)}
theorem tbytes_wp {Q : ByteArray → Heap → Prop} (E : Keep B h0 L h) (A : TomeAt L i kT kR v r) (R : FRow r v l) (k : TomeOk l)
    (hQ : ∀ h', Keep B h0 L h' → Q (ba (tomeB l)) h') : C_tome_Tome_Bytes B (some ⟨kT, 0, none⟩) h Q := by
  refine C_tome_Tome_Bytes.of ?_
  unfold S_tome_Tome_Bytes
  intro k3 a3 b3 h4 e4 k5 a5 b5 h6 e6
  have E1 := E.made a3 b3 e4
  have E2 := E1.made a5 b5 e6
  have up2 : ∀ {j : Nat} {x : Option (Nat × AObj)} (y z : List (Option (Nat × AObj))), L[j]? = some x → (L ++ y ++ z)[j]? = some x := fun y z hj => up_app z (up_app y hj)
  have up3 : ∀ {j : Nat} {x : Option (Nat × AObj)} (y z u : List (Option (Nat × AObj))), L[j]? = some x → (L ++ y ++ z ++ u)[j]? = some x := fun y z u hj => up_app u (up_app z (up_app y hj))
  refine ⟨_, storeH_vec E2.last rfl, ?_⟩
  have E3 := E2.putLast (.vec TY.p_stylus_Stylus (plains [.pointer (some ⟨k3, 0, none⟩)]) 1)
  refine tall_wp fun kc ac bc => ?_
  have E4 := E3.new (o := .vec TY.p_tome_Tome [.plain (.pointer (some ⟨kT, 0, none⟩))] 1) ac bc
  have it := tall_iter (B := B) (k3 := kc) (kT := kT) (kR := kR) R (by rw [k.n6]; omega)
  have mid : ∀ (x y z : Option (Nat × AObj)), (L ++ [x] ++ [y] ++ [z])[L.length]? = some x ∧ (L ++ [x] ++ [y] ++ [z])[L.length + 1]? = some y ∧ (L ++ [x] ++ [y] ++ [z])[L.length + 2]? = some z := fun x y z => by
    refine ⟨?_, ?_, ?_⟩ <;> (rw [List.append_assoc, List.append_assoc, List.getElem?_append_right (by omega)]; simp)
  have mset : ∀ (x x' y z : Option (Nat × AObj)) , (L ++ [x] ++ [y] ++ [z]).set L.length x' = L ++ [x'] ++ [y] ++ [z] := fun x x' y z => by
    rw [List.append_assoc, List.append_assoc, List.set_append_right _ _ (Nat.le_refl _), Nat.sub_self, List.append_assoc, List.append_assoc]; rfl
  have hn6 := k.n6
  have small : ∀ x ∈ filesOf l, x.1 ≤ 1000 ∧ x.2.2.size ≤ 1000 := fun x hx => by
    obtain ⟨y, hy, e1, e2, e3⟩ := filesOf_mem hx
    have := k.size y hy
    have e4 : x.2.2 = y.1.2 := by rw [e1]
    exact ⟨by omega, by rw [e4]; omega⟩
  have few : (filesOf l).length ≤ 6 := by
    have := List.length_filter_le (fun x : Int × Bool × ByteArray => x.2.1) (allF l)
    rw [allF_len, k.n6] at this
    exact this
  refine ⟨filesOf l, tG kc kT kR v r, fun q h' => Keep B h0 (L ++ [some (k3, stylO (((filesOf l).take q).flatMap fileB))] ++ [some (k5, .vec TY.p_stylus_Stylus (plains [.pointer (some ⟨k3, 0, none⟩)]) 1)] ++ [some (kc, .vec TY.p_tome_Tome [.plain (.pointer (some ⟨kT, 0, none⟩))] 1)]) h', it, tG_ins, ?_, ?_, ?_, ?_⟩
  · intro q h' E
    exact ⟨E.last, E.at i (up3 _ _ _ A.p), E.at (i + 1) (up3 _ _ _ A.f.p), fun k o e => E.at (i + 2) (by rw [up3 _ _ _ A.f.q, e])⟩
  · have g3 := E4.at L.length (mid _ _ _).1
    refine Fin.ent (styl_new g3) (Fin.of ?_)
    have E5 := E4.put (o' := stylO []) L.length (mid _ _ _).1
    rw [mset] at E5
    exact E5
  · rintro q h14 i10 b11 s12 hg E
    have hx := List.mem_of_getElem? hg
    have sm := small _ hx
    intro k18 a18 b18 h19 e19
    have F1 := E.made a18 b18 e19
    refine ⟨_, stores_whole F1.last rfl (by simp) (by simp [isOne]) (by simp), ?_⟩
    have F2 := F1.putLast (.vec TY.file_File (plains [.bool b11, .string s12]) 2)
    have c5 := F2.cell (L.length + 1) (up_app _ (mid _ _ _).2.1) (j := 0) rfl
    refine ⟨_, c5, ?_⟩
    intro k22 a22 b22 h23 e23
    have F3 := F2.made a22 b22 e23
    have hlen := flat_len (x := (0, false, ByteArray.empty)) ((filesOf l).take q) (fun x hx => small x (List.mem_of_mem_take hx))
    have htl : ((filesOf l).take q).length ≤ 6 := by rw [List.length_take]; omega
    have g3 := F3.at L.length (up_app _ (up_app _ (mid _ _ _).1))
    refine nat1_wp g3 F3.last (fun e => by rw [e, F2.at L.length (up_app _ (mid _ _ _).1)] at a22; cases a22) (by omega) (by omega) ?_
    have F4 := F3.put (o' := stylO (((filesOf l).take q).flatMap fileB ++ natI i10)) L.length (up_app _ (up_app _ (mid _ _ _).1))
    have s4 : (L ++ [some (k3, stylO (((filesOf l).take q).flatMap fileB))] ++ [some (k5, AObj.vec TY.p_stylus_Stylus (plains [.pointer (some ⟨k3, 0, none⟩)]) 1)] ++ [some (kc, AObj.vec TY.p_tome_Tome [.plain (.pointer (some ⟨kT, 0, none⟩))] 1)] ++ [some (k18, AObj.vec TY.file_File (plains [.bool b11, .string s12]) 2)] ++ [some (k22, AObj.vec 3 (plains [Value.int .i64 i10]) 1)]).set L.length (some (k3, stylO (((filesOf l).take q).flatMap fileB ++ natI i10)))
        = L ++ [some (k3, stylO (((filesOf l).take q).flatMap fileB ++ natI i10))] ++ [some (k5, AObj.vec TY.p_stylus_Stylus (plains [.pointer (some ⟨k3, 0, none⟩)]) 1)] ++ [some (kc, AObj.vec TY.p_tome_Tome [.plain (.pointer (some ⟨kT, 0, none⟩))] 1)] ++ [some (k18, AObj.vec TY.file_File (plains [.bool b11, .string s12]) 2)] ++ [some (k22, AObj.vec 3 (plains [Value.int .i64 i10]) 1)] := by
      rw [List.set_append_left _ _ (by simp <;> omega), List.set_append_left _ _ (by simp <;> omega), mset]
    rw [s4] at F4
    have F5 := F4.pop
    refine ⟨_, F5.cell (L.length + 1) (up_app _ (mid _ _ _).2.1) (j := 0) rfl, _, cellH_vec F5.last rfl, ?_⟩
    intro k27 a27 b27 h28 e28
    have F6 := F5.made a27 b27 e28
    have g3' := F6.at L.length (up_app _ (up_app _ (mid _ _ _).1))
    have hni := natI_length (i := i10) (by omega)
    refine text1_wp g3' F6.last (fun e => by rw [e, F5.at L.length (up_app _ (mid _ _ _).1)] at a27; cases a27) (by rw [List.length_append]; have := sm.2; simp only at this; omega) (Fin.of ?_)
    have F7 := F6.put (o' := stylO (((filesOf l).take q).flatMap fileB ++ natI i10 ++ (natB s12.size ++ bl s12))) L.length (up_app _ (up_app _ (mid _ _ _).1))
    rw [List.set_append_left _ _ (by simp <;> omega), List.set_append_left _ _ (by simp <;> omega), mset] at F7
    have e7 : ((filesOf l).take (q + 1)).flatMap fileB = ((filesOf l).take q).flatMap fileB ++ natI i10 ++ (natB s12.size ++ bl s12) := by
      obtain ⟨hq, hx⟩ := List.getElem?_eq_some_iff.1 hg
      rw [List.take_succ_eq_append_getElem hq, List.flatMap_append, List.flatMap_cons, List.flatMap_nil, List.append_nil, hx, List.append_assoc]
      rfl
    show Keep B h0 (L ++ [some (k3, stylO (((filesOf l).take (q + 1)).flatMap fileB))] ++ [some (k5, .vec TY.p_stylus_Stylus (plains [.pointer (some ⟨k3, 0, none⟩)]) 1)] ++ [some (kc, .vec TY.p_tome_Tome [.plain (.pointer (some ⟨kT, 0, none⟩))] 1)]) _
    rw [e7]
    exact F7.pop.pop
  · intro h14 E
    rw [List.take_length] at E
    refine ⟨_, E.cell (L.length + 1) (mid _ _ _).2.1 (j := 0) rfl, bytes_wp (E.at L.length (mid _ _ _).1) (Fin.of (hQ _ E.pop.pop.pop))⟩
end
end Go.Proofs.Ytlehephbflgblaa.H
namespace Go.Proofs.Ytlehephbflgblaa.H
open Go Go.RowKit
set_option linter.unusedVariables false
set_option maxRecDepth 100000
structure FSetR where
  i : Int
  b : Bool
  s : ByteArray
  v : Int
def FSetR.cells (x : FSetR) : List Value := [.int .i64 x.i, .bool x.b, .string x.s, .int .i64 x.v]
abbrev FL := List (FileS × Int)
def zF : FL := List.replicate 6 ((false, ByteArray.empty), 0)
def apF (l : FL) (x : FSetR) : FL := setF l x.i x.b x.s x.v
theorem TomeOk.foldl {l : FL} (k : TomeOk l) (sets : List FSetR) : TomeOk (sets.foldl apF l) := by
  induction sets generalizing l with
  | nil => exact k
  | cons x t ih => exact ih (k.set x.i x.b x.s x.v)
section
variable {B : RO} {h0 h h' : Heap} {a : Option Addr} {c : Nat} {list : List FSetR} {Q : Bool → Heap → Prop} {kA kA' kB kB' : Nat} {va vb : Value} {ra rb : Option (Nat × AObj)}
end
end Go.Proofs.Ytlehephbflgblaa.H
namespace Go.Proofs.Ytlehephbflgblaa.H
open Go Go.RowKit
set_option linter.unusedVariables false
set_option maxRecDepth 100000
abbrev ChR := Int × (Bool × ByteArray)
def chB (x : ChR) : List UInt8 := natI x.1 ++ (if x.2.1 = true then (1 : UInt8) :: (natB x.2.2.size ++ bl x.2.2) else [0])
def loadB (n : Int) (l : DFL) : List UInt8 := natI n ++ l.flatMap chB
noncomputable def stepC (l : List UInt8) : Option (ChR × List UInt8) :=
  match natT 5 l with
  | none => none
  | some (i, r) => match natT 1 r with
    | none => none
    | some (k, r2) => if k = 1 then (match natT 32 r2 with
        | none => none
        | some (n, r3) => if r3.length < n then none else some (((i : Int), true, ba (r3.take n)), r3.drop n))
      else some (((i : Int), false, ByteArray.empty), r2)
theorem stepC_0 {l : List UInt8} (h : natT 5 l = none) : stepC l = none := by rw [stepC, h]
theorem stepC_1 {l r : List UInt8} {i : Nat} (h : natT 5 l = some (i, r)) (h1 : natT 1 r = none) : stepC l = none := by rw [stepC, h]; simp [h1]
theorem stepC_off {l r r2 : List UInt8} {i k : Nat} (h : natT 5 l = some (i, r)) (h1 : natT 1 r = some (k, r2)) (hk : k ≠ 1) : stepC l = some (((i : Int), false, ByteArray.empty), r2) := by rw [stepC, h]; simp [h1, hk]
theorem stepC_2 {l r r2 : List UInt8} {i : Nat} (h : natT 5 l = some (i, r)) (h1 : natT 1 r = some (1, r2)) (h2 : natT 32 r2 = none) : stepC l = none := by rw [stepC, h]; simp [h1, h2]
theorem stepC_3 {l r r2 r3 : List UInt8} {i n : Nat} (h : natT 5 l = some (i, r)) (h1 : natT 1 r = some (1, r2)) (h2 : natT 32 r2 = some (n, r3)) (hs : r3.length < n) : stepC l = none := by rw [stepC, h]; simp [h1, h2, hs]
theorem stepC_on {l r r2 r3 : List UInt8} {i n : Nat} (h : natT 5 l = some (i, r)) (h1 : natT 1 r = some (1, r2)) (h2 : natT 32 r2 = some (n, r3)) (hs : ¬ r3.length < n) : stepC l = some (((i : Int), true, ba (r3.take n)), r3.drop n) := by rw [stepC, h]; simp [h1, h2, hs]
def GoodC (x : ChR) : Prop := 0 ≤ x.1 ∧ x.1 ≤ 5 ∧ goodF x.2.1 x.2.2 = true
theorem stepC_some {l r : List UInt8} {x : ChR} (h : stepC l = some (x, r)) : GoodC x ∧ l = chB x ++ r := by
  cases h0 : natT 5 l with
  | none => rw [stepC_0 h0] at h; cases h
  | some p =>
    obtain ⟨i, r1⟩ := p
    obtain ⟨e0, hi⟩ := natT_eq h0
    cases h1 : natT 1 r1 with
    | none => rw [stepC_1 h0 h1] at h; cases h
    | some p =>
      obtain ⟨k, r2⟩ := p
      obtain ⟨e1, hk⟩ := natT_eq h1
      by_cases hk1 : k = 1
      · subst hk1
        cases h2 : natT 32 r2 with
        | none => rw [stepC_2 h0 h1 h2] at h; cases h
        | some p =>
          obtain ⟨n, r3⟩ := p
          obtain ⟨e2, hn⟩ := natT_eq h2
          by_cases hs : r3.length < n
          · rw [stepC_3 h0 h1 h2 hs] at h; cases h
          · rw [stepC_on h0 h1 h2 hs] at h
            cases h
            have hl : (r3.take n).length = n := by rw [List.length_take]; omega
            refine ⟨⟨by simp only; omega, by simp only; omega, ?_⟩, ?_⟩
            · unfold goodF; simp only [ba_size, hl]; simp; exact hn
            · unfold chB
              simp only [if_true, natI_nat, ba_size, hl, bl_ba]
              rw [e0, e1, e2, natB_1]
              simp [List.append_assoc]
      · rw [stepC_off h0 h1 hk1] at h
        cases h
        have : k = 0 := by omega
        subst this
        refine ⟨⟨by simp only; omega, by simp only; omega, rfl⟩, ?_⟩
        unfold chB
        simp only [natI_nat]
        rw [e0, e1, natB_0]
        simp
theorem chB_pos (x : ChR) : 0 < (chB x).length := by unfold chB; split <;> simp <;> omega
theorem stepC_lt {l r : List UInt8} {x : ChR} (h : stepC l = some (x, r)) : r.length < l.length := by
  have e := (stepC_some h).2
  have := chB_pos x
  rw [e, List.length_append]; omega
noncomputable def readC (l : List UInt8) (last : Int) : Option DFL :=
  if l = [] then some [] else
  match h : stepC l with
  | none => none
  | some (x, r) => if x.1 ≤ last then none else (readC r x.1).map (x :: ·)
termination_by l.length
decreasing_by exact stepC_lt h
theorem readC_nil (last : Int) : readC [] last = some [] := by rw [readC, if_pos rfl]
theorem readC_none {l : List UInt8} {last : Int} (h0 : l ≠ []) (h : stepC l = none) : readC l last = none := by
  rw [readC, if_neg h0]
  split
  · rfl
  · rename_i h2; rw [h] at h2; cases h2
theorem readC_some {l r : List UInt8} {x : ChR} {last : Int} (h : stepC l = some (x, r)) : readC l last = if x.1 ≤ last then none else (readC r x.1).map (x :: ·) := by
  have h0 : l ≠ [] := fun e => by have := stepC_lt h; rw [e] at this; simp at this
  rw [readC, if_neg h0]
  split
  · rename_i h2; rw [h] at h2; cases h2
  · rename_i h2; rw [h] at h2; cases h2; rfl
theorem readC_props : ∀ (n : Nat) (l : List UInt8) (last : Int) (xs : DFL), l.length ≤ n → readC l last = some xs → l = xs.flatMap chB ∧ SortD xs ∧ (∀ x ∈ xs, GoodC x ∧ last < x.1)
  | 0, l, last, xs, hl, h => by
    have : l = [] := List.length_eq_zero_iff.1 (by omega)
    subst this
    rw [readC_nil] at h; cases h
    exact ⟨rfl, List.Pairwise.nil, fun x hx => by cases hx⟩
  | n + 1, l, last, xs, hl, h => by
    by_cases h0 : l = []
    · subst h0
      rw [readC_nil] at h; cases h
      exact ⟨rfl, List.Pairwise.nil, fun x hx => by cases hx⟩
    · cases hs : stepC l with
      | none => rw [readC_none h0 hs] at h; cases h
      | some p =>
        obtain ⟨x, r⟩ := p
        rw [readC_some hs] at h
        split at h
        · cases h
        · rename_i hlt
          cases hr : readC r x.1 with
          | none => rw [hr] at h; cases h
          | some ys =>
            rw [hr] at h
            cases h
            have := stepC_lt hs
            obtain ⟨e1, e2, e3⟩ := readC_props n r x.1 ys (by omega) hr
            obtain ⟨g, e⟩ := stepC_some hs
            refine ⟨by rw [List.flatMap_cons, ← e1]; exact e, List.pairwise_cons.2 ⟨fun y hy => (e3 y hy).2, e2⟩, fun y hy => ?_⟩
            rcases List.mem_cons.1 hy with rfl | hy
            · exact ⟨g, by omega⟩
            · exact ⟨(e3 y hy).1, by have := (e3 y hy).2; omega⟩
noncomputable def loadOf (l : List UInt8) : Option (Nat × DFL) :=
  match natT 1099511627776 l with
  | none => none
  | some (n, r) => (readC r (-1)).map fun xs => (n, xs)
theorem loadOf_none {l : List UInt8} (h : natT 1099511627776 l = none) : loadOf l = none := by rw [loadOf, h]
theorem loadOf_eq {l r : List UInt8} {n : Nat} (h : natT 1099511627776 l = some (n, r)) : loadOf l = (readC r (-1)).map fun xs => (n, xs) := by rw [loadOf, h]
theorem loadOf_some {l : List UInt8} {n : Nat} {xs : DFL} (h : loadOf l = some (n, xs)) : l = loadB n xs ∧ SortD xs ∧ (∀ x ∈ xs, GoodC x) ∧ n ≤ 1099511627776 := by
  cases h0 : natT 1099511627776 l with
  | none => rw [loadOf_none h0] at h; cases h
  | some p =>
    obtain ⟨m, r⟩ := p
    rw [loadOf_eq h0] at h
    cases hr : readC r (-1) with
    | none => rw [hr] at h; cases h
    | some ys =>
      rw [hr] at h
      cases h
      obtain ⟨e1, e2, e3⟩ := readC_props _ r (-1) xs (Nat.le_refl _) hr
      obtain ⟨e0, hm⟩ := natT_eq h0
      exact ⟨by rw [loadB, natI_nat, ← e1]; exact e0, e2, fun x hx => (e3 x hx).1, hm⟩
theorem sortGood_aux : ∀ (d : DFL) (lo : Int), SortD d → (∀ x ∈ d, lo ≤ x.1 ∧ x.1 ≤ 5) → lo ≤ 6 → (d.length : Int) ≤ 6 - lo
  | [], lo, _, _, h => by simp; omega
  | x :: d, lo, s, g, h => by
    obtain ⟨s1, s2⟩ := List.pairwise_cons.1 s
    have g0 := g x (by simp)
    have := sortGood_aux d (x.1 + 1) s2 (fun y hy => ⟨by have := s1 y hy; omega, (g y (by simp [hy])).2⟩) (by omega)
    rw [List.length_cons]; omega
theorem sortGood_len (d : DFL) (s : SortD d) (g : ∀ x ∈ d, GoodC x) : d.length ≤ 6 := by
  have := sortGood_aux d 0 s (fun x hx => ⟨(g x hx).1, (g x hx).2.1⟩) (by omega)
  omega
def apC (ver : Int) (l : FL) (x : ChR) : FL := l.set x.1.toNat (x.2, ver)
def apCs (ver : Int) (l : FL) (xs : DFL) : FL := xs.foldl (apC ver) l
theorem apCs_cons (ver : Int) (l : FL) (x : ChR) (xs : DFL) : apCs ver l (x :: xs) = apCs ver (apC ver l x) xs := rfl
theorem apCs_len (ver : Int) : ∀ (xs : DFL) (l : FL), (apCs ver l xs).length = l.length
  | [], l => rfl
  | x :: xs, l => by rw [apCs_cons, apCs_len ver xs]; simp [apC]
theorem apCs_snoc (ver : Int) (l : FL) (xs : DFL) (x : ChR) : apCs ver l (xs ++ [x]) = apC ver (apCs ver l xs) x := by unfold apCs; rw [List.foldl_append]; rfl
theorem apCs_app (ver : Int) (l : FL) (xs ys : DFL) : apCs ver l (xs ++ ys) = apCs ver (apCs ver l xs) ys := by unfold apCs; rw [List.foldl_append]
theorem apCs_take (ver : Int) (l : FL) {xs : DFL} {j : Nat} {x : ChR} (h : xs[j]? = some x) : apCs ver l (xs.take (j + 1)) = apC ver (apCs ver l (xs.take j)) x := by
  obtain ⟨hq, rfl⟩ := List.getElem?_eq_some_iff.1 h
  rw [List.take_succ_eq_append_getElem hq, apCs_snoc]
theorem setF_good {l : FL} {x : ChR} (g : GoodC x) (h6 : l.length = 6) (ver : Int) : setF l x.1 x.2.1 x.2.2 ver = apC ver l x := by
  obtain ⟨g1, g2, g3⟩ := g
  unfold setF setB
  rw [g3, decide_eq_true (show 0 ≤ x.1 ∧ x.1 < (l.length : Int) by omega)]
  rfl
noncomputable def goods : List ByteArray → List (Nat × DFL)
  | [] => []
  | b :: t => match loadOf (bl b) with
    | none => []
    | some p => p :: goods t
theorem goods_none {b : ByteArray} {t : List ByteArray} (h : loadOf (bl b) = none) : goods (b :: t) = [] := by rw [goods, h]
theorem goods_some {b : ByteArray} {t : List ByteArray} {p : Nat × DFL} (h : loadOf (bl b) = some p) : goods (b :: t) = p :: goods t := by rw [goods, h]
theorem goods_len : ∀ (l : List ByteArray), (goods l).length ≤ l.length
  | [] => Nat.le_refl _
  | b :: t => by
    cases h : loadOf (bl b) with
    | none => rw [goods_none h]; simp
    | some p => rw [goods_some h]; simp; exact goods_len t
theorem goods_get : ∀ {l : List ByteArray} {j : Nat} {b : ByteArray}, l[j]? = some b → j < (goods l).length → loadOf (bl b) = (goods l)[j]?
  | [], j, b, h, _ => by simp at h
  | c :: t, j, b, h, hj => by
    cases hc : loadOf (bl c) with
    | none => rw [goods_none hc] at hj; simp at hj
    | some p =>
      rw [goods_some hc] at hj ⊢
      cases j with
      | zero => simp at h; subst h; simpa using hc
      | succ j =>
        simp only [List.getElem?_cons_succ] at h ⊢
        exact goods_get h (by simpa using hj)
theorem goods_end : ∀ {l : List ByteArray} {b : ByteArray}, l[(goods l).length]? = some b → loadOf (bl b) = none
  | [], b, h => by simp at h
  | c :: t, b, h => by
    cases hc : loadOf (bl c) with
    | none => rw [goods_none hc] at h; simp at h; subst h; exact hc
    | some p =>
      rw [goods_some hc] at h
      simp only [List.length_cons, List.getElem?_cons_succ] at h
      exact goods_end h
def chsOf (l : List (Nat × DFL)) : DFL := l.flatMap (·.2)
def lastOf (l : List (Nat × DFL)) : Int := l.foldl (fun m p => if ((p.1 : Nat) : Int) > m then ((p.1 : Nat) : Int) else m) 0
theorem chsOf_take {l : List (Nat × DFL)} {j : Nat} {p : Nat × DFL} (h : l[j]? = some p) : chsOf (l.take (j + 1)) = chsOf (l.take j) ++ p.2 := by
  obtain ⟨hq, rfl⟩ := List.getElem?_eq_some_iff.1 h
  rw [List.take_succ_eq_append_getElem hq, chsOf, List.flatMap_append]; simp [chsOf]
theorem lastOf_take {l : List (Nat × DFL)} {j : Nat} {p : Nat × DFL} (h : l[j]? = some p) : lastOf (l.take (j + 1)) = if ((p.1 : Nat) : Int) > lastOf (l.take j) then ((p.1 : Nat) : Int) else lastOf (l.take j) := by
  obtain ⟨hq, rfl⟩ := List.getElem?_eq_some_iff.1 h
  rw [List.take_succ_eq_append_getElem hq, lastOf, List.foldl_append]; rfl
end Go.Proofs.Ytlehephbflgblaa.H
namespace Go.Proofs.Ytlehephbflgblaa.H
open Go Go.RowKit
set_option linter.unusedVariables false
set_option maxRecDepth 100000
theorem TK.slc_rch : slcB PG TY.s_redo_Change = some (TY.redo_Change, 3, 32) := by kernel_rfl
theorem TK.zero_rch : zeroB PG TY.redo_Change = some [.int .i64 0, .bool false, .string ByteArray.empty] := by kernel_rfl
theorem TK.sl_rch : slT PG TY.s_redo_Change = true := by kernel_rfl
theorem chB_len {x : ChR} (g : GoodC x) : (chB x).length ≤ 60 := by
  obtain ⟨g1, g2, g3⟩ := g
  have h1 := natI_length (i := x.1) (by omega)
  have hs : x.2.2.size ≤ 32 := by unfold goodF at g3; simp at g3; exact g3.1
  have h2 := natB_length (n := x.2.2.size) (by omega)
  unfold chB
  split
  · simp only [List.length_append, List.length_cons, bl_length]; omega
  · simp; omega
theorem chs_len : ∀ (xs : DFL), (∀ x ∈ xs, GoodC x) → (xs.flatMap chB).length ≤ 60 * xs.length
  | [], _ => by simp
  | x :: xs, g => by
    have h1 := chB_len (g x (by simp))
    have h2 := chs_len xs (fun y hy => g y (by simp [hy]))
    rw [List.flatMap_cons, List.length_append, List.length_cons]; omega
theorem chs_take {xs : DFL} {q : Nat} {x : ChR} (h : xs[q]? = some x) : (xs.take (q + 1)).flatMap chB = (xs.take q).flatMap chB ++ chB x := by
  obtain ⟨hq, rfl⟩ := List.getElem?_eq_some_iff.1 h
  rw [List.take_succ_eq_append_getElem hq, List.flatMap_append]; simp
section
variable {B : RO} {h0 h h' : Heap} {L : List (Option (Nat × AObj))} {r : Option (Nat × AObj)} {i k kT kR : Nat} {a : Option Addr} {m c : Nat} {v : Value} {xs : DFL} {l : FL} {s : ByteArray}
theorem nat2_wp {b k c : Nat} {bs : List UInt8} {x y : Int} {Q : Heap → Prop} (hb : h b = some (stylO bs)) (hk : h k = some (.vec TY.int (plains [.int .i64 x, .int .i64 y]) 2)) (hne : k ≠ b) (hx : x ≤ 9223372036854775807) (hy : y ≤ 9223372036854775807) (hbd : bs.length + 60 ≤ 1099511627776)
    (hQ : Q (h.set b (stylO (bs ++ (natI x ++ natI y))))) : C_stylus_Stylus_Nat B (some ⟨b, 0, none⟩) (some ⟨k, 0, none⟩) 2 c h Q := by
  refine nat_wp (ns := [x, y]) hb ?_ (by intro n hn; simp at hn; omega) hbd (by simpa [natsB] using hQ)
  intro i n hi
  match i with
  | 0 => cases hi; exact ⟨_, rfl, hne, cellH_vec hk rfl⟩
  | 1 => cases hi; exact ⟨_, rfl, hne, cellH_vec hk rfl⟩
  | i + 2 => cases hi
theorem redo_bytes_wp {n : Int} {Q : ByteArray → Heap → Prop} (E : Keep B h0 L h) (A : DAt_file_File L i k v r) (R : DRow_file_File r v xs) (g : ∀ x ∈ xs, GoodC x) (hl : xs.length ≤ 1000) (hn : n ≤ 9223372036854775807)
    (hQ : ∀ h', Keep B h0 L h' → Q (ba (loadB n xs)) h') : C_redo_Bytes B n (some ⟨k, 0, none⟩) h Q := by
  refine C_redo_Bytes.of ?_
  unfold S_redo_Bytes
  intro k4 a4 b4 h5 e5 k6 a6 b6 h7 e7
  have E1 := (E.start.nM a4 b4 e5).nM a6 b6 e7
  refine ⟨_, storeH_vec (E1.gM 1 rfl) rfl, ?_⟩
  have E2 := E1.pM (o' := .vec TY.p_stylus_Stylus (plains [.pointer (some ⟨k4, 0, none⟩)]) 1) 1 rfl
  refine ⟨_, E2.cM 1 rfl (i := 0) rfl, ?_⟩
  intro k10 a10 b10 h11 e11
  have E3 := E2.nM a10 b10 e11
  refine Spec.ent (styl_new (E3.gM 0 rfl)) ?_
  have E4 := E3.pM (o' := stylO []) 0 rfl
  refine nat1_wp (E4.gM 0 rfl) (E4.gM 2 rfl) (fun e => absurd e (E4.ne (L.length + 2) (L.length + 0) (upM 2 rfl) (upM 0 rfl) (by omega))) hn (by simp) ?_
  have E5 := (E4.pM (o' := stylO ([] ++ natI n)) 0 rfl).tM 2
  refine fdall_wp fun kc ac bc => ?_
  have E6 := E5.nM (o := .vec TY.p_draft_Draft_file_File [.plain (.pointer (some ⟨k, 0, none⟩))] 1) ac bc rfl
  refine ⟨xs, fdG kc k v r, fun q h' => Keep B h0 (L ++ [some (k4, stylO (natI n ++ (xs.take q).flatMap chB)), some (k6, .vec TY.p_stylus_Stylus (plains [.pointer (some ⟨k4, 0, none⟩)]) 1), some (kc, .vec TY.p_draft_Draft_file_File [.plain (.pointer (some ⟨k, 0, none⟩))] 1)]) h', fdall_iter (k := k) R (by omega), fdG_ins, ?_, Fin.of ?_, ?_, ?_⟩
  · intro q h' E
    exact ⟨E.gM 2 rfl, E.at i (up_app _ A.p), fun k o e => E.at (i + 1) (by rw [up_app _ A.q, e])⟩
  · simpa using E6
  · clear E1 E2 E3 E4 E5 E6
    rintro q h19 i15 b16 s17 hg E
    have gx := g _ (List.mem_of_getElem? hg)
    obtain ⟨g1, g2, g3⟩ := gx
    simp only at g1 g2 g3
    have hs : s17.size ≤ 32 := by unfold goodF at g3; simp at g3; exact g3.1
    have hlen := chs_len (xs.take q) (fun x hx => g x (List.mem_of_mem_take hx))
    have hn0 := natI_length hn
    have hni := natI_length (i := i15) (by omega)
    rw [List.length_take] at hlen
    have n1 : natI 1 = [1] := by rw [show (1 : Int) = ((1 : Nat) : Int) from rfl, natI_nat, natB_1]
    have n0 : natI 0 = [0] := by rw [show (0 : Int) = ((0 : Nat) : Int) from rfl, natI_nat, natB_0]
    intro k23 a23 b23 h24 e24
    have E1 := E.nM a23 b23 e24
    refine ⟨_, stores_whole (E1.gM 3 rfl) rfl (by simp) (by simp [isOne]) (by simp), ?_⟩
    have E2 := E1.pM (o' := .vec TY.file_File (plains [.bool b16, .string s17]) 2) 3 rfl
    refine ⟨b16, E2.cM 3 rfl (i := 0) rfl, fun hb => ?_, fun hb => ?_⟩
    · subst hb
      refine ⟨_, E2.cM 1 rfl (i := 0) rfl, fun k32 a32 b32 h33 e33 => ?_⟩
      have E3 := E2.nM a32 b32 e33
      refine nat2_wp (E3.gM 0 rfl) (E3.gM 4 rfl) (fun e => absurd e (E3.ne (L.length + 4) (L.length + 0) (upM 4 rfl) (upM 0 rfl) (by omega))) (by omega) (by omega) (by rw [List.length_append]; omega) ?_
      have E4 := (E3.pM (o' := stylO (natI n ++ (xs.take q).flatMap chB ++ (natI i15 ++ natI 1))) 0 rfl).tM 4
      refine ⟨_, E4.cM 1 rfl (i := 0) rfl, _, E4.cM 3 rfl (i := 1) rfl, fun k37 a37 b37 h38 e38 => ?_⟩
      have E5 := E4.nM a37 b37 e38
      refine text1_wp (E5.gM 0 rfl) (E5.gM 4 rfl) (fun e => absurd e (E5.ne (L.length + 4) (L.length + 0) (upM 4 rfl) (upM 0 rfl) (by omega))) (by simp only [List.length_append, n1, List.length_cons, List.length_nil]; omega) (Fin.of ?_)
      have E6 := (E5.pM (o' := stylO (natI n ++ (xs.take q).flatMap chB ++ (natI i15 ++ natI 1) ++ (natB s17.size ++ bl s17))) 0 rfl).tM 3
      have e7 : natI n ++ (xs.take (q + 1)).flatMap chB = natI n ++ (xs.take q).flatMap chB ++ (natI i15 ++ natI 1) ++ (natB s17.size ++ bl s17) := by
        rw [chs_take hg, chB, n1]; simp [List.append_assoc]
      show Keep B h0 (L ++ [some (k4, stylO (natI n ++ (xs.take (q + 1)).flatMap chB)), some (k6, .vec TY.p_stylus_Stylus (plains [.pointer (some ⟨k4, 0, none⟩)]) 1), some (kc, .vec TY.p_draft_Draft_file_File [.plain (.pointer (some ⟨k, 0, none⟩))] 1)]) _
      rw [e7]; exact E6
    · subst hb
      refine ⟨_, E2.cM 1 rfl (i := 0) rfl, fun k32 a32 b32 h33 e33 => ?_⟩
      have E3 := E2.nM a32 b32 e33
      refine nat2_wp (E3.gM 0 rfl) (E3.gM 4 rfl) (fun e => absurd e (E3.ne (L.length + 4) (L.length + 0) (upM 4 rfl) (upM 0 rfl) (by omega))) (by omega) (by omega) (by rw [List.length_append]; omega) (Fin.of ?_)
      have E4 := (E3.pM (o' := stylO (natI n ++ (xs.take q).flatMap chB ++ (natI i15 ++ natI 0))) 0 rfl).tM 3
      have e7 : natI n ++ (xs.take (q + 1)).flatMap chB = natI n ++ (xs.take q).flatMap chB ++ (natI i15 ++ natI 0) := by
        rw [chs_take hg, chB, n0]; simp [List.append_assoc]
      show Keep B h0 (L ++ [some (k4, stylO (natI n ++ (xs.take (q + 1)).flatMap chB)), some (k6, .vec TY.p_stylus_Stylus (plains [.pointer (some ⟨k4, 0, none⟩)]) 1), some (kc, .vec TY.p_draft_Draft_file_File [.plain (.pointer (some ⟨k, 0, none⟩))] 1)]) _
      rw [e7]; exact E4
  · intro h19 E
    rw [List.take_length] at E
    exact ⟨_, E.cM 1 rfl (i := 0) rfl, bytes_wp (E.gM 0 rfl) (Fin.of (hQ _ E.zM))⟩
theorem redo_read_wp {Q : Int → Option Addr → Nat → Nat → Bool → Heap → Prop} (E : Keep B h0 L h) (hN : loadOf (bl s) = none → ∀ h', Keep B h0 L h' → Q 0 none 0 0 false h')
    (hS : ∀ n xs, loadOf (bl s) = some (n, xs) → ∀ a c r h', Row r (.slice a xs.length c) TY.redo_Change 3 (xs.flatMap entC_file_File) → Keep B h0 (L ++ [r]) h' → Q n a xs.length c true h') : C_redo_Read B s h Q := by
  refine C_redo_Read.of ?_
  unfold S_redo_Read
  refine rof_wp (ba_bl s).symm fun k7 a7 b7 => ?_
  have E1 := E.start.nM (o := rdO (bl s) false) a7 b7 rfl
  refine rnat_wp (by decide) (E1.gM 0 rfl) ?_
  have E2 := E1.pM (o' := rdO (rNat 1099511627776 (bl s) false).2.1 (rNat 1099511627776 (bl s) false).2.2) 0 rfl
  have hst : ∃ (n0 : Nat) (l : List UInt8) (bad : Bool), rNat 1099511627776 (bl s) false = (n0, l, bad) ∧ (bad = true → l = [] ∧ loadOf (bl s) = none) ∧ (bad = false → loadOf (bl s) = (readC l (-1)).map fun ys => (n0, [] ++ ys)) := by
    cases h0' : natT 1099511627776 (bl s) with
    | none => exact ⟨0, [], true, rNat_none h0', fun _ => ⟨rfl, loadOf_none h0'⟩, fun e => by cases e⟩
    | some p => obtain ⟨n0, l⟩ := p; exact ⟨n0, l, false, rNat_some h0', fun e => (by cases e), fun _ => loadOf_eq h0'⟩
  obtain ⟨n0, l0, bad0, e0, i1, i2⟩ := hst
  rw [e0] at E2 ⊢
  refine ⟨fun a n c last m h' => ∃ (l : List UInt8) (bad : Bool) (acc : DFL) (r : Option (Nat × AObj)), n = acc.length ∧ m = l.length ∧ -1 ≤ last ∧ last ≤ 5 ∧ (acc.length : Int) ≤ last + 1 ∧ Row r (.slice a acc.length c) TY.redo_Change 3 (acc.flatMap entC_file_File) ∧ (bad = true → l = [] ∧ loadOf (bl s) = none) ∧ (bad = false → loadOf (bl s) = (readC l last).map fun ys => (n0, acc ++ ys)) ∧ Keep B h0 (L ++ [some (k7, rdO l bad), r]) h', l0.length, Fin.of ⟨l0, bad0, [], none, rfl, rfl, by omega, by omega, by simp, Row.nil _ _, i1, i2, ?_⟩, ?_⟩
  · have := E2.gap
    rw [List.append_assoc] at this; exact this
  clear E1 E2 i1 i2 e0
  rintro a _ c last _ h22 ⟨l, bad, acc, r, rfl, rfl, q1, q2, q3, R, i1, i2, E⟩
  refine rleft_wp (E.gM 0 rfl) ⟨fun hpos => ?_, fun hz => Fin.of ?_⟩
  · have hne : l ≠ [] := fun e => by rw [e] at hpos; simp at hpos
    have hbf : bad = false := by
      cases bad with
      | false => rfl
      | true => exact absurd (i1 rfl).1 hne
    subst hbf
    have i3 := i2 rfl
    refine rnat_wp (by decide) (E.gM 0 rfl) ?_
    have E1 := E.pM (o' := rdO (rNat 5 l false).2.1 (rNat 5 l false).2.2) 0 rfl
    intro k32 a32 b32 h33 e33
    have E2 := E1.nM a32 b32 e33
    refine ⟨_, stores_whole (E2.gM 2 rfl) rfl (by simp) (by simp [isOne]) (by simp), ?_⟩
    have E3 := E2.pM (o' := .vec TY.redo_Change (plains [.int .i64 ((rNat 5 l false).1 : Nat), .bool false, .string ByteArray.empty]) 3) 2 rfl
    refine rnat_wp (by decide) (E3.gM 0 rfl) ?_
    have E4 := E3.pM (o' := rdO (rNat 1 (rNat 5 l false).2.1 (rNat 5 l false).2.2).2.1 (rNat 1 (rNat 5 l false).2.1 (rNat 5 l false).2.2).2.2) 0 rfl
    have nope : ∀ {h1 : Heap} {y : Option (Nat × AObj)}, readC l last = none → Keep B h0 (L ++ [some (k7, rdO [] true), r, y]) h1 → S_redo_Read_J2 B (some ⟨k7, 0, none⟩) (n0 : Nat) a acc.length c last l.length (fun a n c last m h' => ∃ (l : List UInt8) (bad : Bool) (acc : DFL) (r : Option (Nat × AObj)), n = acc.length ∧ m = l.length ∧ -1 ≤ last ∧ last ≤ 5 ∧ (acc.length : Int) ≤ last + 1 ∧ Row r (.slice a acc.length c) TY.redo_Change 3 (acc.flatMap entC_file_File) ∧ (bad = true → l = [] ∧ loadOf (bl s) = none) ∧ (bad = false → loadOf (bl s) = (readC l last).map fun ys => (n0, acc ++ ys)) ∧ Keep B h0 (L ++ [some (k7, rdO l bad), r]) h') k32 h1 Q := fun {h1 y} e1 E1 => by
      unfold S_redo_Read_J2
      refine rbad_wp (E1.gM 0 rfl) ⟨fun _ => Fin.of (hN ?_ _ E1.zM), fun e => by cases e⟩
      rw [i3, e1]; rfl
    have go : ∀ {h1 : Heap} {x : ChR} {rr : List UInt8}, stepC l = some (x, rr) → Keep B h0 (L ++ [some (k7, rdO rr false), r, some (k32, .vec TY.redo_Change (plains (entC_file_File x)) 3)]) h1 → S_redo_Read_J2 B (some ⟨k7, 0, none⟩) (n0 : Nat) a acc.length c last l.length (fun a n c last m h' => ∃ (l : List UInt8) (bad : Bool) (acc : DFL) (r : Option (Nat × AObj)), n = acc.length ∧ m = l.length ∧ -1 ≤ last ∧ last ≤ 5 ∧ (acc.length : Int) ≤ last + 1 ∧ Row r (.slice a acc.length c) TY.redo_Change 3 (acc.flatMap entC_file_File) ∧ (bad = true → l = [] ∧ loadOf (bl s) = none) ∧ (bad = false → loadOf (bl s) = (readC l last).map fun ys => (n0, acc ++ ys)) ∧ Keep B h0 (L ++ [some (k7, rdO l bad), r]) h') k32 h1 Q := fun {h1 x rr} e1 E1 => by
      obtain ⟨⟨g1, g2, g3⟩, -⟩ := stepC_some e1
      have hlt := stepC_lt e1
      have hrd := readC_some (last := last) e1
      unfold S_redo_Read_J2
      refine rbad_wp (E1.gM 0 rfl) ⟨fun e => (by cases e), fun _ => ⟨x.1, E1.cM 2 rfl (i := 0) rfl, fun hle => Fin.of (hN ?_ _ E1.zM), fun hgt => Fin.of ?_⟩⟩
      · rw [i3, hrd, if_pos hle]; rfl
      · rw [if_neg hgt] at hrd
        unfold S_redo_Read_J3
        refine ⟨x.1, E1.cM 2 rfl (i := 0) rfl, x.1, x.2.1, x.2.2, ⟨E1.cM 2 rfl (i := 0) rfl, E1.cM 2 rfl (i := 1) rfl, E1.cM 2 rfl (i := 2) rfl, trivial⟩, fun k43 a43 b43 h44 e44 => ?_⟩
        refine E1.push1 (L.length + 1) (upM 1 rfl) R TK.slc_rch TK.zero_rch rfl (by omega) (by omega) TK.sl_rch (ys := entC_file_File x) rfl (entC_file_File_one x) (by rw [flatMap_length entC_file_File_len, entC_file_File_len]; omega) a43 b43 e44 fun a' m' c' r' h' R' E2 => ⟨a', m', c', rfl, Fin.of ⟨rr.length, hlt, rr, false, acc ++ [x], r', ?_, rfl, by omega, g2, by rw [List.length_append]; simp; omega, ?_, fun e => (by cases e), fun _ => ?_, ?_⟩⟩
        · have := Row.len R'
          rw [List.length_append, flatMap_length entC_file_File_len, entC_file_File_len] at this
          rw [List.length_append, List.length_singleton]; omega
        · have := Row.len R'
          rw [List.length_append, flatMap_length entC_file_File_len, entC_file_File_len] at this
          rw [show m' = (acc ++ [x]).length by rw [List.length_append, List.length_singleton]; omega] at R'
          rw [List.flatMap_append, List.flatMap_singleton]; exact R'
        · rw [i3, hrd, Option.map_map]
          congr 1
          funext ys
          simp [List.append_assoc]
        · rw [setM] at E2
          exact E2.tM 2
    cases t0 : natT 5 l with
    | none =>
      have f0 : rNat 5 l false = (0, [], true) := rNat_none t0
      have f1 : rNat 1 (rNat 5 l false).2.1 (rNat 5 l false).2.2 = (0, [], true) := by rw [f0]; exact rNat_bad 1
      rw [f1] at E4 ⊢
      exact ⟨fun e => by simp at e, fun _ => Fin.of (nope (readC_none hne (stepC_0 t0)) E4)⟩
    | some p =>
      obtain ⟨ix, r1⟩ := p
      have f0 : rNat 5 l false = (ix, r1, false) := rNat_some t0
      rw [f0] at E4 ⊢
      cases t1 : natT 1 r1 with
      | none =>
        have f1 : rNat 1 r1 false = (0, [], true) := rNat_none t1
        simp only [f1] at E4 ⊢
        exact ⟨fun e => by simp at e, fun _ => Fin.of (nope (readC_none hne (stepC_1 t0 t1)) E4)⟩
      | some p =>
        obtain ⟨kx, r2⟩ := p
        have f1 : rNat 1 r1 false = (kx, r2, false) := rNat_some t1
        simp only [f1] at E4 ⊢
        refine ⟨fun hk => ?_, fun hk => Fin.of (go (stepC_off t0 t1 (by omega)) E4)⟩
        have hk1 : kx = 1 := by omega
        subst hk1
        refine rtext_wp (by decide) (E4.gM 0 rfl) ?_
        have E5 := E4.pM (o' := rdO (rText 32 r2 false).2.1 (rText 32 r2 false).2.2) 0 rfl
        obtain ⟨h58, st, E6⟩ := E5.vM 2 (fs := [.int .i64 (ix : Nat)]) (gs := [.bool false, .string ByteArray.empty]) rfl [.bool true, .string (ba (rText 32 r2 false).1)] (by simp [isOne]) 1 rfl (by simp)
        refine ⟨h58, st, ?_⟩
        cases t2 : natT 32 r2 with
        | none =>
          have f2 : rText 32 r2 false = ([], [], true) := rText_none t2
          rw [f2] at E6
          exact Fin.of (nope (readC_none hne (stepC_2 t0 t1 t2)) E6)
        | some p =>
          obtain ⟨n, r3⟩ := p
          by_cases hs : r3.length < n
          · have f2 : rText 32 r2 false = ([], [], true) := rText_short t2 hs
            rw [f2] at E6
            exact Fin.of (nope (readC_none hne (stepC_3 t0 t1 t2 hs)) E6)
          · have f2 : rText 32 r2 false = (r3.take n, r3.drop n, false) := rText_some t2 hs
            rw [f2] at E6
            exact Fin.of (go (stepC_on t0 t1 t2 hs) E6)
  · have hl : l = [] := List.length_eq_zero_iff.1 (by omega)
    subst hl
    unfold S_redo_Read_J1
    refine rbad_wp (E.gM 0 rfl) ⟨fun hb => Fin.of (hN (i1 hb).2 _ E.zM), fun hb => Fin.of ?_⟩
    have i3 := i2 hb
    rw [readC_nil] at i3
    refine hS n0 acc (by rw [i3]; simp) a c r _ R ?_
    exact E.sM [1] (by decide)
end
end Go.Proofs.Ytlehephbflgblaa.H
namespace Go.Proofs.Ytlehephbflgblaa.H
open Go Go.RowKit
set_option linter.unusedVariables false
set_option maxRecDepth 100000
section
variable {B : RO} {h0 h h' : Heap} {L : List (Option (Nat × AObj))} {r : Option (Nat × AObj)} {i k kT kR : Nat} {a : Option Addr} {m c : Nat} {v : Value} {xs : DFL} {l : FL} {s : ByteArray}
theorem TomeAt.set2 {r' : Option (Nat × AObj)} (A : TomeAt L i kT kR v r) : TomeAt (L.set (i + 2) r') i kT kR v r' :=
  ⟨by rw [List.getElem?_set_ne (by omega)]; exact A.p, by
    have hl := (List.getElem?_eq_some_iff.1 A.f.q).1
    exact ⟨by rw [List.getElem?_set_ne (by omega)]; exact A.f.p, by rw [show i + 1 + 1 = i + 2 by omega]; exact List.getElem?_set_self hl⟩⟩
theorem TomeAt.app {M : List (Option (Nat × AObj))} (A : TomeAt L i kT kR v r) : TomeAt (L ++ M) i kT kR v r := ⟨up_app _ A.p, ⟨up_app _ A.f.p, up_app _ A.f.q⟩⟩
theorem TomeAt.lt (A : TomeAt L i kT kR v r) : i + 2 < L.length := (List.getElem?_eq_some_iff.1 A.f.q).1
def RdAll (B : RO) (h0 : Heap) (L : List (Option (Nat × AObj))) (i : Nat) (a : Option Addr) (xs : DFL) : Prop := ∀ (r' : Option (Nat × AObj)) (h' : Heap), Keep B h0 (L.set (i + 2) r') h' → Reads B h' a 3 entC_file_File xs
theorem redo_apply_wp {ver : Int} {Q : Heap → Prop} (E : Keep B h0 L h) (A : TomeAt L i kT kR v r) (R : FRow r v l) (h6 : l.length = 6) (g : ∀ x ∈ xs, GoodC x) (hl : xs.length ≤ 1000000) (hr : RdAll B h0 L i a xs)
    (hQ : ∀ r' h', FRow r' v (apCs ver l xs) → Keep B h0 (L.set (i + 2) r') h' → Q h') : C_redo_Apply B (some ⟨kT, 0, none⟩) a xs.length c ver h Q := by
  refine C_redo_Apply.of ?_
  unfold S_redo_Apply
  have hA := A.lt
  refine ⟨fun ix m h' => ∃ (j : Nat) (r' : Option (Nat × AObj)), j ≤ xs.length ∧ ix = j ∧ m = xs.length - j ∧ FRow r' v (apCs ver l (xs.take j)) ∧ Keep B h0 (L.set (i + 2) r') h', xs.length, Fin.of ⟨0, r, by omega, rfl, by omega, R, ?_⟩, ?_⟩
  · rw [show L.set (i + 2) r = L from by obtain ⟨hl, e⟩ := List.getElem?_eq_some_iff.1 A.f.q; rw [show i + 2 = i + 1 + 1 by omega, ← e]; exact List.set_getElem_self hl]; exact E
  clear E R
  rintro _ _ h7 ⟨j, r1, hj, rfl, rfl, R, E⟩
  refine ⟨fun hlt => ?_, fun hge => Fin.of ?_⟩
  · have hj' : j < xs.length := by omega
    have hw : IntKind.wrap .i64 ((j : Int) + 1) = ((j + 1 : Nat) : Int) := by rw [w64 (by omega) (by omega)]; omega
    have hx := List.getElem?_eq_getElem hj'
    have gx := g _ (List.getElem_mem hj')
    generalize xs[j] = x at hx gx
    obtain ⟨A', e1, e3, e4⟩ := (hr r1 _ E) j x hx
    refine ⟨A', e1, by omega, hlt, x.1, x.2.1, x.2.2, e4, fun k18 a18 b18 h19 e19 => ?_⟩
    have E1 := E.made a18 b18 e19
    refine ⟨_, stores_whole E1.last rfl (by simp) (by simp [isOne]) (by simp), ?_⟩
    have E2 := E1.putLast (.vec TY.redo_Change (plains (entC_file_File x)) 3)
    refine ⟨x.1, cellH_vec E2.last rfl, x.2.1, x.2.2, ⟨cellH_vec E2.last rfl, cellH_vec E2.last rfl, trivial⟩, ?_⟩
    refine tset_wp (i := i) E2 (A.set2.app) R fun r' h24 R' E3 => Fin.of ⟨xs.length - (j + 1), by omega, j + 1, r', by omega, hw, rfl, ?_, ?_⟩
    · rw [setF_good gx (by rw [apCs_len]; exact h6)] at R'
      rw [apCs_take ver l hx]; exact R'
    · rw [List.set_append_left _ _ (by rw [List.length_set]; exact hA), List.set_set] at E3
      exact E3.pop
  · have : j = xs.length := by omega
    subst this
    rw [List.take_length] at R
    exact hQ _ _ R E
theorem redo_replay_wp {bs : List ByteArray} {Q : Int → Int → Heap → Prop} (E : Keep B h0 L h) (A : TomeAt L i kT kR v r) (R : FRow r v l) (h6 : l.length = 6) (hl : bs.length ≤ 1000000)
    (hr : ∀ (r' : Option (Nat × AObj)) (h' : Heap), Keep B h0 (L.set (i + 2) r') h' → Reads B h' a 1 (fun s => [.string s]) bs)
    (hQ : ∀ r' h', FRow r' v (apCs 0 l (chsOf (goods bs))) → Keep B h0 (L.set (i + 2) r') h' → Q (lastOf (goods bs)) ((goods bs).length : Nat) h') : C_redo_Replay B (some ⟨kT, 0, none⟩) a bs.length c h Q := by
  refine C_redo_Replay.of ?_
  unfold S_redo_Replay
  have hA := A.lt
  have hg := goods_len bs
  refine ⟨fun la ix m h' => ∃ (j : Nat) (r' : Option (Nat × AObj)), j ≤ (goods bs).length ∧ ix = j ∧ m = bs.length - j ∧ la = lastOf ((goods bs).take j) ∧ FRow r' v (apCs 0 l (chsOf ((goods bs).take j))) ∧ Keep B h0 (L.set (i + 2) r') h', bs.length, Fin.of ⟨0, r, by omega, rfl, by omega, rfl, R, ?_⟩, ?_⟩
  · rw [show L.set (i + 2) r = L from by obtain ⟨hl, e⟩ := List.getElem?_eq_some_iff.1 A.f.q; rw [show i + 2 = i + 1 + 1 by omega, ← e]; exact List.set_getElem_self hl]; exact E
  clear E R
  rintro _ _ _ h9 ⟨j, r1, hj, rfl, rfl, rfl, R, E⟩
  refine ⟨fun hlt => ?_, fun hge => Fin.of ?_⟩
  · have hj' : j < bs.length := by omega
    have hw : IntKind.wrap .i64 ((j : Int) + 1) = ((j + 1 : Nat) : Int) := by rw [w64 (by omega) (by omega)]; omega
    have hx := List.getElem?_eq_getElem hj'
    generalize bs[j] = b at hx
    obtain ⟨A', e1, e3, e4⟩ := (hr r1 _ E) j b hx
    refine ⟨A', e1, by omega, hlt, b, e4.1, ?_⟩
    refine redo_read_wp E (fun hn h18 E1 => ⟨fun e => (by cases e), fun _ => Fin.of ?_⟩) fun n xs hs a20 c22 r20 h18 R20 E1 => ⟨fun _ => ?_, fun e => by cases e⟩
    · have : j = (goods bs).length := by
        rcases Nat.lt_or_ge j (goods bs).length with h | h
        · have := goods_get hx h
          rw [hn, List.getElem?_eq_getElem h] at this; cases this
        · omega
      subst this
      rw [List.take_length] at R ⊢
      exact hQ _ _ R E1
    · have hjl : j < (goods bs).length := by
        rcases Nat.lt_or_ge j (goods bs).length with h | h
        · exact h
        · have : j = (goods bs).length := by omega
          subst this
          rw [goods_end hx] at hs; cases hs
      have hgj := goods_get hx hjl
      rw [hs] at hgj
      obtain ⟨_, _, gx, _⟩ := loadOf_some hs
      obtain ⟨-, rd20⟩ := Row.rd (B := B) R20 entC_file_File_len (by omega)
      have hsz : xs.length ≤ 1000000 := by
        have : ∀ (d : DFL), SortD d → (∀ x ∈ d, GoodC x) → d.length ≤ 6 := sortGood_len
        have := this xs (loadOf_some hs).2.1 gx
        omega
      refine redo_apply_wp (i := i) E1 A.set2.app R (by rw [apCs_len]; exact h6) gx hsz (fun r' h' E' => rd20 h' fun k o e => E'.at L.length ?_) fun r' h24 R' E2 => Fin.of ⟨bs.length - (j + 1), by omega, j + 1, r', by omega, hw, rfl, ?_, ?_, ?_⟩
      · rw [List.getElem?_set_ne (by omega), List.getElem?_append_right (by simp), List.length_set, Nat.sub_self, e]; rfl
      · rw [lastOf_take hgj.symm]
      · rw [chsOf_take hgj.symm, apCs_app]; exact R'
      · rw [List.set_append_left _ _ (by rw [List.length_set]; exact hA), List.set_set] at E2
        exact E2.pop
  · have : bs.length = (goods bs).length := by omega
    have hjj : j = (goods bs).length := by omega
    subst hjj
    rw [List.take_length] at R ⊢
    have := hQ _ _ R E
    rwa [← ‹bs.length = (goods bs).length›] at this
end
end Go.Proofs.Ytlehephbflgblaa.H
namespace Go.Proofs.Ytlehephbflgblaa.H
open Go Go.RowKit
set_option linter.unusedVariables false
set_option maxRecDepth 100000
structure ShI where
  kT : Nat
  kR : Nat
  vt : Value
  rt : Option (Nat × AObj)
  ks : Nat
  kf : Nat
def getS (l : FL) (d : DFL) (n : Int) : FileS × Bool := match atD d n with
  | some f => (f, true)
  | none => ((fileAt l n).1, false)
theorem getS_some {l : FL} {d : DFL} {n : Int} {f : FileS} (h : atD d n = some f) : getS l d n = (f, true) := by rw [getS, h]
theorem getS_none {l : FL} {d : DFL} {n : Int} (h : atD d n = none) : getS l d n = ((fileAt l n).1, false) := by rw [getS, h]
def putS (l : FL) (d : DFL) (n : Int) (f : FileS) : DFL := if (getS l d n).1 = f then d else insD d n f
section
variable {B : RO} {h0 h h' : Heap} {L : List (Option (Nat × AObj))} {r rd : Option (Nat × AObj)} {i k : Nat} {a : Option Addr} {m c : Nat} {v vd : Value} {l : FL} {d : DFL} {n : Int} {x : ShI} {f : FileS}
end
end Go.Proofs.Ytlehephbflgblaa.H
namespace Go.Proofs.Ytlehephbflgblaa.H
open Go Go.RowKit
set_option linter.unusedVariables false
set_option maxRecDepth 100000
def padT (n : Nat) (l : List UInt8) : List UInt8 := l ++ List.replicate (n - l.length) 0
theorem padT_len (n : Nat) (l : List UInt8) : (padT n l).length = max l.length n := by simp [padT]; omega
def putT (l : List UInt8) (k : Nat) (c : UInt8) : List UInt8 := (padT (k + 1) l).set k c
def putF (f : FileS) (at' : Int) (c : UInt8) : FileS := if 0 ≤ at' ∧ at' < 32 then (true, ba (putT (bl f.2) at'.toNat c)) else f
def cutT (l : List UInt8) (n : Nat) : List UInt8 := (padT n l).take n
def cutF (f : FileS) (n : Int) : FileS := if f.1 = true ∧ 0 ≤ n ∧ n ≤ 32 then (true, ba (cutT (bl f.2) n.toNat)) else f
theorem cutT_len (l : List UInt8) (n : Nat) : (cutT l n).length = n := by unfold cutT; rw [List.length_take, padT_len]; omega
theorem putT_len (l : List UInt8) (k : Nat) (c : UInt8) : (putT l k c).length = max l.length (k + 1) := by unfold putT; rw [List.length_set, padT_len]
section
variable {B : RO} {h h0 : Heap} {L : List (Option (Nat × AObj))} {b : Bool} {s : ByteArray}
end
end Go.Proofs.Ytlehephbflgblaa.H
namespace Go.Proofs.Ytlehephbflgblaa.H
open Go Go.RowKit
set_option linter.unusedVariables false
set_option maxRecDepth 100000
def inR (n : Int) : Bool := decide (0 ≤ n ∧ n < 6)
theorem inR_t {n : Int} (h : inR n = true) : 0 ≤ n ∧ n < 6 := of_decide_eq_true h
def upS (l : FL) (d : DFL) (n : Int) (f : FileS) : DFL := if inR n = true then putS l d n f else d
def f0 : FileS := (false, ByteArray.empty)
structure SOk (l : FL) (d : DFL) : Prop where
  s : SortD d
  k : ∀ x ∈ d, (0 ≤ x.1 ∧ x.1 < 6) ∧ goodF x.2.1 x.2.2 = true
  l6 : l.length = 6
  g : ∀ y ∈ l, goodF y.1.1 y.1.2 = true
theorem sort_len6 : ∀ (d : DFL) (a : Nat), SortD d → (∀ x ∈ d, (a : Int) ≤ x.1 ∧ x.1 < 6) → d.length ≤ 6 - a := by
  intro d
  induction d with
  | nil => intro a _ _; simp
  | cons x d ih =>
    intro a s h
    obtain ⟨h1, h2⟩ := h x (by simp)
    obtain ⟨s1, s2⟩ := List.pairwise_cons.1 s
    have := ih (a + 1) s2 (fun y hy => ⟨by have := s1 y hy; omega, (h y (by simp [hy])).2⟩)
    simp only [List.length_cons]; omega
theorem SOk.len {l : FL} {d : DFL} (o : SOk l d) : d.length ≤ 6 := sort_len6 d 0 o.s fun x hx => (o.k x hx).1
theorem atD_mem {d : DFL} {n : Int} {f : FileS} (h : atD d n = some f) : ∃ x ∈ d, x.1 = n ∧ x.2 = f := by
  unfold atD at h
  cases hf : d.find? (fun x => x.1 == n) with
  | none => rw [hf] at h; cases h
  | some x =>
    rw [hf] at h
    have h1 := List.find?_some hf
    exact ⟨x, List.mem_of_find?_eq_some hf, by simpa using h1, by simpa using h⟩
theorem SOk.fat {l : FL} {d : DFL} (o : SOk l d) (n : Int) : goodF (fileAt l n).1.1 (fileAt l n).1.2 = true := by
  by_cases h : 0 ≤ n ∧ n < (l.length : Int)
  · rw [fileAt_in h.1 (by omega)]; exact o.g _ (List.getElem_mem _)
  · rw [fileAt_out h]; rfl
theorem SOk.good {l : FL} {d : DFL} (o : SOk l d) (n : Int) : goodF (getS l d n).1.1 (getS l d n).1.2 = true := by
  cases h : atD d n with
  | none => rw [getS_none h]; exact o.fat n
  | some f =>
    rw [getS_some h]
    obtain ⟨x, hx, _, rfl⟩ := atD_mem h
    exact (o.k x hx).2
theorem goodF_size {b : Bool} {s : ByteArray} (h : goodF b s = true) : s.size ≤ 32 := by unfold goodF at h; simp at h; exact h.1
theorem goodF_put {f : FileS} (h : goodF f.1 f.2 = true) (n : Int) (c : UInt8) : goodF (putF f n c).1 (putF f n c).2 = true := by
  unfold putF
  split
  · rename_i hn
    have := goodF_size h
    unfold goodF
    rw [ba_size, putT_len, bl_length, decide_eq_true (by omega)]; rfl
  · exact h
theorem goodF_cut {f : FileS} (h : goodF f.1 f.2 = true) (n : Int) : goodF (cutF f n).1 (cutF f n).2 = true := by
  unfold cutF
  split
  · rename_i hn
    unfold goodF
    rw [ba_size, cutT_len, decide_eq_true (by omega)]; rfl
  · exact h
theorem goodF_make {f : FileS} (h : goodF f.1 f.2 = true) : goodF true f.2 = true := by
  have := goodF_size h
  unfold goodF; rw [decide_eq_true this]; rfl
theorem SOk.up {l : FL} {d : DFL} (o : SOk l d) {n : Int} {f : FileS} (g : goodF f.1 f.2 = true) : SOk l (upS l d n f) := by
  unfold upS putS
  split
  · rename_i hn
    have hn := inR_t hn
    split
    · exact o
    · refine ⟨o.s.ins, fun x hx => ?_, o.l6, o.g⟩
      rcases insD_mem hx with rfl | hx
      · exact ⟨hn, g⟩
      · exact o.k x hx
  · exact o
def renS (l : FL) (d : DFL) (a b : Int) : DFL := if (inR a && inR b && (getS l d a).1.1 && decide (a ≠ b)) = true then putS l (putS l d b (getS l d a).1) a f0 else d
theorem SOk.ren {l : FL} {d : DFL} (o : SOk l d) (a b : Int) : SOk l (renS l d a b) := by
  unfold renS
  split
  · rename_i h
    simp only [Bool.and_eq_true] at h
    have h1 := o.up (n := b) (o.good a)
    have h2 := h1.up (n := a) (f := f0) rfl
    unfold upS at h1 h2
    rw [if_pos h.1.1.2] at h1 h2
    rw [if_pos h.1.1.1] at h2
    exact h2
  · exact o
section
variable {B : RO} {h0 h h' : Heap} {L : List (Option (Nat × AObj))} {r rd : Option (Nat × AObj)} {v vd : Value} {l z : FL} {d : DFL} {n : Int} {x : ShI} {f : FileS}
end
end Go.Proofs.Ytlehephbflgblaa.H
namespace Go.Proofs.Ytlehephbflgblaa.H
open Go Go.RowKit
set_option linter.unusedVariables false
set_option maxRecDepth 100000
structure SCall where
  k : Int
  a : Int
  b : Int
  c : UInt8
def SCall.cells (x : SCall) : List Value := [.int .i64 x.k, .int .i64 x.a, .int .i64 x.b, .int .u8 ((x.c.toNat : Nat) : Int)]
theorem SCall.len (x : SCall) : x.cells.length = 4 := rfl
def opD (l : FL) (d : DFL) (x : SCall) : DFL :=
  if x.k = 0 then upS l d x.a (putF (getS l d x.a).1 x.b x.c)
  else if x.k = 1 then upS l d x.a (cutF (getS l d x.a).1 x.b)
  else if x.k = 2 then upS l d x.a (true, (getS l d x.a).1.2)
  else if x.k = 3 then upS l d x.a f0
  else if x.k = 4 then renS l d x.a x.b
  else d
theorem SOk.op {l : FL} {d : DFL} (o : SOk l d) (x : SCall) : SOk l (opD l d x) := by
  unfold opD
  split
  · exact o.up (goodF_put (o.good x.a) _ _)
  · split
    · exact o.up (goodF_cut (o.good x.a) _)
    · split
      · exact o.up (f := (true, (getS l d x.a).1.2)) (goodF_make (f := (getS l d x.a).1) (o.good x.a))
      · split
        · exact o.up rfl
        · split
          · exact o.ren _ _
          · exact o
def opsD (l : FL) (d : DFL) (xs : List SCall) : DFL := xs.foldl (opD l) d
theorem SOk.ops {l : FL} {d : DFL} (o : SOk l d) : ∀ xs : List SCall, SOk l (opsD l d xs) := by
  intro xs
  induction xs generalizing d with
  | nil => exact o
  | cons x xs ih => exact ih (o.op x)
section
variable {B : RO} {h0 h h' : Heap} {L : List (Option (Nat × AObj))} {r rd : Option (Nat × AObj)} {v vd : Value} {l z : FL} {d : DFL} {n : Int} {x : ShI} {f : FileS} {q kd : Nat}
end
end Go.Proofs.Ytlehephbflgblaa.H
namespace Go.Proofs.Ytlehephbflgblaa.H
open Go Go.RowKit
set_option linter.unusedVariables false
set_option maxRecDepth 100000
section
variable {B : RO} {h0 h h' : Heap} {L : List (Option (Nat × AObj))} {r rd : Option (Nat × AObj)} {v vd : Value} {l z : FL} {d : DFL} {n ver : Int} {x : ShI} {f : FileS} {q kd c : Nat} {a : Option Addr} {xs : List SCall}
def ShI.w (x : ShI) (r : Option (Nat × AObj)) : ShI := { x with rt := r }
end
end Go.Proofs.Ytlehephbflgblaa.H
namespace Go.Proofs.Ytlehephbflgblaa.H
open Go
set_option linter.unusedVariables false
set_option maxRecDepth 100000
theorem TK.slc_slot_int : slcB PG TY.s_cell_slot_int = some (TY.cell_slot_int, 2, 16) := by kernel_rfl
theorem TK.zero_slot_int : zeroB PG TY.cell_slot_int = some [.int .i64 0, .int .i64 0] := by kernel_rfl
theorem TK.sl_slot_int : slT PG TY.s_cell_slot_int = true := by kernel_rfl
def slotC_int (x : Int × Int) : List Value := [.int .i64 x.1, .int .i64 x.2]
theorem slotC_int_len (x : Int × Int) : (slotC_int x).length = 2 := rfl
def rowO_int (l : List (Int × Int)) : AObj := .vec TY.cell_Row_int [.own TY.cell_slot_int 2 (l.flatMap slotC_int)] 1
def RowP_int (h : Heap) (b : Nat) (a : Option Addr) (m c : Nat) (l : List (Int × Int)) : Prop := FP h b 0 TY.cell_slot_int 2 (l.flatMap slotC_int) a m c
def RowV_int (h : Heap) (b : Nat) (l : List (Int × Int)) : Prop := FV h b 0 TY.cell_slot_int 2 (l.flatMap slotC_int)
theorem RowP_int.v {h : Heap} {b m c : Nat} {a : Option Addr} {l : List (Int × Int)} (R : RowP_int h b a m c l) : RowV_int h b l := FP.fv R
def cellAt_int (l : List (Int × Int)) (i : Int) : Int × Int := if 0 ≤ i then (l[i.toNat]?).getD (0, 0) else (0, 0)
section
variable {B : RO} {h : Heap} {b : Nat} {a : Option Addr} {m c : Nat} {l : List (Int × Int)}
theorem RowP_int.len (R : RowP_int h b a m c l) : m = l.length := (R.2.reads (B := fun _ => none) slotC_int_len (by omega)).1
theorem RowP_int.at (R : RowP_int h b a m c l) : ∀ i x, l[i]? = some x → ∃ A, a = some A ∧ CellsAt B h (A.add (i * 2)) 0 (slotC_int x) := fun i x hx =>
  let ⟨A, e, _, q⟩ := (R.2.reads (B := B) slotC_int_len (by omega)).2 i x hx
  ⟨A, e, q⟩
theorem new_wp_int {n : Int} {x : Int} {Q : Option Addr → Heap → Prop} (hn : n ≤ 1000000) (hQ : ∀ k, h k = none → B k = none → Q (some ⟨k, 0, none⟩) (h.set k (rowO_int (List.replicate n.toNat (x, 0))))) : C_cell_New_int B n x h Q := by
  refine C_cell_New_int.of ?_
  unfold S_cell_New_int
  intro k a1 b1 h5 e5
  obtain ⟨g5, -, -⟩ := Heap.made a1 e5
  have hcl : Ent B h5 (h.set k (rowO_int [])) := by
    have := Ent.close_nil (B := B) (e := TY.cell_slot_int) (sz := 2) (i := 0) g5 rfl
    rw [e5, Heap.set_set] at this
    rw [e5]
    exact this
  refine ⟨fun i m h' => ∃ j : Nat, (j : Int) ≤ max n 0 ∧ i = j ∧ m = n.toNat - j ∧ h' = h.set k (rowO_int (List.replicate j (x, 0))), n.toNat, Fin.ent hcl (Fin.of ⟨0, by omega, rfl, by omega, rfl⟩), ?_⟩
  rintro _ _ _ ⟨j, hj, rfl, rfl, rfl⟩
  refine ⟨fun hlt => ?_, fun hge => ?_⟩
  · have hl := flatMap_length slotC_int_len (List.replicate j (x, (0 : Int)))
    rw [List.length_replicate] at hl
    refine app_own (len := 1) (ys := slotC_int (x, 0)) TK.slc_slot_int TK.zero_slot_int rfl (by omega) (by omega) TK.sl_slot_int (Heap.set_same _ _ _) rfl rfl (by simp [slotC_int, isOne]) (by rw [hl, slotC_int_len]; omega) ?_
    intro a' n' c' h3 h4 s1 s2
    refine ⟨a', n', c', rfl, h4, s1, Fin.ent s2 (Fin.of ⟨n.toNat - (j + 1), by omega, j + 1, by omega, ?_, rfl, ?_⟩)⟩
    · rw [w64 (by omega) (by omega)]; omega
    · rw [Heap.set_set]
      unfold rowO_int
      rw [List.replicate_succ', List.flatMap_append]
      simp
  · have : j = n.toNat := by omega
    subst this
    exact Fin.of (hQ k a1 b1)
end
end Go.Proofs.Ytlehephbflgblaa.H
namespace Go.Proofs.Ytlehephbflgblaa.H
open Go
set_option linter.unusedVariables false
set_option maxRecDepth 100000
def feedC (ts : List ByteArray) (kR : Nat) : List Value := ts.map Value.string ++ [.pointer (some ⟨kR, 0, none⟩)]
def feedO (ts : List ByteArray) (kR : Nat) : AObj := .vec TY.feed_Feed (plains (feedC ts kR)) 4
def textAt (ts : List ByteArray) (i : Int) : ByteArray := if 0 ≤ i ∧ i < 3 then (ts[i.toNat]?).getD (ByteArray.mk #[]) else ByteArray.mk #[]
def takeB (ts : List ByteArray) (l : List (Int × Int)) (i place : Int) : Bool := decide (0 ≤ i ∧ i < 3 ∧ (cellAt_int l i).1 ≤ place ∧ place ≤ (textAt ts i).size)
def takeL (ts : List ByteArray) (l : List (Int × Int)) (i place v : Int) : List (Int × Int) := if takeB ts l i place = true then l.set i.toNat (place, v) else l
structure FeedOk (ts : List ByteArray) (l : List (Int × Int)) : Prop where
  t3 : ts.length = 3
  l3 : l.length = 3
  size : ∀ i, (textAt ts i).size ≤ 64
  place : ∀ i, 0 ≤ (cellAt_int l i).1 ∧ (cellAt_int l i).1 ≤ (textAt ts i).size
theorem cellAt_int_set {l : List (Int × Int)} {i : Int} (h0 : 0 ≤ i) (h1 : i < l.length) (x : Int × Int) (j : Int) : cellAt_int (l.set i.toNat x) j = if j = i then x else cellAt_int l j := by
  unfold cellAt_int
  by_cases hj : 0 ≤ j
  · rw [if_pos hj, if_pos hj]
    by_cases he : j = i
    · subst he
      rw [if_pos rfl, List.getElem?_set_self (by omega)]; rfl
    · rw [if_neg he, List.getElem?_set_ne (by omega)]
  · rw [if_neg hj, if_neg hj, if_neg (fun he => hj (by omega))]
theorem FeedOk.take {ts : List ByteArray} {l : List (Int × Int)} (k : FeedOk ts l) (i place v : Int) : FeedOk ts (takeL ts l i place v) := by
  unfold takeL
  split
  · rename_i h
    unfold takeB at h
    rw [decide_eq_true_eq] at h
    obtain ⟨h0, h1, h2, h3⟩ := h
    have l3 := k.l3
    refine ⟨k.t3, by rw [List.length_set]; exact k.l3, k.size, fun j => ?_⟩
    rw [cellAt_int_set h0 (by omega)]
    have := k.place i
    split
    · rename_i e; subst e; exact ⟨by omega, h3⟩
    · exact k.place j
  · exact k
section
variable {B : RO} {h : Heap} {kF kR kM : Nat} {ts : List ByteArray} {l l' : List (Int × Int)}
def ts0 : List ByteArray := [ByteArray.empty, ByteArray.empty, ByteArray.empty]
def fl0 : List (Int × Int) := [(0, 0), (0, 0), (0, 0)]
theorem FeedOk.zero : FeedOk ts0 fl0 := by
  have key : ∀ i : Int, textAt ts0 i = ByteArray.empty ∧ (cellAt_int fl0 i) = (0, 0) := fun i => by
    by_cases h : 0 ≤ i ∧ i < 3
    · have : i = 0 ∨ i = 1 ∨ i = 2 := by omega
      rcases this with rfl | rfl | rfl <;> exact ⟨rfl, rfl⟩
    · refine ⟨by rw [textAt, if_neg h]; rfl, ?_⟩
      unfold cellAt_int
      split
      · rw [List.getElem?_eq_none (by simp [fl0]; omega)]; rfl
      · rfl
  exact ⟨rfl, rfl, fun i => by rw [(key i).1]; decide, fun i => by rw [(key i).1, (key i).2]; decide⟩
theorem feed_new_wp {Q : Option Addr → Heap → Prop} (hQ : ∀ kR kF h1 h2, h kR = none → B kR = none → h1 = h.set kR (rowO_int fl0) → h1 kF = none → B kF = none → h2 = h1.set kF (feedO ts0 kR) → Q (some ⟨kF, 0, none⟩) h2) : C_feed_New B h Q := by
  refine C_feed_New.of ?_
  unfold S_feed_New
  refine new_wp_int (by decide) fun kR a1 b1 k4 a4 b4 h5 e5 => Fin.of (hQ kR k4 _ h5 a1 b1 rfl a4 b4 e5)
end
end Go.Proofs.Ytlehephbflgblaa.H
namespace Go.Proofs.Ytlehephbflgblaa.H
open Go Go.RowKit
set_option linter.unusedVariables false
set_option maxRecDepth 100000
structure StI where
  kd : Nat
  vd : Value
  rd : Option (Nat × AObj)
  ks : Nat
  kf : Nat
  vf : Value
  rf : Option (Nat × AObj)
  kc : Nat
structure StV where
  d : List (Int × Int)
  f : List (Int × (Bool × ByteArray))
  c0 : Int
  c1 : Int
  c2 : Int
def StV.z : StV := ⟨[], [], 0, 0, 0⟩
structure Reg4 where
  a : Int
  b : Int
  c : Int
  d : Int
structure MarkR where
  x : StI
  g : Reg4
  m : Reg4
  place : Int
def MarkR.cells (m : MarkR) : List Value := [.pointer (some ⟨m.x.kd, 0, none⟩), .pointer (some ⟨m.x.ks, 0, none⟩), .pointer (some ⟨m.x.kc, 0, none⟩), .int .i64 m.g.a, .int .i64 m.g.b, .int .i64 m.g.c, .int .i64 m.g.d, .int .i64 m.m.a, .int .i64 m.m.b, .int .i64 m.m.c, .int .i64 m.m.d, .int .i64 m.place]
theorem MarkR.len (m : MarkR) : m.cells.length = 12 := rfl
theorem MarkR.one (m : MarkR) : ∀ y ∈ m.cells, isOne y = true := fun y hy => by
  simp only [MarkR.cells, List.mem_cons, List.not_mem_nil, or_false] at hy
  rcases hy with rfl | rfl | rfl | rfl | rfl | rfl | rfl | rfl | rfl | rfl | rfl | rfl <;> rfl
section
variable {B : RO} {h0 h h' : Heap} {L : List (Option (Nat × AObj))} {r : Option (Nat × AObj)} {i j k : Nat} {a : Option Addr} {m c : Nat} {v : Value} {l : List MarkR} {x : StI} {s : StV} {g mm : Reg4} {place : Int}
end
end Go.Proofs.Ytlehephbflgblaa.H
namespace Go.Proofs.Ytlehephbflgblaa.H
open Go Go.RowKit
set_option linter.unusedVariables false
set_option maxRecDepth 100000
structure VI where
  kV : Nat
  kC : Nat
  kT : Nat
  kR : Nat
  vt : Value
  rt : Option (Nat × AObj)
  kF : Nat
  kP : Nat
structure VV where
  c : List (Int × Int)
  f : FL
  ts : List ByteArray
  l : List (Int × Int)
  t : Int
def viewO (x : VI) (t : Int) : AObj := .vec TY.attempt_View (plains [.pointer (some ⟨x.kC, 0, none⟩), .pointer (some ⟨x.kT, 0, none⟩), .pointer (some ⟨x.kF, 0, none⟩), .int .i64 t]) 4
def VI.e (x : VI) (v : VV) : List (Option (Nat × AObj)) := [some (x.kV, viewO x v.t), some (x.kC, rowO_int v.c), some (x.kT, tomO x.kR), some (x.kR, frO x.vt), x.rt, some (x.kF, feedO v.ts x.kP), some (x.kP, rowO_int v.l)]
structure VOk (x : VI) (v : VV) : Prop where
  r : FRow x.rt x.vt v.f
  c8 : v.c.length = 8
  f : TomeOk v.f
  k : FeedOk v.ts v.l
def VAt (L : List (Option (Nat × AObj))) (i : Nat) (x : VI) (v : VV) : Prop := ∀ j, j < 7 → L[i + j]? = (x.e v)[j]?
theorem VAt.mk {L R : List (Option (Nat × AObj))} {x : VI} {v : VV} : VAt (L ++ (x.e v ++ R)) L.length x v := fun j hj => by
  rw [List.getElem?_append_right (by omega), Nat.add_sub_cancel_left, List.getElem?_append_left (by exact hj)]
theorem VAt.app {L M : List (Option (Nat × AObj))} {i : Nat} {x : VI} {v : VV} (A : VAt L i x v) : VAt (L ++ M) i x v := fun j hj => by
  have h1 : (x.e v)[j]? = some ((x.e v)[j]'hj) := List.getElem?_eq_getElem hj
  rw [h1]
  exact up_app _ ((A j hj).trans h1)
def vz : VV := ⟨List.replicate 8 (0, 0), List.replicate 6 ((false, ByteArray.empty), 0), ts0, fl0, 0⟩
def part (F Z : List Value) (m : Nat) : List Value := F.take m ++ Z.drop m
theorem wrapS {j : Nat} (h : j < 1000000000) : IntKind.wrap .i64 ((j : Int) + 1) = ((j + 1 : Nat) : Int) := by rw [w64 (by omega) (by omega)]; omega
section
variable {B : RO} {h0 h h' : Heap} {L M : List (Option (Nat × AObj))} {i k n : Nat} {t : TypeId} {x : VI} {v : VV}
theorem VAt.at {k : Nat} {o : AObj} (A : VAt L i x v) (E : Keep B h0 L h) (j : Nat) (hj : j < 7) (e : (x.e v)[j]? = some (some (k, o))) : h k = some o := E.at (i + j) ((A j hj).trans e)
theorem newview_wp {Q : Option Addr → Heap → Prop} (hQ : ∀ x h', VOk x vz → Keep B h (x.e vz) h' → Q (some ⟨x.kV, 0, none⟩) h') : C_attempt_NewView B h Q := by
  refine C_attempt_NewView.of ?_
  unfold S_attempt_NewView
  refine new_wp_int (by decide) fun kC a b => ?_
  have E := (Keep.nil B h).new (o := rowO_int (List.replicate 8 (0, 0))) a b
  refine tnew_wp fun kT kR v r h4 R E1 => ?_
  have E2 := E.append E1
  refine feed_new_wp fun kP kF h1 h2 aP bP e1 aF bF e2 => ?_
  have E3 := (E2.made aP bP e1).made aF bF e2
  intro k8 a8 b8 h9 e9
  have E4 := E3.made a8 b8 e9
  exact Fin.of (hQ ⟨k8, kC, kT, kR, v, r, kF, kP⟩ _ ⟨R, rfl, TomeOk.zero, FeedOk.zero⟩ (E4.picks [6, 0, 1, 2, 3, 5, 4] (by decide)))
end
end Go.Proofs.Ytlehephbflgblaa.H
namespace Go.Proofs.Ytlehephbflgblaa.H
open Go Go.RowKit
set_option linter.unusedVariables false
set_option maxRecDepth 100000
structure Way where
  q : ByteArray
  s : ByteArray
  t : ByteArray
def wz : Way := ⟨ByteArray.empty, ByteArray.empty, ByteArray.empty⟩
def Way.all (x : Way) : ByteArray := (x.t ++ x.s) ++ x.q
abbrev WR := Way × Way × Way
def wayAt (w : WR) (i : Int) : Way := if i = 0 then w.1 else if i = 1 then w.2.1 else if i = 2 then w.2.2 else wz
def setW (w : WR) (i : Int) (x : Way) : WR := if i = 0 then (x, w.2.1, w.2.2) else if i = 1 then (w.1, x, w.2.2) else if i = 2 then (w.1, w.2.1, x) else w
def WOk (w : WR) : Prop := ∀ i, (wayAt w i).q.size ≤ 1000000000000 ∧ (wayAt w i).s.size ≤ 1000000000000 ∧ (wayAt w i).t.size ≤ 1000000000000
def wirO (w : WR) : AObj := .vec TY.wire_Wire (plains [.string w.1.q, .string w.1.s, .string w.1.t, .string w.2.1.q, .string w.2.1.s, .string w.2.1.t, .string w.2.2.q, .string w.2.2.s, .string w.2.2.t]) 9
structure TkV where
  h : Int
  f : Bool
  c : Int
def tk0 : TkV := ⟨-1, false, -1⟩
def tokO (t : TkV) : AObj := .vec TY.token_Token (plains [.int .i64 t.h, .bool t.f, .int .i64 t.c]) 3
def freeT (t : TkV) (i : Int) : Bool := decide (0 ≤ i ∧ (t.h = -1 ∨ t.h = i) ∧ (t.c = -1 ∨ t.c = i))
structure Tal where
  a : Int
  b : Int
  c : Int
  d : Int
def talAt (t : Tal) (i : Int) : Int := if i = 0 then t.a else if i = 1 then t.b else if i = 2 then t.c else t.d
def talSet (t : Tal) (i x : Int) : Tal := if i = 0 then { t with a := x } else if i = 1 then { t with b := x } else if i = 2 then { t with c := x } else if i = 3 then { t with d := x } else t
def talAdd (t : Tal) (o : Int × Int) : Tal := talSet t o.1 (IntKind.wrap .i64 (talAt t o.1 + o.2))
structure WS where
  v : VV
  w : WR
  tk : TkV
  tl : Tal
  nt : List (Int × Int)
  n : Int
  f : Int
  cs : List Chg
  k : Nat
  e : Nat
  ar : Int
  sz : Nat
  im : List UInt8
  ls : List (List UInt8)
structure WI where
  V : VI
  kW : Nat
  kU : Nat
  kK : Nat
  vn : Value
  rn : Option (Nat × AObj)
  kD : Nat
  vd : Value
  rd : Option (Nat × AObj)
  kv : Nat
  kl : Nat
def wldO (I : WI) (S : WS) : AObj := .vec TY.world_World (plains [.pointer (some ⟨I.V.kV, 0, none⟩), .pointer (some ⟨I.kU, 0, none⟩), .pointer (some ⟨I.kK, 0, none⟩), .pointer (some ⟨I.kD, 0, none⟩), .pointer (some ⟨I.kv, 0, none⟩), .int .i64 S.tl.a, .int .i64 S.tl.b, .int .i64 S.tl.c, .int .i64 S.tl.d, I.vn, .int .i64 S.n, .int .i64 S.f]) 12
def WI.h (I : WI) (S : WS) : List (Option (Nat × AObj)) := I.V.e S.v ++ [some (I.kW, wldO I S), some (I.kU, wirO S.w), some (I.kK, tokO S.tk), I.rn]
def WI.d (I : WI) (S : WS) : List (Option (Nat × AObj)) := vE I.kD I.kv I.kl S.cs S.k I.vd I.rd S.e true (walO I.kD S.ar S.sz false)
def WI.e (I : WI) (S : WS) : List (Option (Nat × AObj)) := I.h S ++ I.d S
def NoteW (x : Int × Int) : List Value := [.int .i64 x.1, .int .i64 x.2]
theorem NoteW_len (x : Int × Int) : (NoteW x).length = 2 := rfl
theorem NoteW_one (x : Int × Int) : ∀ y ∈ NoteW x, isOne y = true := by simp [NoteW, isOne]
structure WK (I : WI) (S : WS) : Prop where
  o : VOk I.V S.v
  nr : Row I.rn I.vn TY.world_Note 2 (S.nt.flatMap NoteW)
  cr : CRow I.rd I.vd (S.cs.drop S.k)
  hk : S.k ≤ S.cs.length
  ok : DOk S.cs
  ar : S.ar = 0 ∨ S.ar = 1
section
variable {B : RO} {h0 h h' : Heap} {L M : List (Option (Nat × AObj))} {I : WI} {S : WS} {i j : Int} {k : Nat}
theorem wirenew_wp {Q : Option Addr → Heap → Prop} (hQ : ∀ k, h k = none → B k = none → Q (some ⟨k, 0, none⟩) (h.set k (wirO (wz, wz, wz)))) : C_wire_New B h Q := by
  refine C_wire_New.of ?_
  unfold S_wire_New
  intro k a b h1 e
  subst e
  exact Fin.of (hQ k a b)
theorem tknew_wp {Q : Option Addr → Heap → Prop} (hQ : ∀ k, h k = none → B k = none → Q (some ⟨k, 0, none⟩) (h.set k (tokO tk0))) : C_token_New B h Q := by
  refine C_token_New.of ?_
  unfold S_token_New
  intro k a b h1 e
  subst e
  exact Fin.of (hQ k a b)
theorem wayat_wp {Q : Option Addr → Heap → Prop} (hN : ¬ (0 ≤ i ∧ i < 3) → Q none h) (hS : 0 ≤ i ∧ i < 3 → Q (some ⟨k, i.toNat * 3, none⟩) h) : C_wire_Wire_at B (some ⟨k, 0, none⟩) i h Q := by
  refine C_wire_Wire_at.of ?_
  unfold S_wire_Wire_at
  refine ⟨fun e => (by cases e), fun _ => ⟨fun h1 => Fin.of ?_, fun h1 => ⟨fun h2 => Fin.of ?_, fun h2 => Fin.of ?_⟩⟩⟩ <;> unfold S_wire_Wire_at_J1
  · exact ⟨fun _ => Fin.of (hN (by omega)), fun e => by cases e⟩
  · exact ⟨fun _ => Fin.of (hN (by omega)), fun e => by cases e⟩
  · refine ⟨fun e => (by cases e), fun _ => ⟨_, rfl, by omega, by omega, Fin.of ?_⟩⟩
    rw [addr_more, Nat.zero_add]
    exact hS ⟨by omega, by omega⟩
theorem wireall_wp {w : WR} {Q : ByteArray → Heap → Prop} (g : h k = some (wirO w)) (ok : WOk w) (hQ : Q (if 0 ≤ i ∧ i < 3 then (wayAt w i).all else ByteArray.mk #[]) h) : C_wire_Wire_All B (some ⟨k, 0, none⟩) i h Q := by
  refine C_wire_Wire_All.of ?_
  unfold S_wire_Wire_All
  refine wayat_wp (fun hn => ⟨fun _ => Fin.of ?_, fun e => absurd rfl e⟩) fun hi => ⟨fun e => (by cases e), fun _ => ?_⟩
  · rw [if_neg hn] at hQ; exact hQ
  · rw [if_pos hi] at hQ
    obtain ⟨o1, o2, o3⟩ := ok i
    have h3 : i = 0 ∨ i = 1 ∨ i = 2 := by omega
    have c : cellH B h ⟨k, i.toNat * 3, none⟩ = some (.string (wayAt w i).q) ∧ cellH B h ⟨k, i.toNat * 3 + 1, none⟩ = some (.string (wayAt w i).s) ∧ cellH B h ⟨k, i.toNat * 3 + 2, none⟩ = some (.string (wayAt w i).t) := by
      rcases h3 with rfl | rfl | rfl <;> exact ⟨cellH_vec g rfl, cellH_vec g rfl, cellH_vec g rfl⟩
    refine ⟨_, rfl, _, by rw [addr_more]; exact c.2.2, _, rfl, _, by rw [addr_more]; exact c.2.1, by omega, _, rfl, _, c.1, by rw [ByteArray.size_append]; omega, Fin.of hQ⟩
theorem wirepush_wp {w : WR} {s : ByteArray} {Q : Bool → Heap → Prop} (g : h k = some (wirO w)) (ok : WOk w) (hs : s.size ≤ 1000000) (hQ : Q (decide (0 ≤ i ∧ i < 3)) (h.set k (wirO (setW w i { wayAt w i with q := (wayAt w i).q ++ s })))) : C_wire_Wire_Push B (some ⟨k, 0, none⟩) i s h Q := by
  refine C_wire_Wire_Push.of ?_
  unfold S_wire_Wire_Push
  refine wayat_wp (fun hn => ⟨fun _ => Fin.of ?_, fun e => absurd rfl e⟩) fun hi => ⟨fun e => (by cases e), fun _ => ?_⟩
  · rw [decide_eq_false hn] at hQ
    have : setW w i { wayAt w i with q := (wayAt w i).q ++ s } = w := by unfold setW; rw [if_neg (by omega), if_neg (by omega), if_neg (by omega)]
    rw [this, Heap.set_self _ _ _ g] at hQ; exact hQ
  · rw [decide_eq_true hi] at hQ
    obtain ⟨o1, o2, o3⟩ := ok i
    have h3 : i = 0 ∨ i = 1 ∨ i = 2 := by omega
    have c : cellH B h ⟨k, i.toNat * 3, none⟩ = some (.string (wayAt w i).q) ∧ storeH h ⟨k, i.toNat * 3, none⟩ (.string ((wayAt w i).q ++ s)) = some (h.set k (wirO (setW w i { wayAt w i with q := (wayAt w i).q ++ s }))) := by
      rcases h3 with rfl | rfl | rfl <;> exact ⟨cellH_vec g rfl, storeH_vec g rfl⟩
    exact ⟨_, rfl, _, c.1, by omega, _, rfl, _, c.2, Fin.of hQ⟩
theorem free_wp {t : TkV} {Q : Bool → Heap → Prop} (g : h k = some (tokO t)) (hQ : Q (freeT t i) h) : C_token_Token_Free B (some ⟨k, 0, none⟩) i h Q := by
  refine C_token_Token_Free.of ?_
  unfold S_token_Token_Free
  have no : ¬ (0 ≤ i ∧ (t.h = -1 ∨ t.h = i) ∧ (t.c = -1 ∨ t.c = i)) → Q false h := fun hn => by rw [freeT, decide_eq_false hn] at hQ; exact hQ
  have ye : (0 ≤ i ∧ (t.h = -1 ∨ t.h = i) ∧ (t.c = -1 ∨ t.c = i)) → Q true h := fun hn => by rw [freeT, decide_eq_true hn] at hQ; exact hQ
  have be : 0 ≤ i → (t.h = -1 ∨ t.h = i) → ¬ t.c = -1 → Q ((t.c : Int) == i) h := fun h1 h2 h3 => by
    by_cases e : t.c = i
    · have eb : (t.c == i) = true := by simpa using e
      rw [eb]; exact ye ⟨h1, h2, .inr e⟩
    · have eb : (t.c == i) = false := by simpa using e
      rw [eb]; exact no (by omega)
  refine ⟨fun e => (by cases e), fun _ => ⟨fun h1 => ⟨_, rfl, t.h, cellH_vec g rfl, fun h2 => ⟨_, rfl, t.c, cellH_vec g rfl, fun h3 => Fin.of (ye (by omega)), fun h3 => ⟨_, rfl, t.c, cellH_vec g rfl, Fin.of (be h1 (.inl h2) h3)⟩⟩, fun h2 => ⟨_, rfl, t.h, cellH_vec g rfl, fun h3 => ⟨_, rfl, t.c, cellH_vec g rfl, fun h4 => Fin.of (ye (by omega)), fun h4 => ⟨_, rfl, t.c, cellH_vec g rfl, Fin.of (be h1 (.inr h3) h4)⟩⟩, fun h3 => Fin.of (no (by omega))⟩⟩, fun h1 => Fin.of (no (by omega))⟩⟩
theorem wview_wp {Q : Option Addr → Heap → Prop} (E : Keep B h0 (L ++ (I.e S ++ M)) h) (hQ : Q (some ⟨I.V.kV, 0, none⟩) h) : C_world_World_View B (some ⟨I.kW, 0, none⟩) h Q := by
  refine C_world_World_View.of ?_
  unfold S_world_World_View
  exact ⟨fun e => (by cases e), fun _ => ⟨_, rfl, _, E.cM 7 rfl (i := 0) rfl, Fin.of hQ⟩⟩
theorem wwire_wp {Q : Option Addr → Heap → Prop} (E : Keep B h0 (L ++ (I.e S ++ M)) h) (hQ : Q (some ⟨I.kU, 0, none⟩) h) : C_world_World_Wire B (some ⟨I.kW, 0, none⟩) h Q := by
  refine C_world_World_Wire.of ?_
  unfold S_world_World_Wire
  exact ⟨fun e => (by cases e), fun _ => ⟨_, rfl, _, E.cM 7 rfl (i := 1) rfl, Fin.of hQ⟩⟩
theorem wtoken_wp {Q : Option Addr → Heap → Prop} (E : Keep B h0 (L ++ (I.e S ++ M)) h) (hQ : Q (some ⟨I.kK, 0, none⟩) h) : C_world_World_Token B (some ⟨I.kW, 0, none⟩) h Q := by
  refine C_world_World_Token.of ?_
  unfold S_world_World_Token
  exact ⟨fun e => (by cases e), fun _ => ⟨_, rfl, _, E.cM 7 rfl (i := 2) rfl, Fin.of hQ⟩⟩
theorem wblocks_wp {Q : Int → Heap → Prop} (E : Keep B h0 (L ++ (I.e S ++ M)) h) (hQ : Q S.n h) : C_world_World_Blocks B (some ⟨I.kW, 0, none⟩) h Q := by
  refine C_world_World_Blocks.of ?_
  unfold S_world_World_Blocks
  exact ⟨fun e => (by cases e), fun _ => ⟨_, rfl, _, E.cM 7 rfl (i := 10) rfl, Fin.of hQ⟩⟩
theorem wtallies_wp {Q : Int → Int → Int → Int → Heap → Prop} (E : Keep B h0 (L ++ (I.e S ++ M)) h) (hQ : ∀ h', Keep B h0 (L ++ (I.e S ++ M)) h' → Q S.tl.a S.tl.b S.tl.c S.tl.d h') : C_world_World_Tallies B (some ⟨I.kW, 0, none⟩) h Q := by
  refine C_world_World_Tallies.of ?_
  unfold S_world_World_Tallies
  intro k6 a6 b6 h7 e7
  have E1 := E.made a6 b6 e7
  have g := E1.at (L.length + 7) (up_app _ (upM 7 rfl))
  refine ⟨fun e => (by cases e), fun _ => ⟨_, rfl, S.tl.a, S.tl.b, S.tl.c, S.tl.d, ⟨cellH_vec g rfl, cellH_vec g rfl, cellH_vec g rfl, cellH_vec g rfl, trivial⟩, _, stores_whole E1.last rfl (by simp) (by simp [isOne]) (by simp), ?_⟩⟩
  have E2 := E1.putLast (.vec TY.a_4_int (plains [.int .i64 S.tl.a, .int .i64 S.tl.b, .int .i64 S.tl.c, .int .i64 S.tl.d]) 4)
  have g2 := E2.last
  exact ⟨S.tl.a, S.tl.b, S.tl.c, S.tl.d, ⟨cellH_vec g2 rfl, cellH_vec g2 rfl, cellH_vec g2 rfl, cellH_vec g2 rfl, trivial⟩, Fin.of (hQ _ E2.pop)⟩
theorem wdone_wp {Q : Heap → Prop} (E : Keep B h0 (L ++ (I.e S ++ M)) h) (hQ : ∀ h', Keep B h0 (L ++ (I.e { S with n := IntKind.wrap .i64 (S.n + 1) } ++ M)) h' → Q h') : C_world_World_Done B (some ⟨I.kW, 0, none⟩) h Q := by
  refine C_world_World_Done.of ?_
  unfold S_world_World_Done
  refine ⟨fun e => (by cases e), fun _ => ⟨_, rfl, S.n, E.cM 7 rfl (i := 10) rfl, _, rfl, _, storeH_vec (E.gM 7 rfl) rfl, Fin.of (hQ _ ?_)⟩⟩
  exact E.pM (o' := wldO I { S with n := IntKind.wrap .i64 (S.n + 1) }) 7 rfl
theorem wfail_wp {Q : Heap → Prop} (E : Keep B h0 (L ++ (I.e S ++ M)) h) (hQ : ∀ h', Keep B h0 (L ++ (I.e { S with f := if (0 : Int) > i then 0 else i } ++ M)) h' → Q h') : C_world_World_Fail B (some ⟨I.kW, 0, none⟩) i h Q := by
  refine C_world_World_Fail.of ?_
  unfold S_world_World_Fail
  refine ⟨fun e => (by cases e), fun _ => ⟨_, rfl, _, storeH_vec (E.gM 7 rfl) rfl, Fin.of (hQ _ ?_)⟩⟩
  exact E.pM (o' := wldO I { S with f := if (0 : Int) > i then 0 else i }) 7 rfl
end
end Go.Proofs.Ytlehephbflgblaa.H
namespace Go.Proofs.Ytlehephbflgblaa.H
open Go Go.RowKit
set_option linter.unusedVariables false
set_option maxRecDepth 100000
noncomputable def stepR (l : List UInt8) : Option (Nat × List UInt8 × List UInt8) :=
  match wordOf l with
  | none => none
  | some (i, r) => if 5 < i then none else match wordOf r with
    | none => none
    | some (n, r2) => if 32 < n ∨ r2.length < n then none else some (i, r2.take n, r2.drop n)
theorem stepR_w0 {l : List UInt8} (h : wordOf l = none) : stepR l = none := by rw [stepR, h]
theorem stepR_i {l r : List UInt8} {i : Nat} (h : wordOf l = some (i, r)) (hi : 5 < i) : stepR l = none := by rw [stepR, h]; simp [hi]
theorem stepR_w1 {l r : List UInt8} {i : Nat} (h : wordOf l = some (i, r)) (h2 : wordOf r = none) : stepR l = none := by rw [stepR, h]; simp [h2]
theorem stepR_n {l r r2 : List UInt8} {i n : Nat} (h : wordOf l = some (i, r)) (h2 : wordOf r = some (n, r2)) (hn : 32 < n ∨ r2.length < n) : stepR l = none := by rw [stepR, h]; simp [h2, hn]
theorem stepR_ok {l r r2 : List UInt8} {i n : Nat} (h : wordOf l = some (i, r)) (hi : ¬ 5 < i) (h2 : wordOf r = some (n, r2)) (hn : ¬ (32 < n ∨ r2.length < n)) : stepR l = some (i, r2.take n, r2.drop n) := by
  rw [stepR, h]; simp only [if_neg hi, h2, if_neg hn]
theorem stepR_some {l t r : List UInt8} {i : Nat} (h : stepR l = some (i, t, r)) : i ≤ 5 ∧ t.length ≤ 32 ∧ l = natB i ++ (natB t.length ++ t) ++ r := by
  unfold stepR at h
  split at h
  · cases h
  · rename_i i' r' hw
    split at h
    · cases h
    · rename_i hi
      split at h
      · cases h
      · rename_i n r2 hw2
        split at h
        · cases h
        · rename_i hn
          simp only [Option.some.injEq, Prod.mk.injEq] at h
          obtain ⟨rfl, rfl, rfl⟩ := h
          have e1 := (wordOf_eq hw).1
          have e2 := (wordOf_eq hw2).1
          have hl : (r2.take n).length = n := by rw [List.length_take]; omega
          refine ⟨by omega, by omega, ?_⟩
          rw [hl, e1, e2]
          simp [List.append_assoc]
theorem stepR_lt {l t r : List UInt8} {i : Nat} (h : stepR l = some (i, t, r)) : r.length < l.length := by
  have e := (stepR_some h).2.2
  have := natB_pos i
  rw [e]
  simp only [List.length_append]; omega
noncomputable def readG (l : List UInt8) (last : Int) (z : FL) : Option FL :=
  if l = [] then some z else
  match h : stepR l with
  | none => none
  | some (i, t, r) => if (i : Int) ≤ last then none else readG r i (z.set i ((true, ba t), 0))
termination_by l.length
decreasing_by exact stepR_lt h
theorem readG_nil (last : Int) (z : FL) : readG [] last z = some z := by rw [readG, if_pos rfl]
theorem readG_none {l : List UInt8} {last : Int} {z : FL} (h0 : l ≠ []) (h : stepR l = none) : readG l last z = none := by
  rw [readG, if_neg h0]
  split
  · rfl
  · rename_i h2; rw [h] at h2; cases h2
theorem readG_some {l t r : List UInt8} {i : Nat} {last : Int} {z : FL} (h : stepR l = some (i, t, r)) : readG l last z = if (i : Int) ≤ last then none else readG r i (z.set i ((true, ba t), 0)) := by
  have h0 : l ≠ [] := fun e => by have := stepR_lt h; rw [e] at this; simp at this
  rw [readG, if_neg h0]
  split
  · rename_i h2; rw [h] at h2; cases h2
  · rename_i h2; rw [h] at h2; cases h2; rfl
structure StR (z : FL) (last : Int) : Prop where
  n6 : z.length = 6
  lo : -1 ≤ last
  hi : last < 6
  off : ∀ (q : Nat) (x : FileS × Int), last < (q : Int) → z[q]? = some x → x = ((false, ByteArray.empty), 0)
  on : ∀ x, 0 ≤ last → z[last.toNat]? = some x → x.1.1 = true
  v0 : ∀ x ∈ z, x.2 = 0
  ok : TomeOk z
theorem StR.zero : StR zF (-1) := ⟨rfl, by omega, by omega, fun q x _ h => by
    have := List.mem_of_getElem? h
    exact (List.mem_replicate.1 this).2, fun x h => by omega, fun x hx => by rw [(List.mem_replicate.1 hx).2], TomeOk.zero⟩
theorem ba_small {t : List UInt8} (h : t.length ≤ 32) : (ba t).size ≤ 32 := by rw [ba_size]; exact h
theorem StR.step {z : FL} {last : Int} (k : StR z last) {i : Nat} (hi : i ≤ 5) (hl : ¬ (i : Int) ≤ last) {t : List UInt8} (ht : t.length ≤ 32) : StR (z.set i ((true, ba t), 0)) i := by
  have h6 := k.n6
  refine ⟨by rw [List.length_set]; exact k.n6, by omega, by omega, fun q x hq hx => ?_, fun x _ hx => ?_, fun x hx => ?_, ?_⟩
  · rw [List.getElem?_set_ne (by omega)] at hx
    exact k.off q x (by omega) hx
  · rw [Int.toNat_natCast, List.getElem?_set_self (by omega)] at hx
    cases hx; rfl
  · rcases List.mem_or_eq_of_mem_set hx with h | rfl
    · exact k.v0 x h
    · rfl
  · have e : z.set i ((true, ba t), 0) = setF z i true (ba t) 0 := by
      have hb : setB z i true (ba t) = true := by
        unfold setB goodF
        rw [decide_eq_true (ba_small ht), decide_eq_true (show 0 ≤ (i : Int) ∧ (i : Int) < (z.length : Int) by omega)]; rfl
      rw [setF, hb]; rfl
    rw [e]; exact k.ok.set _ _ _ _
def allN (n : Nat) (l : FL) : List (Int × Bool × ByteArray) := (l.zipIdx n).map fun p => ((p.2 : Int), p.1.1.1, p.1.1.2)
def filesN (n : Nat) (l : FL) : List (Int × Bool × ByteArray) := (allN n l).filter fun x => x.2.1
theorem filesN_append (n : Nat) (l m : FL) : filesN n (l ++ m) = filesN n l ++ filesN (n + l.length) m := by
  unfold filesN allN
  rw [List.zipIdx_append, List.map_append, List.filter_append]
theorem filesN_cons (n : Nat) (x : FileS × Int) (l : FL) : filesN n (x :: l) = (if x.1.1 = true then [((n : Int), true, x.1.2)] else []) ++ filesN (n + 1) l := by
  unfold filesN allN
  rw [List.zipIdx_cons, List.map_cons, List.filter_cons]
  by_cases h : x.1.1 = true
  · simp [h]
  · simp [h]
theorem filesN_off : ∀ (l : FL) (n : Nat), (∀ x ∈ l, x.1.1 = false) → filesN n l = []
  | [], _, _ => rfl
  | x :: l, n, h => by
    rw [filesN_cons, h x (by simp), filesN_off l _ fun y hy => h y (by simp [hy])]; rfl
theorem filesOf_N (l : FL) : filesOf l = filesN 0 l := rfl
theorem StR.bytes {z : FL} {last : Int} (k : StR z last) {i : Nat} (hi : i ≤ 5) (hl : ¬ (i : Int) ≤ last) (t : List UInt8) : tomeB (z.set i ((true, ba t), 0)) = tomeB z ++ (natB i ++ (natB t.length ++ t)) := by
  have h6 := k.n6
  have hd : ∀ x ∈ z.drop (i + 1), x.1.1 = false := fun x hx => by
    obtain ⟨q, hq⟩ := List.getElem?_of_mem hx
    rw [List.getElem?_drop] at hq
    rw [k.off _ x (by omega) hq]
  have hz : z = z.take i ++ (z[i]'(by omega) :: z.drop (i + 1)) := by rw [← List.drop_eq_getElem_cons (by omega), List.take_append_drop]
  have hs : z.set i ((true, ba t), 0) = z.take i ++ (((true, ba t), 0) :: z.drop (i + 1)) := by rw [List.set_eq_take_append_cons_drop, if_pos (by omega)]
  have hzi : (z[i]'(by omega)).1.1 = false := by rw [k.off i _ (by omega) (List.getElem?_eq_getElem (by omega))]
  have e1 : natI (i : Int) = natB i := by rw [natI, if_neg (by omega), Int.toNat_natCast]
  have f1 : filesOf (z.set i ((true, ba t), 0)) = filesN 0 (z.take i) ++ [((i : Int), true, ba t)] := by
    rw [filesOf_N, hs, filesN_append, filesN_cons, filesN_off _ _ hd, List.length_take, Nat.min_eq_left (by omega)]
    simp
  have f2 : filesOf z = filesN 0 (z.take i) := by
    rw [filesOf_N]
    conv => lhs; rw [hz]
    rw [filesN_append, filesN_cons, filesN_off _ _ hd, hzi]
    simp
  unfold tomeB
  rw [f1, f2, List.flatMap_append]
  simp [fileB, e1, ba_size, bl_ba]
theorem readG_props : ∀ (n : Nat) (l : List UInt8) (last : Int) (z z' : FL), l.length ≤ n → StR z last → readG l last z = some z' → tomeB z' = tomeB z ++ l ∧ ∃ last', StR z' last'
  | n, l, last, z, z', hn, k, h => by
    by_cases h0 : l = []
    · subst h0
      rw [readG_nil] at h
      cases h
      exact ⟨by simp, last, k⟩
    · cases hs : stepR l with
      | none => rw [readG_none h0 hs] at h; cases h
      | some p =>
        obtain ⟨i, t, r⟩ := p
        rw [readG_some hs] at h
        split at h
        · cases h
        · rename_i hle
          obtain ⟨a1, a2, a3⟩ := stepR_some hs
          have hlt := stepR_lt hs
          match n, hn with
          | 0, hn => omega
          | n + 1, hn =>
            obtain ⟨b1, b2⟩ := readG_props n r i _ z' (by omega) (k.step a1 hle a2) h
            refine ⟨?_, b2⟩
            rw [b1, k.bytes a1 hle, a3]
            simp [List.append_assoc]
theorem readG_ok {l : List UInt8} {z : FL} (h : readG l (-1) zF = some z) : tomeB z = l ∧ ∃ last, StR z last := by
  obtain ⟨a, b⟩ := readG_props _ l (-1) zF z (Nat.le_refl _) StR.zero h
  refine ⟨?_, b⟩
  rw [a]
  have : tomeB zF = [] := rfl
  rw [this]; rfl
end Go.Proofs.Ytlehephbflgblaa.H
namespace Go.Proofs.Ytlehephbflgblaa.H
open Go Go.RowKit
set_option linter.unusedVariables false
set_option maxRecDepth 100000
theorem stepR_read (l : List UInt8) : ((rText 32 (rNat 5 l false).2.1 (rNat 5 l false).2.2).2.2 = true → stepR l = none) ∧ ((rText 32 (rNat 5 l false).2.1 (rNat 5 l false).2.2).2.2 = false → stepR l = some ((rNat 5 l false).1, (rText 32 (rNat 5 l false).2.1 (rNat 5 l false).2.2).1, (rText 32 (rNat 5 l false).2.1 (rNat 5 l false).2.2).2.1)) := by
  have bad : rText 32 [] true = ([], [], true) := by
    rw [rText, rNat, rWord_bad]; simp [rRaw]
  cases hw : wordOf l with
  | none =>
    have e : rNat 5 l false = (0, [], true) := by rw [rNat, rWord_none hw]; simp
    rw [e]
    simp only [bad]
    exact ⟨fun _ => stepR_w0 hw, fun h => by cases h⟩
  | some p =>
    obtain ⟨i, r⟩ := p
    by_cases hi : 5 < i
    · have e : rNat 5 l false = (0, [], true) := by rw [rNat, rWord_some hw]; simp; omega
      rw [e]
      simp only [bad]
      exact ⟨fun _ => stepR_i hw hi, fun h => by cases h⟩
    · have e : rNat 5 l false = (i, r, false) := by rw [rNat, rWord_some hw, if_neg (by simp only; omega)]
      rw [e]
      simp only
      cases hw2 : wordOf r with
      | none =>
        have e2 : rText 32 r false = ([], [], true) := by rw [rText, rNat, rWord_none hw2]; simp [rRaw]
        rw [e2]
        exact ⟨fun _ => stepR_w1 hw hw2, fun h => by cases h⟩
      | some p2 =>
        obtain ⟨n, r2⟩ := p2
        by_cases hn : 32 < n
        · have e2 : rText 32 r false = ([], [], true) := by
            have : rNat 32 r false = (0, [], true) := by rw [rNat, rWord_some hw2]; simp; omega
            rw [rText, this]; simp [rRaw]
          rw [e2]
          exact ⟨fun _ => stepR_n hw hw2 (.inl hn), fun h => by cases h⟩
        · have e1 : rNat 32 r false = (n, r2, false) := by rw [rNat, rWord_some hw2, if_neg (by simp only; omega)]
          by_cases hs : r2.length < n
          · have e2 : rText 32 r false = ([], [], true) := by
              rw [rText, e1, rRaw, if_pos (by simp only; omega)]
            rw [e2]
            exact ⟨fun _ => stepR_n hw hw2 (.inr hs), fun h => by cases h⟩
          · have e2 : rText 32 r false = (r2.take n, r2.drop n, false) := by
              rw [rText, e1, rRaw, if_neg (by simp only; simp; omega)]
              simp
            rw [e2]
            exact ⟨fun h => (by cases h), fun _ => stepR_ok hw hi hw2 (by omega)⟩
section
variable {B : RO} {h0 h h' : Heap} {L : List (Option (Nat × AObj))} {Q : Bool → Heap → Prop} {k6 kT kR k16 k18 k32 : Nat} {v : Value} {r : Option (Nat × AObj)} {l : FL} {n : Int} {s : ByteArray}
theorem tread_wp {Q : Option Addr → Bool → Heap → Prop} (E : Keep B h0 L h) (hN : readG (bl s) (-1) zF = none → ∀ h', Keep B h0 L h' → Q none false h')
    (hS : ∀ z, readG (bl s) (-1) zF = some z → ∀ kT kR v r h', FRow r v z → Keep B h0 (L ++ tomE kT kR v r) h' → Q (some ⟨kT, 0, none⟩) true h') : C_tome_Read B s h Q := by
  refine C_tome_Read.of ?_
  unfold S_tome_Read
  refine tnew_wp fun kT kR v r h4 R E1 => rof_wp (ba_bl s).symm fun k7 a7 b7 => ?_
  have E2 := (E.append E1).new (o := rdO (bl s) false) a7 b7
  refine ⟨fun i m h' => ∃ (l : List UInt8) (z : FL) (r : Option (Nat × AObj)), m = l.length ∧ FRow r v z ∧ StR z i ∧ readG l i z = readG (bl s) (-1) zF ∧ Keep B h0 (L ++ tomE kT kR v r ++ [some (k7, rdO l false)]) h', (bl s).length, Fin.of ⟨_, _, r, rfl, R, StR.zero, rfl, E2⟩, ?_⟩
  clear E2 E1 R
  rintro last _ h9 ⟨l, z, r, rfl, R, K, hg, E⟩
  refine rleft_wp E.last ⟨fun h0' => ?_, fun h0' => ?_⟩
  · refine rnat_wp (by decide) E.last ?_
    have E1 := E.putLast (rdO (rNat 5 l false).2.1 (rNat 5 l false).2.2)
    refine rtext_wp (by decide) E1.last ?_
    have E2 := E1.putLast (rdO (rText 32 (rNat 5 l false).2.1 (rNat 5 l false).2.2).2.1 (rText 32 (rNat 5 l false).2.1 (rNat 5 l false).2.2).2.2)
    have hst := stepR_read l
    generalize rNat 5 l false = p1 at E2 hst
    generalize rText 32 p1.2.1 p1.2.2 = p2 at E2 hst
    have hne : l ≠ [] := fun e => by rw [e] at h0'; simp at h0'
    refine rbad_wp E2.last ⟨fun hb => Fin.of (hN ?_ _ E2.popL.popL), fun hb => ⟨fun hle => Fin.of (hN ?_ _ E2.popL.popL), fun hgt => Fin.of ?_⟩⟩
    · rw [← hg, readG_none hne (hst.1 hb)]
    · rw [← hg, readG_some (hst.2 hb), if_pos hle]
    · have hs := hst.2 hb
      obtain ⟨f1, f2, f3⟩ := stepR_some hs
      unfold S_tome_Read_J1
      have n6 := K.n6
      refine tset_wp (i := L.length) (kR := kR) E2 ⟨?_, ?_, ?_⟩ R fun r' h23 R' E3 => ?_
      · rw [List.append_assoc, List.getElem?_append_right (Nat.le_refl _), Nat.sub_self]; rfl
      · rw [List.append_assoc, List.getElem?_append_right (by omega), show L.length + 1 - L.length = 1 by omega]; rfl
      · rw [List.append_assoc, List.getElem?_append_right (by omega), show L.length + 1 + 1 - L.length = 2 by omega]; rfl
      · have hB : setB z p1.1 true (ba p2.1) = true := by
          unfold setB goodF
          rw [decide_eq_true (ba_small f2), decide_eq_true (show 0 ≤ ((p1.1 : Nat) : Int) ∧ ((p1.1 : Nat) : Int) < (z.length : Int) by omega)]; rfl
        rw [setF, hB, if_pos rfl, Int.toNat_natCast] at R'
        have e3 : (L ++ tomE kT kR v r ++ [some (k7, rdO p2.2.1 p2.2.2)]).set (L.length + 2) r' = L ++ tomE kT kR v r' ++ [some (k7, rdO p2.2.1 p2.2.2)] := by
          rw [List.append_assoc, List.set_append_right _ _ (by omega), show L.length + 2 - L.length = 2 by omega, List.append_assoc]; rfl
        rw [e3, hb] at E3
        refine Fin.of ⟨p2.2.1.length, stepR_lt hs, p2.2.1, _, r', rfl, R', K.step f1 hgt f2, ?_, E3⟩
        rw [← hg, readG_some hs, if_neg hgt]
  · have : l = [] := List.length_eq_zero_iff.1 (by omega)
    subst this
    rw [readG_nil] at hg
    exact Fin.of (hS z hg.symm _ _ _ _ _ R E.pop)
end
end Go.Proofs.Ytlehephbflgblaa.H
namespace Go.Proofs.Ytlehephbflgblaa.H
open Go Go.RowKit
set_option linter.unusedVariables false
set_option maxRecDepth 100000
noncomputable def readW (im : List UInt8) : Option (FL × Nat) := if im = [] then some (zF, 0) else match natT 1099511627776 im with
  | none => none
  | some (n, r) => (readG r (-1) zF).map fun z => (z, n)
theorem readW_nil : readW [] = some (zF, 0) := by unfold readW; rw [if_pos rfl]
theorem readW_0 {im : List UInt8} (h : im ≠ []) (h1 : natT 1099511627776 im = none) : readW im = none := by unfold readW; rw [if_neg h, h1]
theorem readW_1 {im r : List UInt8} {n : Nat} (h : im ≠ []) (h1 : natT 1099511627776 im = some (n, r)) : readW im = (readG r (-1) zF).map fun z => (z, n) := by unfold readW; rw [if_neg h, h1]
noncomputable def openF (F : TDL) : Option (FL × Int) := match readW F.im with
  | none => none
  | some (z, n) => if (goods (F.ls.map ba)).length < F.ls.length then none else some (apCs 0 z (chsOf (goods (F.ls.map ba))), if lastOf (goods (F.ls.map ba)) > n then lastOf (goods (F.ls.map ba)) else n)
theorem openF_0 {F : TDL} (h : readW F.im = none) : openF F = none := by unfold openF; rw [h]
theorem openF_1 {F : TDL} {z : FL} {n : Nat} (h : readW F.im = some (z, n)) (h1 : (goods (F.ls.map ba)).length < F.ls.length) : openF F = none := by unfold openF; rw [h]; simp only; rw [if_pos h1]
theorem openF_2 {F : TDL} {z : FL} {n : Nat} (h : readW F.im = some (z, n)) (h1 : ¬ (goods (F.ls.map ba)).length < F.ls.length) : openF F = some (apCs 0 z (chsOf (goods (F.ls.map ba))), if lastOf (goods (F.ls.map ba)) > n then lastOf (goods (F.ls.map ba)) else n) := by unfold openF; rw [h]; simp only; rw [if_neg h1]
theorem TomeOk.chs {ver : Int} : ∀ (xs : DFL) {l : FL}, TomeOk l → (∀ x ∈ xs, GoodC x) → TomeOk (apCs ver l xs) := by
  intro xs
  induction xs with
  | nil => intro l k _; exact k
  | cons x xs ih =>
    intro l k g
    rw [apCs_cons]
    refine ih ?_ fun y hy => g y (by simp [hy])
    obtain ⟨g1, g2, g3⟩ := g x (by simp)
    have := k.n6
    exact ⟨by unfold apC; rw [List.length_set]; exact this, fun y hy => by
      unfold apC at hy
      rcases List.mem_or_eq_of_mem_set hy with h | h
      · exact k.good y h
      · subst h; exact g3⟩
theorem goods_good : ∀ (bs : List ByteArray), ∀ p ∈ goods bs, (∀ x ∈ p.2, GoodC x) ∧ p.1 ≤ 1099511627776 := by
  intro bs
  induction bs with
  | nil => intro p hp; simp [goods] at hp
  | cons b bs ih =>
    intro p hp
    cases h : loadOf (bl b) with
    | none => rw [goods_none h] at hp; cases hp
    | some q =>
      rw [goods_some h] at hp
      rcases List.mem_cons.1 hp with rfl | hp
      · obtain ⟨n, xs⟩ := p
        obtain ⟨_, _, g, hn⟩ := loadOf_some h
        exact ⟨g, hn⟩
      · exact ih p hp
theorem lastOf_le : ∀ (l : List (Nat × DFL)) (m : Int), 0 ≤ m → m ≤ 1099511627776 → (∀ p ∈ l, p.1 ≤ 1099511627776) → 0 ≤ l.foldl (fun m p => if ((p.1 : Nat) : Int) > m then ((p.1 : Nat) : Int) else m) m ∧ l.foldl (fun m p => if ((p.1 : Nat) : Int) > m then ((p.1 : Nat) : Int) else m) m ≤ 1099511627776 := by
  intro l
  induction l with
  | nil => intro m h0 h1 _; exact ⟨h0, h1⟩
  | cons p l ih =>
    intro m h0 h1 hp
    have := hp p (by simp)
    exact ih _ (by dsimp only; split <;> omega) (by dsimp only; split <;> omega) fun q hq => hp q (by simp [hq])
theorem openF_ok {F : TDL} {z : FL} {n : Int} (h : openF F = some (z, n)) : TomeOk z ∧ 0 ≤ n ∧ n ≤ 1099511627776 := by
  cases hr : readW F.im with
  | none => rw [openF_0 hr] at h; cases h
  | some p =>
    obtain ⟨z0, n0⟩ := p
    by_cases hl : (goods (F.ls.map ba)).length < F.ls.length
    · rw [openF_1 hr hl] at h; cases h
    · rw [openF_2 hr hl] at h
      cases h
      have hg := goods_good (F.ls.map ba)
      have hL := lastOf_le (goods (F.ls.map ba)) 0 (by omega) (by omega) fun p hp => (hg p hp).2
      have hz : TomeOk z0 ∧ n0 ≤ 1099511627776 := by
        by_cases hi : F.im = []
        · rw [hi, readW_nil] at hr; cases hr; exact ⟨TomeOk.zero, by omega⟩
        · cases ht : natT 1099511627776 F.im with
          | none => rw [readW_0 hi ht] at hr; cases hr
          | some p =>
            obtain ⟨m, r⟩ := p
            rw [readW_1 hi ht] at hr
            obtain ⟨z1, hz1, e⟩ := Option.map_eq_some_iff.1 hr
            cases e
            obtain ⟨_, last, K⟩ := readG_ok hz1
            exact ⟨K.ok, (natT_eq ht).2⟩
      refine ⟨TomeOk.chs _ hz.1 fun x hx => ?_, ?_, ?_⟩
      · obtain ⟨p, hp, hx⟩ := List.mem_flatMap.1 hx
        exact (hg p hp).1 x hx
      · show 0 ≤ if lastOf _ > _ then lastOf _ else _
        have : lastOf (goods (F.ls.map ba)) = (goods (F.ls.map ba)).foldl (fun m p => if ((p.1 : Nat) : Int) > m then ((p.1 : Nat) : Int) else m) 0 := rfl
        split <;> omega
      · have : lastOf (goods (F.ls.map ba)) = (goods (F.ls.map ba)).foldl (fun m p => if ((p.1 : Nat) : Int) > m then ((p.1 : Nat) : Int) else m) 0 := rfl
        have := hz.2
        split <;> omega
theorem natB_6 {n : Nat} (h : n ≤ 1099511627776) : (natB n).length ≤ 6 := natB_length_le 6 n (by omega) (by omega)
theorem natB_1b {n : Nat} (h : n < 128) : (natB n).length = 1 := by rw [natB_lo h]; rfl
theorem natI_6 {n : Int} (h : n ≤ 1099511627776) : (natI n).length ≤ 6 := by
  unfold natI; split
  · simp
  · exact natB_6 (by omega)
theorem tomeB_len {l : FL} (k : TomeOk l) : (tomeB l).length ≤ 204 := by
  have h1 : ∀ x ∈ filesOf l, (fileB x).length ≤ 34 := fun x hx => by
    obtain ⟨y, hy, e, h0, h6⟩ := filesOf_mem hx
    have hs := k.size y hy
    have h6' := k.n6
    rw [← show x.2.2 = y.1.2 by rw [e]] at hs
    unfold fileB
    have e1 : (natI x.1).length ≤ 1 := by
      unfold natI; split
      · simp
      · rw [natB_1b (by omega)]; exact Nat.le_refl _
    rw [List.length_append, List.length_append, natB_1b (by omega), bl_length]; omega
  have h2 : ∀ xs : List (Int × Bool × ByteArray), (∀ x ∈ xs, (fileB x).length ≤ 34) → (xs.flatMap fileB).length ≤ 34 * xs.length := by
    intro xs
    induction xs with
    | nil => intro _; simp
    | cons x xs ih =>
      intro h
      have := ih fun y hy => h y (by simp [hy])
      have := h x (by simp)
      rw [List.flatMap_cons, List.length_append, List.length_cons]; omega
  have h3 : (filesOf l).length ≤ 6 := by
    have := List.length_filter_le (fun x : Int × Bool × ByteArray => x.2.1) (allF l)
    rw [allF_len, k.n6] at this
    exact this
  have := h2 _ h1
  unfold tomeB
  omega
section
variable {B : RO} {h0 h h' : Heap} {L M : List (Option (Nat × AObj))} {I : WI} {S : WS} {i j kT kR kD k : Nat} {l : FL} {v : Value} {r : Option (Nat × AObj)} {cs : List Chg}
theorem image21_wp {n : Int} {Q : ByteArray → Heap → Prop} (E : Keep B h0 L h) (A : TomeAt L i kT kR v r) (R : FRow r v l) (k : TomeOk l) (hn : n ≤ 1099511627776) (hQ : ∀ h', Keep B h0 L h' → Q (ba (natI n ++ tomeB l)) h') : C_world_image B n (some ⟨kT, 0, none⟩) h Q := by
  refine C_world_image.of ?_
  unfold S_world_image
  intro k4 a4 b4 h5 e5 k6 a6 b6 h7 e7
  have E1 := (E.start.nM a4 b4 e5).nM a6 b6 e7
  refine Spec.ent (styl_new (E1.gM 0 rfl)) ?_
  have E2 := E1.pM (o' := stylO []) 0 rfl
  refine nat_wp (ns := [n]) (E2.gM 0 rfl) (fun i m hi => ?_) (by intro m hm; simp at hm; omega) (by simp) ?_
  · have hne : k6 ≠ k4 := fun e => absurd e (E2.ne (L.length + 1) (L.length + 0) (upM 1 rfl) (upM 0 rfl) (by omega))
    match i with
    | 0 => cases hi; exact ⟨_, rfl, hne, cellH_vec (E2.gM 1 rfl) rfl⟩
    | i + 1 => cases hi
  have E3 := (E2.pM (o' := stylO (natI n)) 0 rfl).tM 1
  have e1 : ([] ++ natsB [n] : List UInt8) = natI n := by simp [natsB]
  rw [e1]
  have hi6 := natI_6 hn
  have ht := tomeB_len k
  refine tbytes_wp E3 A.app R k fun h9 E4 => ?_
  have E4 : Keep B h0 (L ++ [some (k4, stylO (natI n))]) h9 := E4
  refine raw_wp E4.last (by rw [ba_size]; omega) ?_
  rw [bl_ba]
  have E5 := E4.putLast (stylO (natI n ++ tomeB l))
  exact bytes_wp E5.last (Fin.of (hQ _ E5.pop))
theorem wread_wp {im : List UInt8} {Q : Int → Option Addr → Bool → Heap → Prop} (E : Keep B h0 L h) (hN : readW im = none → ∀ n p h', Keep B h0 L h' → Q n p false h')
    (hS : ∀ z n, readW im = some (z, n) → ∀ kT kR v r h', FRow r v z → Keep B h0 (L ++ tomE kT kR v r) h' → Q (n : Nat) (some ⟨kT, 0, none⟩) true h') : C_world_read B (ba im) h Q := by
  refine C_world_read.of ?_
  unfold S_world_read
  refine ⟨fun e => ?_, fun e => ?_⟩
  · have : im = [] := ba_inj e
    subst this
    exact tnew_wp fun kT kR v r h6 R E1 => Fin.of (hS _ _ readW_nil kT kR v r h6 R (E.append E1))
  · have hne : im ≠ [] := fun h => e (by rw [h]; rfl)
    refine rof_wp rfl fun k9 a9 b9 => ?_
    have E1 := E.new (o := rdO im false) a9 b9
    refine rnat_wp (by decide) E1.last ?_
    have E2 := E1.putLast (rdO (rNat 1099511627776 im false).2.1 (rNat 1099511627776 im false).2.2)
    refine rbad_wp E2.last ?_
    cases ht : natT 1099511627776 im with
    | none =>
      have f0 : rNat 1099511627776 im false = (0, [], true) := rNat_none ht
      rw [f0] at E2 ⊢
      exact ⟨fun _ => Fin.of (hN (readW_0 hne ht) _ _ _ E2.pop), fun e => by cases e⟩
    | some p =>
      obtain ⟨n, rr⟩ := p
      have f0 : rNat 1099511627776 im false = (n, rr, false) := rNat_some ht
      rw [f0] at E2 ⊢
      have hr := readW_1 hne ht
      refine ⟨fun e => (by cases e), fun _ => rleft_wp E2.last (rraw_wp E2.last ?_)⟩
      have f2 : rRaw ((rr.length : Nat) : Int) rr false = (rr, [], false) := by
        have := rRaw_ok rr []
        rwa [List.append_nil] at this
      have E3 := E2.putLast (rdO (rRaw ((rr.length : Nat) : Int) rr false).2.1 (rRaw ((rr.length : Nat) : Int) rr false).2.2)
      show C_tome_Read B (ba (rRaw ((rr.length : Nat) : Int) rr false).1) _ _
      refine tread_wp E3.pop (fun hn h18 E4 => Fin.of (hN ?_ _ _ _ E4)) fun z hz kT kR v r h18 R E4 => Fin.of (hS z n ?_ kT kR v r _ R E4)
      · rw [f2, bl_ba] at hn; rw [hr, hn]; rfl
      · rw [f2, bl_ba] at hz; rw [hr, hz]; rfl
noncomputable def openS (cs : List Chg) (z : FL) (n : Int) : WS :=
  { v := { vz with f := z }, w := (wz, wz, wz), tk := tk0, tl := ⟨0, 0, 0, 0⟩, nt := [], n := n, f := 0, cs := stl (aOf cs) (fOf cs).e (natI n ++ tomeB z) cs, k := (stl (aOf cs) (fOf cs).e (natI n ++ tomeB z) cs).length, e := (fOf cs).e + 1, ar := 1 - aOf cs, sz := (imgL ((fOf cs).e + 1) (natI n ++ tomeB z)).length + 6, im := natI n ++ tomeB z, ls := [] }
theorem aOf_or (cs : List Chg) : aOf cs = 0 ∨ aOf cs = 1 := by unfold aOf areaL; split <;> simp
theorem SRow.strs {a : Option Addr} {c : Nat} {ls : List (List UInt8)} {r : Option (Nat × AObj)} (R : SRow r (.slice a ls.length c) ls) {h : Heap} (hr : ∀ k o, r = some (k, o) → h k = some o) : Reads B h a 1 (fun s : ByteArray => [.string s]) (ls.map ba) := fun j x hx => by
  rw [List.getElem?_map] at hx
  obtain ⟨y, hy, rfl⟩ := Option.map_eq_some_iff.1 hx
  exact ((Row.rd (B := B) R strC_len (by omega)).2 h hr) j y hy
theorem CRow.done (cs : List Chg) : CRow none (.slice none 0 0) (cs.drop cs.length) := by rw [List.drop_length]; exact Row.nil _ _
set_option maxHeartbeats 1000000 in
theorem worldopen_wp {Q : Option Addr → Int → Heap → Prop} (E : Keep B h0 (L ++ [some (kD, dskO cs k v), r]) h) (R : CRow r v (cs.drop k)) (hk : k ≤ cs.length) (ok : DOk cs) (hl : cs.length ≤ 10000) (hls : (fOf cs).ls.length ≤ 1000000)
    (hN : openF (fOf cs) = none → ∀ h', Keep B h0 (L ++ [some (kD, dskO cs k v), r]) h' → Q none 4 h')
    (hF : ∀ z n, openF (fOf cs) = some (z, n) → 1099511627776 ≤ (fOf cs).e → ∀ h', Keep B h0 (L ++ [some (kD, dskO cs k v), r]) h' → Q none 6 h')
    (hS : ∀ z n, openF (fOf cs) = some (z, n) → (fOf cs).e < 1099511627776 → ∀ I h', I.kD = kD → WK I (openS cs z n) → Keep B h0 (L ++ I.e (openS cs z n)) h' → Q (some ⟨I.kW, 0, none⟩) 0 h') : C_world_Open B (some ⟨kD, 0, none⟩) h Q := by
  refine C_world_Open.of ?_
  unfold S_world_Open
  refine vopen_wp (i := L.length + 0) E (DAt.m 0 rfl rfl) ok fun kv kl a7 c9 r7 h4 R7 E1 k11 a11 b11 h12 e12 => ?_
  rw [List.append_assoc] at E1
  have E2 := E1.nM a11 b11 e12
  refine ⟨_, stores_whole (E2.gM 5 rfl) rfl (by simp) (by simp [isOne]) (by simp), fun _ => ?_, fun e => absurd rfl e⟩
  have E3 : Keep B h0 (L ++ [some (kD, dskO cs k v), r, some (kv, vltO kD kl (fOf cs).e false), some (kl, vlog kD (aOf cs) cs), r7, some (k11, foundO (fOf cs).im (.slice a7 (fOf cs).ls.length c9))]) _ := E2.pM (o' := foundO (fOf cs).im (.slice a7 (fOf cs).ls.length c9)) 5 rfl
  clear E E1 E2 e12
  refine ⟨_, E3.cM 5 rfl (i := 0) rfl, wread_wp E3 (fun hn n p h15 E4 => ⟨fun e => (by cases e), fun _ => Fin.of (hN (openF_0 hn) _ (E4.tM 2))⟩) fun z n hz kT kR vt rt h15 Rt E4 => ⟨fun _ => ?_, fun e => by cases e⟩⟩
  have E5 : Keep B h0 (L ++ [some (kD, dskO cs k v), r, some (kv, vltO kD kl (fOf cs).e false), some (kl, vlog kD (aOf cs) cs), r7, some (k11, foundO (fOf cs).im (.slice a7 (fOf cs).ls.length c9)), some (kT, tomO kR), some (kR, frO vt), rt]) h15 := by
    rw [List.append_assoc] at E4; exact E4
  clear E3 E4
  have hz6 : TomeOk z := by
    by_cases hi : (fOf cs).im = []
    · rw [hi, readW_nil] at hz; cases hz; exact TomeOk.zero
    · cases ht : natT 1099511627776 (fOf cs).im with
      | none => rw [readW_0 hi ht] at hz; cases hz
      | some p =>
        obtain ⟨m, q⟩ := p
        rw [readW_1 hi ht] at hz
        obtain ⟨z1, hz1, e⟩ := Option.map_eq_some_iff.1 hz
        cases e
        obtain ⟨_, last, K⟩ := readG_ok hz1
        exact K.ok
  refine .inl ⟨_, _, _, E5.cM 5 rfl (i := 1) rfl, ?_⟩
  have hbl : ((fOf cs).ls.map ba).length = (fOf cs).ls.length := List.length_map ..
  have rep : ∀ {P : Int → Int → Heap → Prop}, C_redo_Replay B (some ⟨kT, 0, none⟩) a7 ((fOf cs).ls.map ba).length c9 h15 P → C_redo_Replay B (some ⟨kT, 0, none⟩) a7 (fOf cs).ls.length c9 h15 P := fun h => by rw [hbl] at h; exact h
  refine rep (redo_replay_wp (i := L.length + 6) E5 ⟨upM 6 rfl, ⟨upM 7 rfl, upM 8 rfl⟩⟩ Rt hz6.n6 (by rw [hbl]; exact hls) (fun r' h' E6 => ?_) fun rt' h23 Rt' E6 => ?_)
  · rw [show L.length + 6 + 2 = L.length + 8 from rfl, setM] at E6
    exact SRow.strs R7 fun k o e => E6.gM 4 (by rw [← e]; rfl)
  rw [show L.length + 6 + 2 = L.length + 8 from rfl, setM] at E6
  have E6 : Keep B h0 (L ++ [some (kD, dskO cs k v), r, some (kv, vltO kD kl (fOf cs).e false), some (kl, vlog kD (aOf cs) cs), r7, some (k11, foundO (fOf cs).im (.slice a7 (fOf cs).ls.length c9)), some (kT, tomO kR), some (kR, frO vt), rt']) h23 := E6
  clear E5
  refine .inl ⟨_, _, _, E6.cM 5 rfl (i := 1) rfl, fun hlt => Fin.of (hN (openF_1 hz (by omega)) _ (E6.tM 2)), fun hge => ?_⟩
  have ho := openF_2 hz (by omega)
  obtain ⟨k1, k2, k3⟩ := openF_ok ho
  generalize hzz : apCs 0 z (chsOf (goods ((fOf cs).ls.map ba))) = zz at *
  generalize hnn : (if lastOf (goods ((fOf cs).ls.map ba)) > ((n : Nat) : Int) then lastOf (goods ((fOf cs).ls.map ba)) else ((n : Nat) : Int)) = nn at *
  refine image21_wp (i := L.length + 6) E6 ⟨upM 6 rfl, ⟨upM 7 rfl, upM 8 rfl⟩⟩ Rt' k1 k3 fun h30 E7 => ?_
  by_cases he : 1099511627776 ≤ (fOf cs).e
  · exact vsettle_full (E7.gM 2 rfl) he ⟨fun e => absurd e (by decide), fun _ => Fin.of (hF zz nn ho he _ (E7.tM 2))⟩
  have he' : (fOf cs).e < 1099511627776 := by omega
  have E8 : Keep B h0 ((L ++ [some (kT, tomO kR), some (kR, frO vt), rt']) ++ vE kD kv kl cs k v r (fOf cs).e false (vlog kD (aOf cs) cs)) h30 := by
    rw [List.append_assoc]
    exact E7.sM [6, 7, 8, 0, 1, 2, 3] (by decide)
  have hi6 := natI_6 k3
  have ht := tomeB_len k1
  have hb6 := natB_6 (n := (fOf cs).e + 1) (by omega)
  have him : (imgL ((fOf cs).e + 1) (natI nn ++ tomeB zz)).length ≤ 1024 := by
    unfold imgL; rw [List.length_cons, List.length_append, List.length_append]; omega
  refine vsettle_wp (sz := wholeL (bl (textD (aOf cs) cs))) (torn := tornOf (bl (textD (aOf cs) cs))) E8 R hk ok hl (by rw [ba_size, List.length_append]; omega) (aOf_or cs) he' (fun hL => by rw [bl_ba] at hL; omega) fun _ ok3 kl' h32 E9 => ⟨fun _ => ?_, fun e => absurd rfl e⟩
  rw [bl_ba] at E9 ok3
  refine newview_wp fun V h34 oV E10 => wirenew_wp fun kU aU bU => tknew_wp fun kK aK bK => ?_
  intro k40 a40 b40 h41 e41
  have E11 := E9.append E10
  have E12 := ((E11.new (o := wirO (wz, wz, wz)) aU bU).new (o := tokO tk0) aK bK).made a40 b40 e41
  have E13 : Keep B h0 (L ++ ([some (kT, tomO kR), some (kR, frO vt), rt'] ++ vE kD kv kl' (stl (aOf cs) (fOf cs).e (natI nn ++ tomeB zz) cs) (stl (aOf cs) (fOf cs).e (natI nn ++ tomeB zz) cs).length (.slice none 0 0) none ((fOf cs).e + 1) true (walO kD (1 - aOf cs) ((imgL ((fOf cs).e + 1) (natI nn ++ tomeB zz)).length + 6) false) ++ V.e vz ++ [some (kU, wirO (wz, wz, wz)), some (kK, tokO tk0), some (k40, .vec TY.world_World (plains [.pointer (some ⟨V.kV, 0, none⟩), .pointer (some ⟨kU, 0, none⟩), .pointer (some ⟨kK, 0, none⟩), .pointer (some ⟨kD, 0, none⟩), .pointer (some ⟨kv, 0, none⟩), .int .i64 0, .int .i64 0, .int .i64 0, .int .i64 0, .slice none 0 0, .int .i64 nn, .int .i64 0]) 12), none])) h41 := by
    have := E12.gap
    simp only [List.append_assoc, List.cons_append, List.nil_append] at this ⊢
    exact this
  refine ⟨_, E13.cM 16 rfl (i := 0) rfl, _, rfl, _, storeH_vec (E13.gM 7 rfl) rfl, ?_⟩
  have E14 := E13.pM (o' := viewO { V with kT := kT, kR := kR, vt := vt, rt := rt' } 0) 7 rfl
  have E15 := E14.sM [7, 8, 0, 1, 2, 12, 13, 16, 14, 15, 17, 3, 4, 5, 6] (by decide)
  refine Fin.of (hS zz nn ho he' ⟨{ V with kT := kT, kR := kR, vt := vt, rt := rt' }, k40, kU, kK, .slice none 0 0, none, kD, .slice none 0 0, none, kv, kl'⟩ _ rfl ⟨⟨Rt', oV.c8, k1, oV.k⟩, Row.nil _ _, CRow.done _, Nat.le_refl _, ok3, ?_⟩ E15)
  have := aOf_or cs
  show 1 - aOf cs = 0 ∨ 1 - aOf cs = 1
  omega
end
end Go.Proofs.Ytlehephbflgblaa.H
namespace Go.Proofs.Ytlehephbflgblaa.H
open Go
set_option linter.unusedVariables false
set_option maxRecDepth 100000
def OpenC (x : Int × Int) : List Value := [.int .i64 x.1, .int .i64 x.2]
def OutC (x : Int × Int) : List Value := [.int .i64 x.1, .int .u8 x.2]
def NoteC (x : Int) : List Value := [.int .i64 x]
section
variable {B : RO} {h0 h h' : Heap} {L : List (Option (Nat × AObj))} {r : Option (Nat × AObj)} {a : Option Addr} {m c k : Nat} {l : List (Int × Int)}
end
end Go.Proofs.Ytlehephbflgblaa.H
namespace Go.Proofs.Ytlehephbflgblaa.H
open Go Go.RowKit
set_option linter.unusedVariables false
set_option maxRecDepth 100000
def imgS (S : WS) : List UInt8 := natI S.n ++ tomeB S.v.f
def settleS (S : WS) : WS := { S with cs := stl S.ar S.e (imgS S) S.cs, k := (stl S.ar S.e (imgS S) S.cs).length, e := S.e + 1, ar := 1 - S.ar, sz := (imgL (S.e + 1) (imgS S)).length + 6, im := imgS S, ls := [] }
def appS (S : WS) (l : List UInt8) : WS := { S with cs := S.cs ++ [Chg.mk S.ar false (ba (closeL (1 :: l)))], sz := S.sz + (closeL (1 :: l)).length, ls := S.ls ++ [l] }
def writeS (S : WS) (xs : DFL) : WS × Int :=
  if S.f > 0 then ({ S with f := S.f - 1 }, 7)
  else if S.n ≥ 1099511627776 then (S, 6)
  else if (S.sz : Int) > 2048 then (if 1099511627776 ≤ S.e then (S, 6) else (appS (settleS S) (loadB (S.n + 1) xs), 0))
  else (appS S (loadB (S.n + 1) xs), 0)
structure VLT (S : WS) : Prop where
  tx : bl (textD S.ar S.cs) = rowL (imgL S.e S.im :: S.ls.map (1 :: ·))
  ot : bl (textD (1 - S.ar) S.cs) = []
  sz : S.sz = (bl (textD S.ar S.cs)).length
  il : (imgL S.e S.im).length ≤ 1024
  ll : ∀ l ∈ S.ls, l.length + 1 ≤ 1024
  sm : S.sz ≤ 2340
  e1 : 1 ≤ S.e
  e2 : S.e ≤ 1099511627776
  n0 : 0 ≤ S.n
  ar : S.ar = 0 ∨ S.ar = 1
theorem chB_35 {x : ChR} (g : GoodC x) : (chB x).length ≤ 35 := by
  obtain ⟨g1, g2, g3⟩ := g
  have e1 : (natI x.1).length ≤ 1 := by
    unfold natI; split
    · simp
    · rw [natB_1b (by omega)]; exact Nat.le_refl _
  have hs : x.2.2.size ≤ 32 := by
    unfold goodF at g3
    simp only [Bool.and_eq_true, decide_eq_true_eq] at g3
    exact g3.1
  unfold chB
  rw [List.length_append]
  split
  · rw [List.length_cons, List.length_append, natB_1b (by omega), bl_length]; omega
  · simp; omega
theorem loadB_216 {n : Int} {xs : DFL} (hn : n ≤ 1099511627776) (s : SortD xs) (g : ∀ x ∈ xs, GoodC x) : (loadB n xs).length ≤ 216 := by
  have h6 := sortGood_len xs s g
  have h2 : ∀ xs : DFL, (∀ x ∈ xs, GoodC x) → (xs.flatMap chB).length ≤ 35 * xs.length := by
    intro xs
    induction xs with
    | nil => intro _; simp
    | cons x xs ih =>
      intro h
      have := ih fun y hy => h y (by simp [hy])
      have := chB_35 (h x (by simp))
      rw [List.flatMap_cons, List.length_append, List.length_cons]; omega
  have := h2 xs g
  have := natI_6 hn
  unfold loadB; rw [List.length_append]; omega
theorem imgS_len {S : WS} (hn : S.n ≤ 1099511627776) (k : TomeOk S.v.f) (he : S.e < 1099511627776) : (imgL (S.e + 1) (imgS S)).length ≤ 217 := by
  have h1 := natI_6 hn
  have h2 := tomeB_len k
  have h3 := natB_6 (n := S.e + 1) (by omega)
  unfold imgL imgS; rw [List.length_cons, List.length_append, List.length_append]; omega
theorem VLT.settle {S : WS} (T : VLT S) (hn : S.n ≤ 1099511627776) (k : TomeOk S.v.f) (he : S.e < 1099511627776) : VLT (settleS S) ∧ (settleS S).sz ≤ 223 := by
  have hl := imgS_len hn k he
  have hs : (settleS S).sz ≤ 223 := by show _ + 6 ≤ 223; omega
  have e1 : bl (textD (1 - S.ar) (stl S.ar S.e (imgS S) S.cs)) = closeL (imgL (S.e + 1) (imgS S)) := by rw [stl_new T.ar, bl_ba]
  have har := T.ar
  refine ⟨⟨?_, ?_, ?_, by show (imgL (S.e + 1) (imgS S)).length ≤ 1024; omega, fun l hl => (by cases hl), by omega, by show 1 ≤ S.e + 1; omega, by show S.e + 1 ≤ _; omega, T.n0, by show 1 - S.ar = 0 ∨ 1 - S.ar = 1; omega⟩, hs⟩
  · show bl (textD (1 - S.ar) (stl S.ar S.e (imgS S) S.cs)) = rowL [imgL (S.e + 1) (imgS S)]
    rw [e1, rowL_one]
  · show bl (textD (1 - (1 - S.ar)) (stl S.ar S.e (imgS S) S.cs)) = []
    rw [show 1 - (1 - S.ar) = S.ar by omega, stl_old]; rfl
  · show _ + 6 = (bl (textD (1 - S.ar) (stl S.ar S.e (imgS S) S.cs))).length
    rw [e1, closeL_len (by omega)]
theorem VLT.app {S : WS} (T : VLT S) {l : List UInt8} (hl : l.length ≤ 216) (hs : S.sz ≤ 2048) : VLT (appS S l) := by
  have hc := closeL_len (l := 1 :: l) (by rw [List.length_cons]; omega)
  rw [List.length_cons] at hc
  have e1 : bl (textD S.ar (S.cs ++ [Chg.mk S.ar false (ba (closeL (1 :: l)))])) = bl (textD S.ar S.cs) ++ closeL (1 :: l) := by rw [tD_app, bl_append, bl_ba]
  have hsz := T.sz
  have har := T.ar
  refine ⟨?_, ?_, ?_, T.il, fun x hx => ?_, by show S.sz + (closeL (1 :: l)).length ≤ 2340; omega, T.e1, T.e2, T.n0, T.ar⟩
  · show bl (textD S.ar (S.cs ++ [Chg.mk S.ar false (ba (closeL (1 :: l)))])) = rowL (imgL S.e S.im :: (S.ls ++ [l]).map (1 :: ·))
    rw [e1, T.tx, List.map_append, ← List.cons_append, rowL_append]
    congr 1
    exact (rowL_one _).symm
  · show bl (textD (1 - S.ar) (S.cs ++ [Chg.mk S.ar false (ba (closeL (1 :: l)))])) = []
    rw [tD_other _ _ (by show S.ar ≠ 1 - S.ar; omega)]; exact T.ot
  · show S.sz + (closeL (1 :: l)).length = (bl (textD S.ar (S.cs ++ [Chg.mk S.ar false (ba (closeL (1 :: l)))]))).length
    rw [e1, List.length_append]; omega
  · rcases List.mem_append.1 hx with hx | hx
    · exact T.ll x hx
    · simp only [List.mem_singleton] at hx; subst hx; omega
theorem VLT.f {S : WS} (T : VLT S) (x : Int) : VLT { S with f := x } := ⟨T.tx, T.ot, T.sz, T.il, T.ll, T.sm, T.e1, T.e2, T.n0, T.ar⟩
theorem VLT.write {S : WS} (T : VLT S) (k : TomeOk S.v.f) {xs : DFL} (s : SortD xs) (g : ∀ x ∈ xs, GoodC x) : VLT (writeS S xs).1 := by
  unfold writeS
  split
  · exact T.f _
  split
  · exact T
  rename_i hn
  have hl := loadB_216 (n := S.n + 1) (by omega) s g
  split
  · split
    · exact T
    · obtain ⟨T1, h1⟩ := T.settle (by omega) k (by omega)
      exact T1.app hl (by omega)
  · exact T.app hl (by omega)
theorem write_keeps (S : WS) (xs : DFL) : (writeS S xs).1.v = S.v ∧ (writeS S xs).1.w = S.w ∧ (writeS S xs).1.tk = S.tk ∧ (writeS S xs).1.tl = S.tl ∧ (writeS S xs).1.nt = S.nt ∧ (writeS S xs).1.n = S.n ∧ (writeS S xs).1.cs.length ≤ S.cs.length + 4 := by
  have e1 : ∀ (S : WS) l, (appS S l).cs.length = S.cs.length + 1 := fun S l => by unfold appS; simp
  have e2 : (settleS S).cs.length = S.cs.length + 3 := by unfold settleS stl; simp
  unfold writeS
  split
  · exact ⟨rfl, rfl, rfl, rfl, rfl, rfl, by simp⟩
  split
  · exact ⟨rfl, rfl, rfl, rfl, rfl, rfl, by simp⟩
  split
  · split
    · exact ⟨rfl, rfl, rfl, rfl, rfl, rfl, by simp⟩
    · exact ⟨rfl, rfl, rfl, rfl, rfl, rfl, by simp only; rw [e1, e2]; omega⟩
  · exact ⟨rfl, rfl, rfl, rfl, rfl, rfl, by simp only; rw [e1]; omega⟩
def addS (t : Tal) (os : List (Int × Int)) : Tal := os.foldl talAdd t
def outW (w : WR) (o : Int × Int) : WR := setW w o.1 { wayAt w o.1 with q := (wayAt w o.1).q ++ ba [UInt8.ofNat o.2.toNat] }
def sendS (w : WR) (os : List (Int × Int)) : WR := os.foldl outW w
theorem addS_take {t : Tal} {os : List (Int × Int)} {j : Nat} {o : Int × Int} (h : os[j]? = some o) : addS t (os.take (j + 1)) = talAdd (addS t (os.take j)) o := by
  obtain ⟨h1, rfl⟩ := List.getElem?_eq_some_iff.1 h
  rw [List.take_succ_eq_append_getElem h1, addS, List.foldl_append]; rfl
theorem sendS_take {w : WR} {os : List (Int × Int)} {j : Nat} {o : Int × Int} (h : os[j]? = some o) : sendS w (os.take (j + 1)) = outW (sendS w (os.take j)) o := by
  obtain ⟨h1, rfl⟩ := List.getElem?_eq_some_iff.1 h
  rw [List.take_succ_eq_append_getElem h1, sendS, List.foldl_append]; rfl
theorem wayAt_set {w : WR} {i j : Int} {x : Way} : wayAt (setW w i x) j = if j = i ∧ 0 ≤ i ∧ i < 3 then x else wayAt w j := by
  by_cases hc : j = i ∧ 0 ≤ i ∧ i < 3
  · rw [if_pos hc]
    obtain ⟨rfl, h1, h2⟩ := hc
    rcases (by omega : j = 0 ∨ j = 1 ∨ j = 2) with rfl | rfl | rfl <;> rfl
  · rw [if_neg hc]
    unfold setW
    by_cases h0 : i = 0
    · have hj : j ≠ 0 := by omega
      rw [if_pos h0]; unfold wayAt; simp [hj]
    rw [if_neg h0]
    by_cases h1 : i = 1
    · have hj : j ≠ 1 := by omega
      rw [if_pos h1]; unfold wayAt; simp [hj]
    rw [if_neg h1]
    by_cases h2 : i = 2
    · have hj : j ≠ 2 := by omega
      rw [if_pos h2]; unfold wayAt; simp [hj]
    · rw [if_neg h2]
def WLe (w : WR) (n : Nat) : Prop := ∀ i, (wayAt w i).q.size ≤ n ∧ (wayAt w i).s.size ≤ n ∧ (wayAt w i).t.size ≤ n
theorem WLe.ok {w : WR} {n : Nat} (h : WLe w n) (hn : n ≤ 1000000000000) : WOk w := fun i => by
  obtain ⟨a, b, c⟩ := h i
  exact ⟨by omega, by omega, by omega⟩
theorem WLe.zero : WLe (wz, wz, wz) 0 := fun i => by
  have : wayAt (wz, wz, wz) i = wz := by unfold wayAt; (repeat' split) <;> rfl
  rw [this]; exact ⟨Nat.le_refl _, Nat.le_refl _, Nat.le_refl _⟩
theorem WLe.out {w : WR} {n : Nat} (h : WLe w n) (o : Int × Int) : WLe (outW w o) (n + 1) := fun i => by
  unfold outW
  rw [wayAt_set]
  obtain ⟨a, b, c⟩ := h i
  split
  · rename_i e
    rw [← e.1]
    refine ⟨?_, by show (wayAt w i).s.size ≤ _; omega, by show (wayAt w i).t.size ≤ _; omega⟩
    show ((wayAt w i).q ++ ba [_]).size ≤ n + 1
    rw [ByteArray.size_append, ba_size]; simp; omega
  · exact ⟨by omega, by omega, by omega⟩
theorem WLe.send {w : WR} : ∀ (os : List (Int × Int)) {n : Nat} {w : WR}, WLe w n → WLe (sendS w os) (n + os.length) := by
  intro os
  induction os with
  | nil => intro n w h; exact h
  | cons o os ih =>
    intro n w h
    have := ih (h.out o)
    rw [List.length_cons, show n + (os.length + 1) = n + 1 + os.length by omega]; exact this
theorem TK.slc_wnotes : slcB PG TY.s_world_Note = some (TY.world_Note, 2, 16) := by kernel_rfl
theorem TK.zero_wnote : zeroB PG TY.world_Note = some [.int .i64 0, .int .i64 0] := by kernel_rfl
theorem TK.sl_wnotes : slT PG TY.s_world_Note = true := by kernel_rfl
section
variable {B : RO} {h0 h h' : Heap} {L M : List (Option (Nat × AObj))} {I : WI} {S : WS} {i j : Int} {q kd k : Nat} {xs : DFL} {v : Value} {r : Option (Nat × AObj)} {os : List (Int × Int)} {a : Option Addr} {c : Nat}
theorem WI.split (E : Keep B h0 (L ++ I.e S) h) : Keep B h0 ((L ++ I.h S) ++ vE I.kD I.kv I.kl S.cs S.k I.vd I.rd S.e true (walO I.kD S.ar S.sz false)) h := by rw [List.append_assoc]; exact E
theorem wwrite_nil {p : Option Addr} {Q : Int → Heap → Prop} (hQ : Q 2 h) : C_world_World_Write B none p h Q := by
  refine C_world_World_Write.of ?_
  unfold S_world_World_Write
  exact ⟨fun _ => Fin.of hQ, fun e => absurd rfl e⟩
theorem wwrite_J1 {Q : Int → Heap → Prop} (E : Keep B h0 (L ++ I.e S) h) (K : WK I S) (T : VLT S) (hn : S.n < 1099511627776) (hs : S.sz ≤ 2048) (hl : S.cs.length ≤ 9990) (A : DAt_file_File L q kd v r) (R : DRow_file_File r v xs) (s : SortD xs) (g : ∀ x ∈ xs, GoodC x)
    (hQ : ∀ vd' rd' h', WK { I with vd := vd', rd := rd' } (appS S (loadB (S.n + 1) xs)) → Keep B h0 (L ++ WI.e { I with vd := vd', rd := rd' } (appS S (loadB (S.n + 1) xs))) h' → Q 0 h') : S_world_World_Write_J1 B (some ⟨I.kW, 0, none⟩) (some ⟨kd, 0, none⟩) h Q := by
  unfold S_world_World_Write_J1
  have n0 := T.n0
  have hw : IntKind.wrap .i64 (S.n + 1) = S.n + 1 := w64 (by omega) (by omega)
  refine ⟨_, rfl, _, E.cM 7 rfl (i := 4) rfl, _, rfl, S.n, E.cM 7 rfl (i := 10) rfl, ?_⟩
  rw [hw]
  have h6 := sortGood_len xs s g
  have hb := loadB_216 (n := S.n + 1) (by omega) s g
  refine redo_bytes_wp (i := q) E ⟨up_app _ A.p, up_app _ A.q⟩ R g (by omega) (by omega) fun h35 E1 => ⟨E1.cM 7 rfl (i := 4) rfl, E1.cM 7 rfl (i := 10) rfl, ?_⟩
  have hc := closeL_len (l := 1 :: loadB (S.n + 1) xs) (by rw [List.length_cons]; omega)
  rw [List.length_cons] at hc
  have hsz := T.sz
  rw [bl_length] at hsz
  refine vappend_wp (WI.split E1) K.cr K.hk K.ok (by omega) (by rw [ba_size]; omega) (by omega) K.ar (fun hL => by rw [ba_size] at hL; omega) (fun _ hF => by rw [bl_ba, hc] at hF; omega) fun _ _ v' r' h39 R' E2 => ?_
  rw [bl_ba] at R' E2
  have E3 : Keep B h0 (L ++ WI.e { I with vd := v', rd := r' } (appS S (loadB (S.n + 1) xs))) h39 := by rw [List.append_assoc] at E2; exact E2
  have k1 : WK { I with vd := v', rd := r' } (appS S (loadB (S.n + 1) xs)) := ⟨K.o, K.nr, R', by show S.k ≤ (S.cs ++ [_]).length; have := K.hk; simp; omega, K.ok.snoc K.ar (by show (textD S.ar _).size ≤ _; rw [tD_app, ByteArray.size_append, ba_size, hc]; omega), K.ar⟩
  exact ⟨E3.cM 7 rfl (i := 4) rfl, E3.cM 7 rfl (i := 10) rfl, Fin.of (hQ _ _ _ k1 E3)⟩
theorem wwrite_wp {Q : Int → Heap → Prop} (E : Keep B h0 (L ++ I.e S) h) (K : WK I S) (T : VLT S) (hl : S.cs.length ≤ 9980) (hf : S.f ≤ 9223372036854775807) (A : DAt_file_File L q kd v r) (R : DRow_file_File r v xs) (s : SortD xs) (g : ∀ x ∈ xs, GoodC x)
    (hQ : ∀ vd' rd' kl' h', WK { I with vd := vd', rd := rd', kl := kl' } (writeS S xs).1 → Keep B h0 (L ++ WI.e { I with vd := vd', rd := rd', kl := kl' } (writeS S xs).1) h' → Q (writeS S xs).2 h') : C_world_World_Write B (some ⟨I.kW, 0, none⟩) (some ⟨kd, 0, none⟩) h Q := by
  refine C_world_World_Write.of ?_
  unfold S_world_World_Write
  unfold writeS at hQ
  refine ⟨fun e => (by cases e), fun _ => ⟨_, rfl, S.f, E.cM 7 rfl (i := 11) rfl, fun h1 => ?_, fun h1 => ⟨_, rfl, S.n, E.cM 7 rfl (i := 10) rfl, fun h2 => ?_, fun h2 => ⟨_, rfl, _, E.cM 7 rfl (i := 4) rfl, ?_⟩⟩⟩⟩
  · have hw : IntKind.wrap .i64 (S.f - 1) = S.f - 1 := w64 (by omega) (by omega)
    refine ⟨_, rfl, S.f, E.cM 7 rfl (i := 11) rfl, _, rfl, _, storeH_vec (E.gM 7 rfl) rfl, ?_⟩
    rw [hw]
    rw [if_pos h1] at hQ
    exact Fin.of (hQ I.vd I.rd I.kl _ ⟨K.o, K.nr, K.cr, K.hk, K.ok, K.ar⟩ (E.pM (o' := wldO I { S with f := S.f - 1 }) 7 rfl))
  · rw [if_neg h1, if_pos h2] at hQ
    exact Fin.of (hQ I.vd I.rd I.kl _ K E)
  rw [if_neg h1, if_neg h2] at hQ
  have n0 := T.n0
  refine vsize_wp (i := L.length + 13) (j := L.length + 14) E (upM 13 rfl) (upM 14 rfl) ⟨fun h3 => ?_, fun h3 => Fin.of ?_⟩
  · rw [if_pos h3] at hQ
    refine ⟨_, rfl, _, E.cM 7 rfl (i := 4) rfl, _, rfl, S.n, E.cM 7 rfl (i := 10) rfl, _, rfl, _, E.cM 7 rfl (i := 0) rfl, _, rfl, _, E.cM 0 rfl (i := 1) rfl, ?_⟩
    refine image21_wp (i := L.length + 2) E ⟨upM 2 rfl, ⟨upM 3 rfl, upM 4 rfl⟩⟩ K.o.r K.o.f (by omega) fun h75 E1 => ⟨E1.cM 7 rfl (i := 4) rfl, E1.cM 7 rfl (i := 10) rfl, E1.cM 7 rfl (i := 0) rfl, E1.cM 0 rfl (i := 1) rfl, ?_⟩
    by_cases he : 1099511627776 ≤ S.e
    · rw [if_pos he] at hQ
      refine vsettle_full (E1.gM 13 rfl) he ⟨E1.cM 7 rfl (i := 4) rfl, E1.cM 7 rfl (i := 10) rfl, E1.cM 7 rfl (i := 0) rfl, E1.cM 0 rfl (i := 1) rfl, fun e => absurd e (by decide), fun _ => Fin.of (hQ I.vd I.rd I.kl _ K E1)⟩
    rw [if_neg he] at hQ
    have him := imgS_len (S := S) (by omega) K.o.f (by omega)
    have i6 := natI_6 (n := S.n) (by omega)
    have t2 := tomeB_len K.o.f
    refine vsettle_wp (WI.split E1) K.cr K.hk K.ok (by omega) (by rw [ba_size, List.length_append]; omega) K.ar (by omega) (fun hL => by rw [bl_ba] at hL; unfold imgS at him; omega) fun _ ok3 kl' h81 E2 => ?_
    rw [bl_ba] at E2 ok3
    have E3 : Keep B h0 (L ++ WI.e { I with vd := .slice none 0 0, rd := none, kl := kl' } (settleS S)) h81 := by rw [List.append_assoc] at E2; exact E2
    obtain ⟨T1, hs1⟩ := T.settle (by omega) K.o.f (by omega)
    have K1 : WK { I with vd := .slice none 0 0, rd := none, kl := kl' } (settleS S) := ⟨K.o, K.nr, CRow.done _, Nat.le_refl _, ok3, T1.ar⟩
    refine ⟨E3.cM 7 rfl (i := 4) rfl, E3.cM 7 rfl (i := 10) rfl, E3.cM 7 rfl (i := 0) rfl, E3.cM 0 rfl (i := 1) rfl, fun _ => Fin.of ?_, fun e => absurd rfl e⟩
    exact wwrite_J1 (I := { I with vd := .slice none 0 0, rd := none, kl := kl' }) (S := settleS S) E3 K1 T1 (by show S.n < _; omega) (by omega) (by show (stl S.ar S.e (imgS S) S.cs).length ≤ 9990; unfold stl; simp; omega) A R s g fun vd' rd' h' K2 E4 => hQ vd' rd' kl' h' K2 E4
  · rw [if_neg h3] at hQ
    exact wwrite_J1 E K T (by omega) (by omega) (by omega) A R s g fun vd' rd' h' K2 E4 => hQ vd' rd' I.kl h' K2 E4
end
end Go.Proofs.Ytlehephbflgblaa.H
namespace Go.Proofs.Ytlehephbflgblaa.H
open Go Go.RowKit
set_option linter.unusedVariables false
set_option maxRecDepth 100000
theorem talAdd_out {t : Tal} {o : Int × Int} (h : ¬ (0 ≤ o.1 ∧ o.1 < 4)) : talAdd t o = t := by
  unfold talAdd talSet
  rw [if_neg (by omega), if_neg (by omega), if_neg (by omega), if_neg (by omega)]
def tellS (nt : List (Int × Int)) (t : Int) (ns : List Int) : List (Int × Int) := nt ++ ns.map fun n => (t, n)
theorem tellS_take {nt : List (Int × Int)} {t : Int} {ns : List Int} {j : Nat} {n : Int} (h : ns[j]? = some n) : tellS nt t (ns.take (j + 1)) = tellS nt t (ns.take j) ++ [(t, n)] := by
  obtain ⟨h1, rfl⟩ := List.getElem?_eq_some_iff.1 h
  rw [List.take_succ_eq_append_getElem h1, tellS, List.map_append, ← List.append_assoc]; rfl
section
variable {B : RO} {h0 h h' : Heap} {L M : List (Option (Nat × AObj))} {I : WI} {S : WS} {i j t : Int} {k : Nat} {v : Value} {r : Option (Nat × AObj)} {os : List (Int × Int)} {ns : List Int} {a : Option Addr} {c : Nat}
theorem wadd_nil {Q : Heap → Prop} {n : Nat} (hQ : Q h) : C_world_World_Add B none a n c h Q := by
  refine C_world_World_Add.of ?_
  unfold S_world_World_Add
  exact ⟨fun _ => Fin.of hQ, fun e => absurd rfl e⟩
theorem wadd_wp {Q : Heap → Prop} (E : Keep B h0 (L ++ (I.e S ++ M)) h) (hr : ∀ T h', Keep B h0 (L ++ (I.e { S with tl := T } ++ M)) h' → Reads B h' a 2 OpenC os) (hl : os.length ≤ 1000000)
    (hQ : ∀ h', Keep B h0 (L ++ (I.e { S with tl := addS S.tl os } ++ M)) h' → Q h') : C_world_World_Add B (some ⟨I.kW, 0, none⟩) a os.length c h Q := by
  refine C_world_World_Add.of ?_
  unfold S_world_World_Add
  refine ⟨fun e => (by cases e), fun _ => ⟨fun q m h' => ∃ j : Nat, j ≤ os.length ∧ q = j ∧ m = os.length - j ∧ Keep B h0 (L ++ (I.e { S with tl := addS S.tl (os.take j) } ++ M)) h', os.length, Fin.of ⟨0, by omega, rfl, rfl, E⟩, ?_⟩⟩
  clear E
  rintro _ _ h7 ⟨j, hj, rfl, rfl, E1⟩
  refine ⟨fun hlt => ?_, fun hge => Fin.of ?_⟩
  · have hj' : j < os.length := by omega
    have hx := List.getElem?_eq_getElem hj'
    generalize os[j] = o at hx
    obtain ⟨A, f1, _, f3⟩ := hr _ h7 E1 j o hx
    refine ⟨A, f1, by omega, by omega, o.1, o.2, by rw [Int.toNat_natCast]; exact f3, fun k16 a16 b16 h17 e17 => ?_⟩
    have E2 := E1.made a16 b16 e17
    refine ⟨_, stores_whole E2.last rfl (by simp) (by simp [isOne]) (by simp), ?_⟩
    have E3 := E2.putLast (.vec TY.acts_Open (plains [.int .i64 o.1, .int .i64 o.2]) 2)
    have g3 := E3.last
    have E4 := E3.pop
    have ht := addS_take (t := S.tl) hx
    generalize Heap.set h17 k16 _ = hh at g3 E3 E4 ⊢
    generalize addS S.tl (os.take j) = T at *
    have go : ∀ {h1 : Heap}, Keep B h0 (L ++ (I.e { S with tl := talAdd T o } ++ M)) h1 → Fin B h1 (fun h' => ∃ m', m' < os.length - j ∧ ∃ j' : Nat, j' ≤ os.length ∧ IntKind.wrap .i64 ((j : Int) + 1) = j' ∧ m' = os.length - j' ∧ Keep B h0 (L ++ (I.e { S with tl := addS S.tl (os.take j') } ++ M)) h') := fun E5 => Fin.of ⟨os.length - (j + 1), by omega, j + 1, by omega, wrapS (by omega), rfl, by rw [ht]; exact E5⟩
    have jf : ¬ (0 ≤ o.1 ∧ o.1 < 4) → ∀ {m8 : Nat} {i6 : Int} {J : Int → Nat → Heap → Prop}, (Fin B hh (fun h' => ∃ m', m' < m8 ∧ J (IntKind.wrap .i64 (i6 + 1)) m' h')) → S_world_World_Add_J1 B (some ⟨I.kW, 0, none⟩) a os.length c i6 m8 J k16 false hh Q := fun hn m8 i6 J hf => by
      unfold S_world_World_Add_J1
      exact ⟨fun e => (by cases e), fun _ => hf⟩
    have no : ¬ (0 ≤ o.1 ∧ o.1 < 4) → Keep B h0 (L ++ (I.e { S with tl := talAdd T o } ++ M)) hh := fun hn => by rw [talAdd_out hn]; exact E4
    refine ⟨o.1, cellH_vec g3 rfl, fun h1 => ⟨o.1, cellH_vec g3 rfl, fun h2 => Fin.of ?_, fun h2 => Fin.of (jf (by omega) (go (no (by omega))))⟩, fun h1 => Fin.of (jf (by omega) (go (no (by omega))))⟩
    unfold S_world_World_Add_J1
    have gW := E4.gM (k := I.kW) (o := wldO I { S with tl := T }) 7 rfl
    have hc : o.1 = 0 ∨ o.1 = 1 ∨ o.1 = 2 ∨ o.1 = 3 := by omega
    have c5 : cellH B hh (Addr.add (Addr.add ⟨I.kW, 0, none⟩ 5) (o.1.toNat * 1)) = some (.int .i64 (talAt T o.1)) := by rcases hc with e | e | e | e <;> rw [e] <;> exact cellH_vec gW rfl
    have s5 : ∀ x : Int, storeH hh (Addr.add (Addr.add ⟨I.kW, 0, none⟩ 5) (o.1.toNat * 1)) (.int .i64 x) = some (Heap.set hh I.kW (wldO I { S with tl := talSet T o.1 x })) := fun x => by rcases hc with e | e | e | e <;> rw [e] <;> exact storeH_vec gW rfl
    exact ⟨fun _ => ⟨o.1, cellH_vec g3 rfl, _, rfl, by omega, by omega, _, c5, o.2, cellH_vec g3 rfl, _, rfl, by omega, by omega, _, s5 _, go (E4.pM (o' := wldO I { S with tl := talAdd T o }) 7 rfl)⟩, fun e => by cases e⟩
  · have : j = os.length := by omega
    subst this
    rw [List.take_length] at E1
    exact hQ _ E1
theorem wsend_nil {Q : Heap → Prop} {n : Nat} (hQ : Q h) : C_world_World_Send B none a n c h Q := by
  refine C_world_World_Send.of ?_
  unfold S_world_World_Send
  exact ⟨fun _ => Fin.of hQ, fun e => absurd rfl e⟩
theorem wsend_wp {n : Nat} {Q : Heap → Prop} (E : Keep B h0 (L ++ (I.e S ++ M)) h) (hr : ∀ T h', Keep B h0 (L ++ (I.e { S with w := T } ++ M)) h' → Reads B h' a 2 OutC os) (hu : ∀ o ∈ os, 0 ≤ o.2 ∧ o.2 < 256) (hl : os.length ≤ 1000000) (hw : WLe S.w n) (hn : n ≤ 1000000000)
    (hQ : ∀ h', Keep B h0 (L ++ (I.e { S with w := sendS S.w os } ++ M)) h' → Q h') : C_world_World_Send B (some ⟨I.kW, 0, none⟩) a os.length c h Q := by
  refine C_world_World_Send.of ?_
  unfold S_world_World_Send
  refine ⟨fun e => (by cases e), fun _ => ⟨fun q m h' => ∃ j : Nat, j ≤ os.length ∧ q = j ∧ m = os.length - j ∧ Keep B h0 (L ++ (I.e { S with w := sendS S.w (os.take j) } ++ M)) h', os.length, Fin.of ⟨0, by omega, rfl, rfl, E⟩, ?_⟩⟩
  clear E
  rintro _ _ h7 ⟨j, hj, rfl, rfl, E1⟩
  refine ⟨fun hlt => ?_, fun hge => Fin.of ?_⟩
  · have hj' : j < os.length := by omega
    have hx := List.getElem?_eq_getElem hj'
    have hb := hu _ (List.getElem_mem hj')
    have hwl := (WLe.send (w := S.w) (os.take j) hw)
    rw [List.length_take] at hwl
    generalize os[j] = o at hx hb
    obtain ⟨A, f1, _, f3⟩ := hr _ h7 E1 j o hx
    refine ⟨A, f1, by omega, by omega, o.1, o.2, by rw [Int.toNat_natCast]; exact f3, fun k16 a16 b16 h17 e17 => ?_⟩
    have E2 := E1.made a16 b16 e17
    refine ⟨_, stores_whole E2.last rfl (by simp) (by simp [isOne]) (by simp), ?_⟩
    have E3 := E2.putLast (.vec TY.acts_Out (plains [.int .i64 o.1, .int .u8 o.2]) 2)
    have ht := sendS_take (w := S.w) hx
    generalize sendS S.w (os.take j) = T at *
    have gW := E3.at (k := I.kW) (o := wldO I { S with w := T }) (L.length + 7) (up_app _ (upM 7 rfl))
    refine ⟨_, rfl, _, cellH_vec gW rfl, o.1, cellH_vec E3.last rfl, o.2, cellH_vec E3.last rfl, fun k32 a32 b32 h33 e33 => ?_⟩
    have E4 := E3.made a32 b32 e33
    have gW4 := E4.at (k := I.kW) (o := wldO I { S with w := T }) (L.length + 7) (up_app _ (up_app _ (upM 7 rfl)))
    have g16 := E4.at (k := k16) (o := .vec TY.acts_Out (plains [.int .i64 o.1, .int .u8 o.2]) 2) (L ++ (I.e { S with w := T } ++ M)).length (up_app _ (by simp))
    have gU := E4.at (k := I.kU) (o := wirO T) (L.length + 8) (up_app _ (up_app _ (upM 8 rfl)))
    have eb : [Value.int .u8 o.2] = [UInt8.ofNat o.2.toNat].map byteV := by
      have : ((UInt8.ofNat o.2.toNat).toNat : Int) = o.2 := by rw [UInt8.toNat_ofNat_of_lt' (by show o.2.toNat < 256; omega)]; omega
      simp only [List.map_cons, List.map_nil, byteV, this]
    refine ⟨cellH_vec gW4 rfl, cellH_vec g16 rfl, cellH_vec g16 rfl, bytes_str (bs := [UInt8.ofNat o.2.toNat]) E4.last eb (by simp) ⟨_, rfl, cellH_vec gW4 rfl, cellH_vec g16 rfl, cellH_vec g16 rfl, ?_⟩⟩
    refine wirepush_wp gU (hwl.ok (by omega)) (by rw [ba_size]; simp) (Fin.of ⟨os.length - (j + 1), by omega, j + 1, by omega, wrapS (by omega), rfl, ?_⟩)
    rw [ht]
    exact (E4.pop.pop).pM (o' := wirO (outW T o)) 8 rfl
  · have : j = os.length := by omega
    subst this
    rw [List.take_length] at E1
    exact hQ _ E1
theorem wtell_nil {n : Nat} {Q : Heap → Prop} (hQ : Q h) : C_world_World_Tell B none t a n c h Q := by
  refine C_world_World_Tell.of ?_
  unfold S_world_World_Tell
  exact ⟨fun _ => Fin.of hQ, fun e => absurd rfl e⟩
theorem wtell_wp {Q : Heap → Prop} (E : Keep B h0 (L ++ (I.e S ++ M)) h) (R : Row I.rn I.vn TY.world_Note 2 (S.nt.flatMap NoteW)) (hr : ∀ vn rn nt h', Keep B h0 (L ++ (WI.e { I with vn := vn, rn := rn } { S with nt := nt } ++ M)) h' → Reads B h' a 1 NoteC ns) (hl : S.nt.length + ns.length ≤ 1000000)
    (hQ : ∀ vn rn h', Row rn vn TY.world_Note 2 ((tellS S.nt t ns).flatMap NoteW) → Keep B h0 (L ++ (WI.e { I with vn := vn, rn := rn } { S with nt := tellS S.nt t ns } ++ M)) h' → Q h') : C_world_World_Tell B (some ⟨I.kW, 0, none⟩) t a ns.length c h Q := by
  refine C_world_World_Tell.of ?_
  unfold S_world_World_Tell
  refine ⟨fun e => (by cases e), fun _ => ⟨fun q m h' => ∃ (j : Nat) (vn : Value) (rn : Option (Nat × AObj)), j ≤ ns.length ∧ q = j ∧ m = ns.length - j ∧ Row rn vn TY.world_Note 2 ((tellS S.nt t (ns.take j)).flatMap NoteW) ∧ Keep B h0 (L ++ (WI.e { I with vn := vn, rn := rn } { S with nt := tellS S.nt t (ns.take j) } ++ M)) h', ns.length, Fin.of ⟨0, I.vn, I.rn, by omega, rfl, rfl, by rw [List.take_zero, tellS, List.map_nil, List.append_nil]; exact R, by rw [List.take_zero, tellS, List.map_nil, List.append_nil]; exact E⟩, ?_⟩⟩
  clear E R
  rintro _ _ h8 ⟨j, vn, rn, hj, rfl, rfl, R, E1⟩
  refine ⟨fun hlt => ?_, fun hge => Fin.of ?_⟩
  · have hj' : j < ns.length := by omega
    have hx := List.getElem?_eq_getElem hj'
    generalize ns[j] = x at hx
    obtain ⟨A, f1, _, f3⟩ := hr _ _ _ h8 E1 j x hx
    obtain ⟨a0, m0, c0, rfl⟩ := Row.slice R
    have ht := tellS_take (nt := S.nt) (t := t) hx
    have htl : (tellS S.nt t (ns.take j)).length ≤ 1000000 := by unfold tellS; rw [List.length_append, List.length_map, List.length_take]; omega
    generalize tellS S.nt t (ns.take j) = nt at *
    refine ⟨A, f1, by omega, by omega, x, by rw [Int.toNat_natCast]; exact f3.1, _, rfl, .inl ⟨a0, m0, c0, E1.cM 7 rfl (i := 9) rfl, fun k22 a22 b22 h23 e23 => ?_⟩⟩
    refine E1.push1 (L.length + 10) (upM 10 rfl) R TK.slc_wnotes TK.zero_wnote rfl (by omega) (by omega) TK.sl_wnotes (ys := NoteW (t, x)) rfl (NoteW_one _) (by rw [flatMap_length NoteW_len, NoteW_len]; omega) a22 b22 e23 fun a' m' c' r' h24 R' E2 => ⟨a', m', c', rfl, _, rfl, ?_⟩
    rw [setM] at E2
    refine ⟨_, storeH_vec (E2.gM 7 rfl) rfl, Fin.of ⟨ns.length - (j + 1), by omega, j + 1, .slice a' m' c', r', by omega, wrapS (by omega), rfl, ?_, ?_⟩⟩
    · rw [ht, List.flatMap_append]; simpa using R'
    · rw [ht]
      exact E2.pM (o' := wldO { I with vn := .slice a' m' c', rn := r' } { S with nt := nt ++ [(t, x)] }) 7 rfl
  · have : j = ns.length := by omega
    subst this
    rw [List.take_length] at E1 R
    exact hQ _ _ _ R E1
theorem wclone_wp {q m c : Nat} {a : Option Addr} {r : Option (Nat × AObj)} {l : List (Int × Int)} {Q : Option Addr → Nat → Nat → Heap → Prop} (E : Keep B h0 L h) (hq : L[q]? = some r) (R : Row r (.slice a m c) TY.world_Note 2 (l.flatMap NoteW)) (hl : l.length ≤ 1000000)
    (hQ : ∀ a' m' c' r' h', Row r' (.slice a' m' c') TY.world_Note 2 (l.flatMap NoteW) → Keep B h0 (L ++ [r']) h' → Q a' m' c' h') : C_slices_Clone_s_world_Note_world_Note B a m c h Q := by
  refine C_slices_Clone_s_world_Note_world_Note.of ?_
  unfold S_slices_Clone_s_world_Note_world_Note
  have fl := flatMap_length NoteW_len l
  refine ⟨fun e => Fin.of ?_, fun hne k8 a8 b8 h9 e9 => ?_⟩
  · subst e
    have hl0 : l = [] := by
      rcases R with ⟨_, e2, e3⟩ | ⟨k, n, c, nn, is, _, e1, _⟩
      · exact List.length_eq_zero_iff.1 (by have := congrArg List.length e3; rw [fl] at this; simp at this; omega)
      · cases e1
    subst hl0
    exact hQ none 0 0 none h (Row.nil _ _) E.gap
  · have E1 := E.made a8 b8 e9
    have R0 : Row (some (k8, AObj.vec TY.world_Note [] 0)) (.slice (some ⟨k8, 0, none⟩) 0 0) TY.world_Note 2 [] := .inr ⟨k8, 0, 0, 0, [], rfl, rfl, by simp, Nat.le_refl _, by simp⟩
    refine E1.pushS L.length (by simp) R0 TK.slc_wnotes TK.zero_wnote rfl (by omega) (by omega) TK.sl_wnotes (R.src (fun k o e => E1.at q (by rw [up_app _ hq, e])) NoteW_len (by omega) NoteW_one) (by rw [fl]; simp; omega) fun a' m' c' r'' h'' R' E' => ⟨a', m', c', rfl, Fin.of (hQ a' m' c' r'' _ (by rw [List.nil_append] at R'; exact R') ?_)⟩
    rw [List.set_append_right _ _ (Nat.le_refl _), Nat.sub_self] at E'
    exact E'
theorem wnotes_nil {Q : Option Addr → Nat → Nat → Heap → Prop} (hQ : Q none 0 0 h) : C_world_World_Notes B none h Q := by
  refine C_world_World_Notes.of ?_
  unfold S_world_World_Notes
  exact ⟨fun _ => Fin.of hQ, fun e => absurd rfl e⟩
theorem wnotes_wp {Q : Option Addr → Nat → Nat → Heap → Prop} (E : Keep B h0 (L ++ (I.e S ++ M)) h) (R : Row I.rn I.vn TY.world_Note 2 (S.nt.flatMap NoteW)) (hl : S.nt.length ≤ 1000000)
    (hQ : ∀ a' m' c' r' h', Row r' (.slice a' m' c') TY.world_Note 2 (S.nt.flatMap NoteW) → Keep B h0 (L ++ (I.e S ++ M) ++ [r']) h' → Q a' m' c' h') : C_world_World_Notes B (some ⟨I.kW, 0, none⟩) h Q := by
  refine C_world_World_Notes.of ?_
  unfold S_world_World_Notes
  obtain ⟨a0, m0, c0, e⟩ := Row.slice R
  have gW := E.gM (k := I.kW) (o := wldO I S) 7 rfl
  unfold wldO at gW
  rw [e] at R gW
  exact ⟨fun e => (by cases e), fun _ => ⟨_, rfl, .inl ⟨a0, m0, c0, cellH_vec gW rfl, wclone_wp (q := L.length + 10) E (upM 10 rfl) R hl fun a' m' c' r' h' R' E' => Fin.of (hQ a' m' c' r' _ R' E')⟩⟩⟩
end
end Go.Proofs.Ytlehephbflgblaa.H
namespace Go.Proofs.Ytlehephbflgblaa.H
open Go Go.RowKit
set_option linter.unusedVariables false
set_option maxRecDepth 100000
theorem toldL_nil : toldL [] = ⟨0, [], []⟩ := by unfold toldL; rw [allL_none openL_nil]; rfl
theorem fOf_mt {cs : List Chg} (h0 : bl (textD 0 cs) = []) (h1 : bl (textD 1 cs) = []) : fOf cs = ⟨0, [], []⟩ ∧ aOf cs = 0 := by unfold fOf foundL aOf areaL; rw [h0, h1, toldL_nil]; simp
theorem openF_mt : openF ⟨0, [], []⟩ = some (zF, 0) := by
  have h : readW (TDL.mk 0 [] []).im = some (zF, 0) := readW_nil
  rw [openF_2 h (by simp [goods])]
  simp [goods, chsOf, apCs, lastOf]
theorem WE0 {B : RO} {h0 h : Heap} {L M : List (Option (Nat × AObj))} (E : Keep B h0 (L ++ M) h) : Keep B h0 (L ++ (M ++ [])) h := by rw [List.append_nil]; exact E
theorem open_vlt {cs : List Chg} {z : FL} {n : Int} (k : TomeOk z) (hn : 0 ≤ n ∧ n ≤ 1099511627776) (he : (fOf cs).e < 1099511627776) : VLT (openS cs z n) := by
  have ha := aOf_or cs
  have hl : (imgL ((fOf cs).e + 1) (natI n ++ tomeB z)).length ≤ 217 := by
    have h1 := natI_6 hn.2
    have h2 := tomeB_len k
    have h3 := natB_6 (n := (fOf cs).e + 1) (by omega)
    unfold imgL; rw [List.length_cons, List.length_append, List.length_append]; omega
  have e1 : bl (textD (1 - aOf cs) (stl (aOf cs) (fOf cs).e (natI n ++ tomeB z) cs)) = closeL (imgL ((fOf cs).e + 1) (natI n ++ tomeB z)) := by rw [stl_new ha, bl_ba]
  refine ⟨?_, ?_, ?_, by show (imgL ((fOf cs).e + 1) (natI n ++ tomeB z)).length ≤ 1024; omega, fun l hl => (by cases hl), by show _ + 6 ≤ 2340; omega, by show 1 ≤ (fOf cs).e + 1; omega, by show (fOf cs).e + 1 ≤ _; omega, hn.1, by show 1 - aOf cs = 0 ∨ 1 - aOf cs = 1; omega⟩
  · show bl (textD (1 - aOf cs) (stl (aOf cs) (fOf cs).e (natI n ++ tomeB z) cs)) = rowL [imgL ((fOf cs).e + 1) (natI n ++ tomeB z)]
    rw [e1, rowL_one]
  · show bl (textD (1 - (1 - aOf cs)) (stl (aOf cs) (fOf cs).e (natI n ++ tomeB z) cs)) = []
    rw [show 1 - (1 - aOf cs) = aOf cs by omega, stl_old]; rfl
  · show _ + 6 = (bl (textD (1 - aOf cs) (stl (aOf cs) (fOf cs).e (natI n ++ tomeB z) cs))).length
    rw [e1, closeL_len (by omega)]
section
variable {B : RO} {h0 h h' : Heap} {L M : List (Option (Nat × AObj))} {I : WI} {S : WS} {i j : Int} {k kD : Nat} {z : FL}
noncomputable def newS : WS := openS [] zF 0
theorem newworld_wp {Q : Option Addr → Int → Heap → Prop} (E : Keep B h0 (L ++ [some (kD, dskO [] 0 (.slice none 0 0)), none]) h) (hQ : ∀ I h', I.kD = kD → WK I newS → Keep B h0 (L ++ I.e newS) h' → Q (some ⟨I.kW, 0, none⟩) 0 h') : C_world_Open B (some ⟨kD, 0, none⟩) h Q := by
  obtain ⟨f1, f2⟩ := fOf_mt (cs := []) rfl rfl
  refine worldopen_wp E (Row.nil _ _) (Nat.le_refl _) DOk.nil (by simp) (by rw [f1]; simp) (fun hn => ?_) (fun z n _ he => ?_) fun z n ho he I h' h1 h2 h3 => ?_
  · rw [f1, openF_mt] at hn; cases hn
  · rw [f1] at he; simp at he
  · rw [f1, openF_mt] at ho
    cases ho
    exact hQ I h' h1 h2 h3
theorem newS_vlt : VLT newS := by
  obtain ⟨f1, f2⟩ := fOf_mt (cs := []) rfl rfl
  exact open_vlt TomeOk.zero ⟨Int.le_refl _, by decide⟩ (by rw [f1]; decide)
theorem newS_e : newS.e = 1 := by
  obtain ⟨f1, f2⟩ := fOf_mt (cs := []) rfl rfl
  show (fOf []).e + 1 = 1
  rw [f1]
theorem alive21_wp {Q : Bool → Heap → Prop} (hQ : ∀ h', Keep B h [] h' → Q true h') : C_countermandlaw21_alive B h Q := by
  refine C_countermandlaw21_alive.of ?_
  unfold S_countermandlaw21_alive
  refine dnew_wp fun kD h2 E => newworld_wp (L := []) E fun I h4 _ K E1 => ⟨fun _ k7 a7 b7 h8 e8 => ?_, fun e => absurd rfl e⟩
  have E2 := E1.nM a7 b7 e8
  refine wadd_wp (L := []) (os := [(1, 5)]) E2 (fun T h' E' j x hx => ?_) (by simp) fun h9 E3 => ?_
  · match j with
    | 0 =>
      cases hx
      have g := E'.gM (k := k7) (o := .vec TY.acts_Open (plains [.int .i64 1, .int .i64 5]) 2) 15 rfl
      exact ⟨_, rfl, fun hn => (by rw [g] at hn; cases hn), cellH_vec g rfl, cellH_vec g rfl, trivial⟩
    | j + 1 => cases hx
  refine wdone_wp E3 fun h10 E4 => wtallies_wp E4 fun h11 E5 => ⟨by omega, by omega, 5, rfl, fun _ => wblocks_wp E5 ⟨fun _ => wview_wp E5 ⟨_, rfl, 0, E5.cM 0 rfl (i := 3) rfl, Fin.of (hQ _ (E5.take 0))⟩, fun e => absurd rfl e⟩, fun e => absurd rfl e⟩
end
end Go.Proofs.Ytlehephbflgblaa.H
namespace Go.Proofs.Ytlehephbflgblaa.H
open Go Go.RowKit
set_option linter.unusedVariables false
set_option maxRecDepth 100000
structure CallW where
  k : Int
  a : Int
  b : Int
def CallW.cells (x : CallW) : List Value := [.int .i64 x.k, .int .i64 x.a, .int .i64 x.b]
theorem TK.callw_sl : PG.underlying TY.s_countermandlaw21_Call = some (.slice TY.countermandlaw21_Call) := by kernel_rfl
theorem TK.callw_kd : leafB PG 5 TY.countermandlaw21_Call = some [.int .i64, .int .i64, .int .i64] := by kernel_rfl
theorem CallW_arg {H : Type} {enc : TypeId × Value → H} {w : World} {base : Nat} {spare : Nat → Bool} {held : Bool} {a : Option Addr} {len cap : Nat} {d : DataW H} {p : List MemPlace} (h : DataW.Trod enc PG w base spare held TY.s_countermandlaw21_Call (.slice a len cap) d p) :
    ∃ l : List CallW, len = l.length ∧ Reads (roOf w) noHeap a 3 CallW.cells l ∧ ∀ x ∈ l, x.a ≤ 9223372036854775807 :=
  arg_rows CallW.cells (fun x => x.a ≤ 9223372036854775807) TK.callw_sl TK.callw_kd rfl (by omega) (fun vs h => by
    obtain ⟨z1, v1, rfl, _, h1⟩ := h.int
    obtain ⟨z2, v2, rfl, w2, h2⟩ := h1.int
    obtain ⟨z3, v3, rfl, _, h3⟩ := h2.int
    obtain rfl := h3.nil
    refine ⟨⟨z1, z2, z3⟩, rfl, ?_⟩
    exact (wf64 w2).2) h
def talO (t : Tal) : AObj := .vec TY.a_4_int (plains [.int .i64 t.a, .int .i64 t.b, .int .i64 t.c, .int .i64 t.d]) 4
def outO (w : WR) : AObj := .vec TY.a_3_string (plains [.string (wayAt w 0).q, .string (wayAt w 1).q, .string (wayAt w 2).q]) 3
def WPure (w : WR) : Prop := ∀ i, (wayAt w i).s = ByteArray.empty ∧ (wayAt w i).t = ByteArray.empty
theorem WPure.out {w : WR} (h : WPure w) (o : Int × Int) : WPure (outW w o) := fun i => by
  unfold outW; rw [wayAt_set]
  split
  · exact h _
  · exact h i
theorem WPure.zero : WPure (wz, wz, wz) := fun i => by
  have : wayAt (wz, wz, wz) i = wz := by unfold wayAt; (repeat' split) <;> rfl
  rw [this]; exact ⟨rfl, rfl⟩
theorem WPure.all {w : WR} (h : WPure w) (i : Int) : (wayAt w i).all = (wayAt w i).q := by
  obtain ⟨h1, h2⟩ := h i
  unfold Way.all
  rw [h1, h2]
  exact bl_inj (by rw [bl_append, bl_append]; rfl)
section
variable {B : RO} {h0 h h' : Heap} {L M : List (Option (Nat × AObj))} {I : WI} {S : WS} {i j : Int} {Q : Bool → Heap → Prop} {xs : List CallW}
theorem wview_nil {Q : Option Addr → Heap → Prop} (hQ : Q none h) : C_world_World_View B none h Q := by
  refine C_world_World_View.of ?_
  unfold S_world_World_View
  exact ⟨fun _ => Fin.of hQ, fun e => absurd rfl e⟩
theorem Does_J1 (E : Keep B h0 (L ++ I.e S) h) (ht : freeT S.tk 0 = true) (hQ : ∀ h', Keep B h0 [] h' → Q true h') : S_countermandlaw21_WorldDoes_J1 B (some ⟨I.kW, 0, none⟩) h Q := by
  unfold S_countermandlaw21_WorldDoes_J1
  refine C_world_World_Fail.of ?_
  unfold S_world_World_Fail
  refine ⟨fun _ => Fin.of ?_, fun e => absurd rfl e⟩
  refine C_world_World_Force.of ?_
  unfold S_world_World_Force
  refine ⟨fun _ => Fin.of fun k20 a20 b20 h21 e21 => ?_, fun e => absurd rfl e⟩
  have E1 := E.made a20 b20 e21
  refine wadd_nil fun k23 a23 b23 h24 e24 => ?_
  have E2 := E1.made a23 b23 e24
  refine wsend_nil fun k26 a26 b26 h27 e27 => ?_
  have E3 := E2.made a26 b26 e27
  refine wtell_nil ?_
  refine C_world_World_Done.of ?_
  unfold S_world_World_Done
  refine ⟨fun _ => Fin.of ?_, fun e => absurd rfl e⟩
  refine C_world_Open.of ?_
  unfold S_world_Open
  refine vopen_nil fun k11 a11 b11 h12 e12 => ?_
  have E4 := E3.made a11 b11 e12
  refine ⟨_, stores_whole E4.last rfl (by simp) (by simp [isOne]) (by simp), fun e => absurd e (by decide), fun _ => Fin.of ⟨fun _ => ?_, fun e => absurd rfl e⟩⟩
  have E5 := E4.putLast (.vec TY.vault_Found (plains [.string (ba []), .slice none 0 0]) 2)
  generalize Heap.set h12 k11 _ = hh at E5 ⊢
  refine wwrite_nil ⟨fun _ => wview_nil ⟨fun _ => ?_, fun e => absurd rfl e⟩, fun e => absurd rfl e⟩
  refine C_world_World_Wire.of ?_
  unfold S_world_World_Wire
  refine ⟨fun _ => Fin.of ⟨fun _ => ?_, fun e => absurd rfl e⟩, fun e => absurd rfl e⟩
  refine C_world_World_Token.of ?_
  unfold S_world_World_Token
  refine ⟨fun _ => Fin.of ⟨fun _ => ?_, fun e => absurd rfl e⟩, fun e => absurd rfl e⟩
  refine C_world_World_Disk.of ?_
  unfold S_world_World_Disk
  refine ⟨fun _ => Fin.of ⟨fun _ => ?_, fun e => absurd rfl e⟩, fun e => absurd rfl e⟩
  refine C_world_World_Tallies.of ?_
  unfold S_world_World_Tallies
  intro k6 a6 b6 h7 e7
  have E6 := E5.made a6 b6 e7
  refine ⟨fun _ => ⟨_, stores_whole E6.last rfl (by simp) (by simp [isOne]) (by simp), ?_⟩, fun e => absurd rfl e⟩
  have E7 := E6.putLast (.vec TY.a_4_int (plains [.int .i64 0, .int .i64 0, .int .i64 0, .int .i64 0]) 4)
  have g := E7.last
  refine ⟨0, 0, 0, 0, ⟨cellH_vec g rfl, cellH_vec g rfl, cellH_vec g rfl, cellH_vec g rfl, trivial⟩, Fin.of ⟨fun _ => wnotes_nil ?_, fun e => absurd (by decide) e⟩⟩
  refine C_world_World_Blocks.of ?_
  unfold S_world_World_Blocks
  refine ⟨fun _ => Fin.of ⟨fun _ => ?_, fun e => absurd (show IntKind.wrap .i64 (((0 : Nat) : Int) + 0) = 0 by decide) e⟩, fun e => absurd rfl e⟩
  have E8 := (E7.pop.pop.pop.pop.pop)
  have E9 := WE0 E8
  refine wtoken_wp E9 (free_wp (E9.gM 9 rfl) (Fin.of ?_))
  rw [ht]
  exact hQ _ (by have := E9.take 0; simpa using this)
def LD (k12 k14 : Nat) (S : WS) (r2 : Option (Nat × AObj)) : List (Option (Nat × AObj)) := [some (k12, talO S.tl), some (k14, outO S.w), r2]
structure Does (j : Nat) (I : WI) (S : WS) (kW : Nat) : Prop where
  K : WK I S
  T : VLT S
  w : WLe S.w j
  p : WPure S.w
  f0 : 0 ≤ S.f
  f1 : S.f ≤ 9223372036854775807
  n : 0 ≤ S.n ∧ S.n ≤ j
  t : S.nt.length ≤ j
  c : S.cs.length ≤ 3 + 4 * j
  e : S.e ≤ 1 + j
  k : I.kW = kW
  tk : S.tk = tk0
theorem Does_J4 {k12 k14 n2 c3 n84 c85 m70 : Nat} {a1 a83 : Option Addr} {i68 i86 i87 : Int} {J73 : Option Addr → Nat → Nat → Int → Int → Int → Nat → Heap → Prop} {r2 : Option (Nat × AObj)} {jn : Nat} (E : Keep B h0 (LD k12 k14 S r2 ++ I.e S) h) (hw : WLe S.w jn) (hj : jn ≤ 1000) (hp : WPure S.w)
    (go : ∀ h', Keep B h0 (LD k12 k14 S r2 ++ I.e S) h' → Fin B h' (fun h' => ∃ m', m' < m70 ∧ J73 a83 n84 c85 i86 i87 (IntKind.wrap .i64 (i68 + 1)) m' h')) : S_countermandlaw21_WorldDoes_J4 B a1 n2 c3 (some ⟨I.kW, 0, none⟩) k12 k14 i68 m70 J73 a83 n84 c85 i86 i87 h Q := by
  unfold S_countermandlaw21_WorldDoes_J4
  refine ⟨fun q m h' => ∃ j : Nat, j ≤ 3 ∧ q = j ∧ m = 3 - j ∧ Keep B h0 (LD k12 k14 S r2 ++ I.e S) h', 3, Fin.of ⟨0, by omega, rfl, rfl, E⟩, ?_⟩
  clear E
  rintro _ _ h98 ⟨j, hj3, rfl, rfl, E⟩
  refine ⟨fun hlt => ?_, fun hge => go _ E⟩
  have c : ∀ {h1 : Heap}, Keep B h0 (LD k12 k14 S r2 ++ I.e S) h1 → cellH B h1 (Addr.add ⟨k14, 0, none⟩ (Int.toNat (j : Nat) * 1)) = some (.string (wayAt S.w (j : Nat)).q) := fun {h1} E1 => by
    have g := E1.at (k := k14) (o := outO S.w) 1 rfl
    have hc : j = 0 ∨ j = 1 ∨ j = 2 := by omega
    rcases hc with rfl | rfl | rfl <;> exact cellH_vec g rfl
  refine ⟨by omega, by omega, _, c E, wwire_wp (WE0 E) ⟨c E, ?_⟩⟩
  refine wireall_wp (w := S.w) (E.gM 8 rfl) (hw.ok (by omega)) ⟨c E, fun _ => Fin.of ⟨3 - (j + 1), by omega, j + 1, by omega, wrapS (by omega), rfl, E⟩, fun e => absurd ?_ e⟩
  rw [if_pos (by omega), hp.all]
theorem Does_J2 {k12 k14 n2 c3 n84 c85 m70 : Nat} {a1 a83 : Option Addr} {i68 i86 i87 : Int} {J73 : Option Addr → Nat → Nat → Int → Int → Int → Nat → Heap → Prop} {r2 : Option (Nat × AObj)} {jn : Nat} (E : Keep B h0 (LD k12 k14 S r2 ++ I.e S) h) (K : WK I S) (hw : WLe S.w jn) (hj : jn ≤ 1000) (hp : WPure S.w) (hn : S.n = i87) (hl : S.nt.length ≤ 1000) (R : Row r2 (.slice a83 n84 c85) TY.world_Note 2 (S.nt.flatMap NoteW))
    (go : ∀ h', Keep B h0 (LD k12 k14 S r2 ++ I.e S) h' → Fin B h' (fun h' => ∃ m', m' < m70 ∧ J73 a83 n84 c85 i86 i87 (IntKind.wrap .i64 (i68 + 1)) m' h')) : S_countermandlaw21_WorldDoes_J2 B a1 n2 c3 (some ⟨I.kW, 0, none⟩) k12 k14 i68 m70 J73 a83 n84 c85 i86 i87 h Q := by
  unfold S_countermandlaw21_WorldDoes_J2
  refine wnotes_wp (WE0 E) K.nr (by omega) fun a90 n91 c92 r9 h89 R9 E1 => ?_
  rw [List.append_assoc] at E1
  have ct : ∀ {N : List (Option (Nat × AObj))} {h1 : Heap}, Keep B h0 (LD k12 k14 S r2 ++ N) h1 → CellsAt B h1 ⟨k12, 0, none⟩ 0 [.int .i64 S.tl.a, .int .i64 S.tl.b, .int .i64 S.tl.c, .int .i64 S.tl.d] := fun {N h1} E1 => by
    have g := E1.at (k := k12) (o := talO S.tl) 0 rfl
    exact ⟨cellH_vec g rfl, cellH_vec g rfl, cellH_vec g rfl, cellH_vec g rfl, trivial⟩
  have eT : eqL [Value.int .i64 S.tl.a, .int .i64 S.tl.b, .int .i64 S.tl.c, .int .i64 S.tl.d] [.int .i64 S.tl.a, .int .i64 S.tl.b, .int .i64 S.tl.c, .int .i64 S.tl.d] = true := by simp [eqL, leafEq]
  obtain ⟨m9, rd9⟩ := Row.rd (B := B) R9 NoteW_len (by omega)
  obtain ⟨m2, rd2⟩ := Row.rd (B := B) R NoteW_len (by omega)
  rw [List.append_assoc] at E1
  refine ⟨_, _, _, _, ct E1, wtallies_wp E1 fun h139 E2 => ⟨ct E2, fun _ => ⟨fun _ => wblocks_wp E2 ⟨ct E2, fun _ => Fin.of ?_, fun e => absurd hn e⟩, fun e => absurd (by rw [m9, m2]) e⟩, fun e => absurd eT e⟩⟩
  unfold S_countermandlaw21_WorldDoes_J3
  refine ⟨fun q m h' => ∃ j : Nat, j ≤ S.nt.length ∧ q = j ∧ m = S.nt.length - j ∧ Keep B h0 (LD k12 k14 S r2 ++ (I.e S ++ ([] ++ [r9]))) h', S.nt.length, Fin.of ⟨0, by omega, rfl, rfl, E2⟩, ?_⟩
  clear E E1 E2
  rintro _ _ h119 ⟨j, hj3, rfl, rfl, E⟩
  refine ⟨fun hlt => ?_, fun hge => Fin.of (Does_J4 (jn := jn) (by rw [List.nil_append, ← List.append_assoc] at E; exact E.pop) hw hj hp go)⟩
  have hj' : j < S.nt.length := by omega
  have hx := List.getElem?_eq_getElem hj'
  generalize S.nt[j] = x at hx
  obtain ⟨A, f1, _, f3⟩ := rd9 h119 (fun k o e => E.gM 15 (by rw [← e]; rfl)) j x hx
  obtain ⟨A2, g1, _, g3⟩ := rd2 h119 (fun k o e => E.at 2 (by rw [← e]; rfl)) j x hx
  exact ⟨A, f1, by omega, by omega, x.1, x.2, by rw [Int.toNat_natCast]; exact f3, A2, g1, by omega, by omega, x.1, x.2, by rw [Int.toNat_natCast]; exact g3, fun _ => Fin.of ⟨S.nt.length - (j + 1), by omega, j + 1, by omega, wrapS (by omega), rfl, E⟩, fun e => absurd (by simp [eqL, leafEq]) e⟩
theorem WorldDoes_wp {a1 : Option Addr} {c3 : Nat} (hr : Reads B h a1 3 CallW.cells xs) (hi : ∀ x ∈ xs, x.a ≤ 9223372036854775807) (hQ : ∀ h', Keep B h [] h' → Q true h') : C_countermandlaw21_WorldDoes B a1 xs.length c3 h Q := by
  refine C_countermandlaw21_WorldDoes.of ?_
  unfold S_countermandlaw21_WorldDoes
  have nil : ∀ {h1 : Heap} {N : List (Option (Nat × AObj))}, Keep B h N h1 → Keep B h [] h1 := fun E => by have := E.take 0; simpa using this
  refine alive21_wp fun h5 E0 => ⟨fun _ => ⟨fun _ => Fin.of (hQ _ E0), fun hle => ?_⟩, fun e => by cases e⟩
  refine dnew_wp fun kD h7 E1 => ?_
  have E2 : Keep B h ([] ++ [some (kD, dskO [] 0 (.slice none 0 0)), none]) h7 := by have := E0.append E1; exact this
  refine newworld_wp E2 fun I0 h9 _ K E3 k12 a12 b12 h13 e13 k14 a14 b14 h15 e15 => ?_
  have E4 := (E3.made (o := talO ⟨0, 0, 0, 0⟩) a12 b12 e13).made (o := outO (wz, wz, wz)) a14 b14 e15
  have E5 : Keep B h (LD k12 k14 newS none ++ I0.e newS) h15 := E4.picks [15, 16, 99, 0, 1, 2, 3, 4, 5, 6, 7, 8, 9, 10, 11, 12, 13, 14] (by decide)
  clear E0 E1 E2 E3 E4 e13 e15
  generalize hkW : I0.kW = kW
  have D0 : Does 0 I0 newS kW := ⟨K, newS_vlt, WLe.zero, WPure.zero, Int.le_refl _, by decide, ⟨Int.le_refl _, Int.le_refl _⟩, Nat.le_refl _, by show (stl _ _ _ []).length ≤ 3; unfold stl; simp, by rw [newS_e]; omega, hkW, rfl⟩
  refine ⟨fun a63 n64 c65 i66 i67 i68 m h' => ∃ (j : Nat) (I : WI) (S : WS) (r2 : Option (Nat × AObj)), j ≤ xs.length ∧ i68 = j ∧ m = xs.length - j ∧ Does j I S kW ∧ S.f = i66 ∧ S.n = i67 ∧ Row r2 (.slice a63 n64 c65) TY.world_Note 2 (S.nt.flatMap NoteW) ∧ Keep B h (LD k12 k14 S r2 ++ I.e S) h', xs.length, Fin.of ⟨0, I0, newS, none, by omega, rfl, rfl, D0, rfl, rfl, Row.nil _ _, E5⟩, ?_⟩
  clear D0 E5 K
  rintro a63 n64 c65 _ _ _ _ h69 ⟨j, I, S, r2, hj, rfl, rfl, D, rfl, rfl, R, E⟩
  clear hkW
  obtain rfl := D.k
  refine ⟨fun hlt => ?_, fun hge => Fin.of (Does_J1 (L := LD k12 k14 S r2) E (by rw [D.tk]; decide) hQ)⟩
  have hj' : j < xs.length := by omega
  have hx := List.getElem?_eq_getElem hj'
  have hxa := hi _ (List.getElem_mem hj')
  generalize xs[j] = x at hx hxa
  have rds : ∀ h', Keep B h [] h' → Reads B h' a1 3 CallW.cells xs := fun h' E j x hx => by
    obtain ⟨A, f1, f2, f3⟩ := hr j x hx
    exact ⟨A, f1, fun hn => f2 (by
      cases hh : h A.block with
      | none => rfl
      | some o => rw [E.le _ _ hh] at hn; cases hn), E.w.cells f3⟩
  obtain ⟨A, f1, _, f3⟩ := rds h69 (nil E) j x hx
  refine ⟨A, f1, by omega, by omega, x.k, x.a, x.b, by rw [Int.toNat_natCast]; exact f3, fun k79 a79 b79 h80 e80 => ?_⟩
  have E1 := E.made a79 b79 e80
  obtain ⟨h81, st, E2⟩ : ∃ h81, StoresAt ⟨k79, 0, none⟩ h80 0 [.int .i64 x.k, .int .i64 x.a, .int .i64 x.b] h81 ∧ Keep B h (LD k12 k14 S r2 ++ I.e S ++ [some (k79, .vec TY.countermandlaw21_Call (plains x.cells) 3)]) h81 := ⟨_, stores_whole E1.last rfl (by simp) (by simp [isOne]) (by simp), E1.putLast (.vec TY.countermandlaw21_Call (plains x.cells) 3)⟩
  refine ⟨h81, st, ?_⟩
  rw [List.append_assoc] at E2
  have g79 := E2.gM (k := k79) (o := .vec TY.countermandlaw21_Call (plains x.cells) 3) 15 rfl
  have go : ∀ {I' : WI} {S' : WS} {r' : Option (Nat × AObj)} {a' : Option Addr} {n' c' : Nat} {h1 : Heap}, Does (j + 1) I' S' I.kW → Row r' (.slice a' n' c') TY.world_Note 2 (S'.nt.flatMap NoteW) → Keep B h (LD k12 k14 S' r' ++ I'.e S') h1 → S_countermandlaw21_WorldDoes_J2 B a1 xs.length c3 (some ⟨I.kW, 0, none⟩) k12 k14 (j : Nat) (xs.length - j) (fun a63 n64 c65 i66 i67 i68 m h' => ∃ (j : Nat) (I' : WI) (S : WS) (r2 : Option (Nat × AObj)), j ≤ xs.length ∧ i68 = j ∧ m = xs.length - j ∧ Does j I' S I.kW ∧ S.f = i66 ∧ S.n = i67 ∧ Row r2 (.slice a63 n64 c65) TY.world_Note 2 (S.nt.flatMap NoteW) ∧ Keep B h (LD k12 k14 S r2 ++ I'.e S) h') a' n' c' S'.f S'.n h1 Q := fun {I' S' r' a' n' c' h1} D' R' E' => by
    have e := D'.k
    rw [← e]
    exact Does_J2 (jn := j + 1) E' D'.K D'.w (by omega) D'.p rfl (by have := D'.t; omega) R' fun h2 E3 => Fin.of ⟨xs.length - (j + 1), by omega, j + 1, I', S', r', by omega, wrapS (by omega), rfl, by rw [e]; exact D', rfl, rfl, R', E3⟩
  have D1 : Does (j + 1) I S I.kW := ⟨D.K, D.T, fun i => by have := D.w i; omega, D.p, D.f0, D.f1, by have := D.n; omega, by have := D.t; omega, by have := D.c; omega, by have := D.e; omega, D.k, D.tk⟩
  have dropM : ∀ {T : WS} {r : Option (Nat × AObj)} {I : WI} {N : List (Option (Nat × AObj))} {h1 : Heap}, Keep B h (LD k12 k14 T r ++ (I.e T ++ N)) h1 → Keep B h (LD k12 k14 T r ++ I.e T) h1 := fun E => by rw [← List.append_assoc] at E; exact E.popL
  refine ⟨x.k, cellH_vec g79 rfl, fun h0 => ⟨x.b, cellH_vec g79 rfl, fun _ => Fin.of (hQ _ (nil E2)), fun hb1 => ⟨x.b, cellH_vec g79 rfl, fun _ => Fin.of (hQ _ (nil E2)), fun hb2 => Fin.of ?_⟩⟩, fun n0 => ⟨fun h1 => ?_, fun n1 => ⟨fun h2 => ?_, fun n2 => ⟨fun h3 => ?_, fun n3 => ⟨fun h4 => ?_, fun n4 => ⟨fun h5 => ?_, fun n5 => Fin.of (go D1 R (dropM E2))⟩⟩⟩⟩⟩⟩
  · 
    unfold S_countermandlaw21_WorldDoes_J5
    refine ⟨x.a, cellH_vec g79 rfl, x.b, cellH_vec g79 rfl, fun k156 a156 b156 h157 e157 => ?_⟩
    have E3 := E2.nM a156 b156 e157
    rw [List.append_assoc] at E3
    refine wadd_wp (os := [(x.a, x.b)]) E3 (fun T h' E' i y hy => ?_) (by simp) fun h158 E4 => ?_
    · match i with
      | 0 =>
        cases hy
        have g := E'.gM (k := k156) (o := .vec TY.acts_Open (plains [.int .i64 x.a, .int .i64 x.b]) 2) 16 rfl
        exact ⟨_, rfl, fun hn => (by rw [g] at hn; cases hn), cellH_vec g rfl, cellH_vec g rfl, trivial⟩
      | i + 1 => cases hy
    have E4 : Keep B h (LD k12 k14 S r2 ++ (I.e { S with tl := talAdd S.tl (x.a, x.b) } ++ ([some (k79, .vec TY.countermandlaw21_Call (plains x.cells) 3)] ++ [some (k156, .vec 59 (plains [.int .i64 x.a, .int .i64 x.b]) 2)]))) h158 := E4
    have g79 := E4.gM (k := k79) (o := .vec TY.countermandlaw21_Call (plains x.cells) 3) 15 rfl
    have D2 : Does (j + 1) I { S with tl := talAdd S.tl (x.a, x.b) } I.kW := ⟨⟨D.K.o, D.K.nr, D.K.cr, D.K.hk, D.K.ok, D.K.ar⟩, ⟨D.T.tx, D.T.ot, D.T.sz, D.T.il, D.T.ll, D.T.sm, D.T.e1, D.T.e2, D.T.n0, D.T.ar⟩, D1.w, D.p, D.f0, D.f1, D1.n, D1.t, D1.c, D1.e, D.k, D.tk⟩
    have jf : ¬ (0 ≤ x.a ∧ x.a < 4) → S_countermandlaw21_WorldDoes_J6 B a1 xs.length c3 (some ⟨I.kW, 0, none⟩) k12 k14 a63 n64 c65 S.f S.n (j : Nat) (xs.length - j) (fun a63 n64 c65 i66 i67 i68 m h' => ∃ (j : Nat) (I' : WI) (S : WS) (r2 : Option (Nat × AObj)), j ≤ xs.length ∧ i68 = j ∧ m = xs.length - j ∧ Does j I' S I.kW ∧ S.f = i66 ∧ S.n = i67 ∧ Row r2 (.slice a63 n64 c65) TY.world_Note 2 (S.nt.flatMap NoteW) ∧ Keep B h (LD k12 k14 S r2 ++ I'.e S) h') k79 false h158 Q := fun hn => by
      unfold S_countermandlaw21_WorldDoes_J6
      refine ⟨fun e => (by cases e), fun _ => Fin.of ?_⟩
      rw [talAdd_out hn] at E4
      exact go D1 R (dropM E4)
    refine ⟨x.a, cellH_vec g79 rfl, fun h1 => ⟨x.a, cellH_vec g79 rfl, fun h2 => Fin.of ?_, fun h2 => Fin.of (jf (by omega))⟩, fun h1 => Fin.of (jf (by omega))⟩
    unfold S_countermandlaw21_WorldDoes_J6
    have gT := E4.at (k := k12) (o := talO S.tl) 0 rfl
    have hc : x.a = 0 ∨ x.a = 1 ∨ x.a = 2 ∨ x.a = 3 := by omega
    have c5 : cellH B h158 (Addr.add ⟨k12, 0, none⟩ (x.a.toNat * 1)) = some (.int .i64 (talAt S.tl x.a)) := by rcases hc with e | e | e | e <;> rw [e] <;> exact cellH_vec gT rfl
    have s5 : ∀ y : Int, storeH h158 (Addr.add ⟨k12, 0, none⟩ (x.a.toNat * 1)) (.int .i64 y) = some (Heap.set h158 k12 (talO (talSet S.tl x.a y))) := fun y => by rcases hc with e | e | e | e <;> rw [e] <;> exact storeH_vec gT rfl
    exact ⟨fun _ => ⟨x.a, cellH_vec g79 rfl, by omega, by omega, _, c5, x.b, cellH_vec g79 rfl, by omega, by omega, _, s5 _, Fin.of (go (S' := { S with tl := talAdd S.tl (x.a, x.b) }) D2 R (dropM (E4.put (o' := talO (talAdd S.tl (x.a, x.b))) 0 rfl)))⟩, fun e => by cases e⟩
  · 
    have hu : 0 ≤ IntKind.wrap .u8 x.b ∧ IntKind.wrap .u8 x.b < 256 := by rw [wu8]; omega
    refine ⟨x.a, cellH_vec g79 rfl, x.b, cellH_vec g79 rfl, fun k172 a172 b172 h173 e173 => ?_⟩
    have E3 := E2.nM a172 b172 e173
    rw [List.append_assoc] at E3
    refine wsend_wp (os := [(x.a, IntKind.wrap .u8 x.b)]) (n := j) E3 (fun T h' E' i y hy => ?_) (fun o ho => by simp only [List.mem_singleton] at ho; subst ho; exact hu) (by simp) D.w (by omega) fun h174 E4 => ?_
    · match i with
      | 0 =>
        cases hy
        have g := E'.gM (k := k172) (o := .vec TY.acts_Out (plains [.int .i64 x.a, .int .u8 (IntKind.wrap .u8 x.b)]) 2) 16 rfl
        exact ⟨_, rfl, fun hn => (by rw [g] at hn; cases hn), cellH_vec g rfl, cellH_vec g rfl, trivial⟩
      | i + 1 => cases hy
    have E4 : Keep B h (LD k12 k14 S r2 ++ (I.e { S with w := outW S.w (x.a, IntKind.wrap .u8 x.b) } ++ ([some (k79, .vec TY.countermandlaw21_Call (plains x.cells) 3)] ++ [some (k172, .vec 62 (plains [.int .i64 x.a, .int .u8 (IntKind.wrap .u8 x.b)]) 2)]))) h174 := E4
    have g79 := E4.gM (k := k79) (o := .vec TY.countermandlaw21_Call (plains x.cells) 3) 15 rfl
    have D2 : Does (j + 1) I { S with w := outW S.w (x.a, IntKind.wrap .u8 x.b) } I.kW := ⟨⟨D.K.o, D.K.nr, D.K.cr, D.K.hk, D.K.ok, D.K.ar⟩, ⟨D.T.tx, D.T.ot, D.T.sz, D.T.il, D.T.ll, D.T.sm, D.T.e1, D.T.e2, D.T.n0, D.T.ar⟩, D.w.out _, D.p.out _, D.f0, D.f1, D1.n, D1.t, D1.c, D1.e, D.k, D.tk⟩
    have same : ¬ (0 ≤ x.a ∧ x.a < 3) → outW S.w (x.a, IntKind.wrap .u8 x.b) = S.w := fun hn => by unfold outW setW; rw [if_neg (by simp only; omega), if_neg (by simp only; omega), if_neg (by simp only; omega)]
    have jf : ¬ (0 ≤ x.a ∧ x.a < 3) → S_countermandlaw21_WorldDoes_J7 B a1 xs.length c3 (some ⟨I.kW, 0, none⟩) k12 k14 a63 n64 c65 S.f S.n (j : Nat) (xs.length - j) (fun a63 n64 c65 i66 i67 i68 m h' => ∃ (j : Nat) (I' : WI) (S : WS) (r2 : Option (Nat × AObj)), j ≤ xs.length ∧ i68 = j ∧ m = xs.length - j ∧ Does j I' S I.kW ∧ S.f = i66 ∧ S.n = i67 ∧ Row r2 (.slice a63 n64 c65) TY.world_Note 2 (S.nt.flatMap NoteW) ∧ Keep B h (LD k12 k14 S r2 ++ I'.e S) h') k79 false h174 Q := fun hn => by
      unfold S_countermandlaw21_WorldDoes_J7
      refine ⟨fun e => (by cases e), fun _ => Fin.of ?_⟩
      rw [same hn] at E4
      exact go D1 R (dropM E4)
    refine ⟨x.a, cellH_vec g79 rfl, fun h1 => ⟨x.a, cellH_vec g79 rfl, fun h2 => Fin.of ?_, fun h2 => Fin.of (jf (by omega))⟩, fun h1 => Fin.of (jf (by omega))⟩
    unfold S_countermandlaw21_WorldDoes_J7
    have hc : x.a = 0 ∨ x.a = 1 ∨ x.a = 2 := by omega
    have co : ∀ {N : List (Option (Nat × AObj))} {h1 : Heap}, Keep B h (LD k12 k14 S r2 ++ N) h1 → cellH B h1 (Addr.add ⟨k14, 0, none⟩ (x.a.toNat * 1)) = some (.string (wayAt S.w x.a).q) := fun {N h1} E5 => by
      have gT := E5.at (k := k14) (o := outO S.w) 1 rfl
      rcases hc with e | e | e <;> rw [e] <;> exact cellH_vec gT rfl
    refine ⟨fun _ => ⟨x.a, cellH_vec g79 rfl, x.a, cellH_vec g79 rfl, by omega, by omega, _, co E4, x.b, cellH_vec g79 rfl, fun k193 a193 b193 h194 e194 => ?_⟩, fun e => by cases e⟩
    have E5 := E4.nM a193 b193 e194
    have g79 := E5.gM (k := k79) (o := .vec TY.countermandlaw21_Call (plains x.cells) 3) 15 rfl
    have eb : [Value.int .u8 (IntKind.wrap .u8 x.b)] = [UInt8.ofNat (IntKind.wrap .u8 x.b).toNat].map byteV := by
      have : ((UInt8.ofNat (IntKind.wrap .u8 x.b).toNat).toNat : Int) = IntKind.wrap .u8 x.b := by rw [UInt8.toNat_ofNat_of_lt' (by show (IntKind.wrap .u8 x.b).toNat < 256; omega)]; omega
      simp only [List.map_cons, List.map_nil, byteV, this]
    have hsz := (D.w x.a).1
    refine ⟨cellH_vec g79 rfl, cellH_vec g79 rfl, co E5, cellH_vec g79 rfl, bytes_str (bs := [UInt8.ofNat (IntKind.wrap .u8 x.b).toNat]) (E5.gM 17 rfl) eb (by simp) ⟨_, rfl, cellH_vec g79 rfl, cellH_vec g79 rfl, co E5, cellH_vec g79 rfl, by rw [ba_size]; simp; omega, by omega, by omega, ?_⟩⟩
    have gO := E5.at (k := k14) (o := outO S.w) 1 rfl
    have so : storeH h194 (Addr.add ⟨k14, 0, none⟩ (x.a.toNat * 1)) (.string ((wayAt S.w x.a).q ++ ba [UInt8.ofNat (IntKind.wrap .u8 x.b).toNat])) = some (Heap.set h194 k14 (outO (outW S.w (x.a, IntKind.wrap .u8 x.b)))) := by
      rcases hc with e | e | e <;> rw [e] <;> exact storeH_vec gO rfl
    exact ⟨_, so, Fin.of (go (S' := { S with w := outW S.w (x.a, IntKind.wrap .u8 x.b) }) D2 R (dropM (E5.put (o' := outO (outW S.w (x.a, IntKind.wrap .u8 x.b))) 1 rfl)))⟩
  · 
    refine ⟨x.a, cellH_vec g79 rfl, x.b, cellH_vec g79 rfl, fun k210 a210 b210 h211 e211 => ?_⟩
    have E3 := E2.nM a210 b210 e211
    rw [List.append_assoc] at E3
    refine wtell_wp (ns := [x.b]) E3 D.K.nr (fun vn rn nt h' E' i y hy => ?_) (by have := D.t; simp; omega) fun vn rn h212 Rn E4 => ?_
    · match i with
      | 0 =>
        cases hy
        have g := E'.gM (k := k210) (o := .vec TY.int (plains [.int .i64 x.b]) 1) 16 rfl
        exact ⟨_, rfl, fun hn => (by rw [g] at hn; cases hn), cellH_vec g rfl, trivial⟩
      | i + 1 => cases hy
    have E4 : Keep B h (LD k12 k14 S r2 ++ (WI.e { I with vn := vn, rn := rn } { S with nt := S.nt ++ [(x.a, x.b)] } ++ ([some (k79, .vec TY.countermandlaw21_Call (plains x.cells) 3)] ++ [some (k210, .vec 3 (plains [.int .i64 x.b]) 1)]))) h212 := E4
    have g79 := E4.gM (k := k79) (o := .vec TY.countermandlaw21_Call (plains x.cells) 3) 15 rfl
    refine ⟨x.a, cellH_vec g79 rfl, x.b, cellH_vec g79 rfl, fun k215 a215 b215 h216 e216 => ?_⟩
    have hnl := D.t
    refine E4.push1 2 rfl R TK.slc_wnotes TK.zero_wnote rfl (by omega) (by omega) TK.sl_wnotes (ys := NoteW (x.a, x.b)) rfl (NoteW_one _) (by rw [flatMap_length NoteW_len, NoteW_len]; omega) a215 b215 e216 fun a' m' c' r' h217 R' E5 => ⟨a', m', c', rfl, Fin.of ?_⟩
    have R'' : Row r' (.slice a' m' c') TY.world_Note 2 ((S.nt ++ [(x.a, x.b)]).flatMap NoteW) := by rw [List.flatMap_append]; simpa using R'
    have D2 : Does (j + 1) { I with vn := vn, rn := rn } { S with nt := S.nt ++ [(x.a, x.b)] } I.kW := ⟨⟨D.K.o, Rn, D.K.cr, D.K.hk, D.K.ok, D.K.ar⟩, ⟨D.T.tx, D.T.ot, D.T.sz, D.T.il, D.T.ll, D.T.sm, D.T.e1, D.T.e2, D.T.n0, D.T.ar⟩, D1.w, D.p, D.f0, D.f1, D1.n, by show (S.nt ++ [_]).length ≤ _; rw [List.length_append]; simp; omega, D1.c, D1.e, D.k, D.tk⟩
    exact go (S' := { S with nt := S.nt ++ [(x.a, x.b)] }) (I' := { I with vn := vn, rn := rn }) D2 R'' (dropM E5)
  · 
    refine ⟨x.a, cellH_vec g79 rfl, wfail_wp E2 fun h222 E3 => ?_⟩
    have g79 := E3.gM (k := k79) (o := .vec TY.countermandlaw21_Call (plains x.cells) 3) 15 rfl
    refine ⟨x.a, cellH_vec g79 rfl, Fin.of ?_⟩
    have D2 : Does (j + 1) I { S with f := if (0 : Int) > x.a then 0 else x.a } I.kW := ⟨⟨D.K.o, D.K.nr, D.K.cr, D.K.hk, D.K.ok, D.K.ar⟩, D.T.f _, D1.w, D.p, by show 0 ≤ if (0 : Int) > x.a then 0 else x.a; split <;> omega, by show (if (0 : Int) > x.a then 0 else x.a) ≤ 9223372036854775807; split <;> omega, D1.n, D1.t, D1.c, D1.e, D.k, D.tk⟩
    exact go (S' := { S with f := if (0 : Int) > x.a then 0 else x.a }) D2 R (dropM E3)
  · 
    intro k224 a224 b224 h225 e225
    have E3 := E2.nM a224 b224 e225
    have E4 : Keep B h ((LD k12 k14 S r2 ++ [some (k224, drO_file_File (.slice none 0 0)), none]) ++ I.e S) h225 := by
      have := E3.gap
      exact this.picks [0, 1, 2, 19, 99, 3, 4, 5, 6, 7, 8, 9, 10, 11, 12, 13, 14, 15, 16, 17] (by decide)
    have dn := D.n
    have de := D.e
    have dc := D.c
    have df := D.f0
    refine wwrite_wp (xs := []) (q := 3) E4 D.K D.T (by omega) D.f1 ⟨rfl, rfl⟩ (Row.nil _ _) List.Pairwise.nil (fun x hx => by cases hx) fun vd' rd' kl' h226 K' E5 => ?_
    have wk := write_keeps S []
    have hv : (writeS S []).2 = (if S.f > 0 then 7 else 0) ∧ (writeS S []).1.f = (if S.f > 0 then S.f - 1 else S.f) ∧ (writeS S []).1.e ≤ S.e + 1 := by
      unfold writeS
      by_cases h1 : S.f > 0
      · rw [if_pos h1, if_pos h1, if_pos h1]; exact ⟨rfl, rfl, Nat.le_succ _⟩
      · rw [if_neg h1, if_neg h1, if_neg h1, if_neg (by omega)]
        split
        · rw [if_neg (by omega)]; exact ⟨rfl, rfl, Nat.le_refl _⟩
        · exact ⟨rfl, rfl, Nat.le_succ _⟩
    have hT := D.T.write D.K.o.f (xs := []) List.Pairwise.nil (fun x hx => by cases hx)
    generalize hW : writeS S [] = W at *
    obtain ⟨S', e'⟩ := W
    obtain ⟨k1, k2, k3, k4, k5, k6, k7⟩ := wk
    obtain ⟨v1, v2, v3⟩ := hv
    simp only at k1 k2 k3 k4 k5 k6 k7 v1 v2 v3 hT K' E5
    have hf1 := D.f1
    have ef : (if (0 : Int) > IntKind.wrap .i64 (S.f - 1) then 0 else IntKind.wrap .i64 (S.f - 1)) = S'.f := by
      rw [w64 (by omega) (by omega), v2]
      by_cases h1 : S.f > 0
      · rw [if_pos h1, if_neg (by omega)]
      · rw [if_neg h1, if_pos (by omega)]; omega
    have D2 : Does (j + 1) { I with vd := vd', rd := rd', kl := kl' } S' I.kW := ⟨K', hT, by rw [k2]; exact D1.w, by rw [k2]; exact D.p, by rw [v2]; split <;> omega, by rw [v2]; split <;> omega, by rw [k6]; omega, by rw [k5]; exact D1.t, by omega, by omega, D.k, by rw [k3]; exact D.tk⟩
    have E6 : Keep B h (LD k12 k14 S' r2 ++ WI.e { I with vd := vd', rd := rd', kl := kl' } S') h226 := by
      have : LD k12 k14 S' r2 = LD k12 k14 S r2 := by unfold LD; rw [k2, k4]
      rw [this]
      exact E5.picks [0, 1, 2, 5, 6, 7, 8, 9, 10, 11, 12, 13, 14, 15, 16, 17, 18, 19] (by decide)
    have R6 : Row r2 (.slice a63 n64 c65) TY.world_Note 2 (S'.nt.flatMap NoteW) := by rw [k5]; exact R
    have fin := go (S' := S') (I' := { I with vd := vd', rd := rd', kl := kl' }) D2 R6 E6
    show ((((e' : Int) == 7) = decide (S.f > 0)) → _) ∧ _
    rw [ef, ← k6]
    by_cases h1 : S.f > 0
    · rw [if_pos h1] at v1
      subst v1
      exact ⟨fun _ => ⟨fun e => absurd (show (7 : Int) = 0 from e) (by decide), fun _ => ⟨fun _ => Fin.of fin, fun e => absurd rfl e⟩⟩, fun e => absurd (by rw [decide_eq_true h1]; rfl) e⟩
    · rw [if_neg h1] at v1
      subst v1
      exact ⟨fun _ => ⟨fun _ => Fin.of fin, fun e => absurd rfl e⟩, fun e => absurd (by rw [decide_eq_false h1]; rfl) e⟩
  · 
    refine wdone_wp E2 fun h229 E3 => Fin.of ?_
    have dn := D.n
    have hw : IntKind.wrap .i64 (S.n + 1) = S.n + 1 := w64 (by omega) (by omega)
    have D2 : Does (j + 1) I { S with n := IntKind.wrap .i64 (S.n + 1) } I.kW := ⟨⟨D.K.o, D.K.nr, D.K.cr, D.K.hk, D.K.ok, D.K.ar⟩, ⟨D.T.tx, D.T.ot, D.T.sz, D.T.il, D.T.ll, D.T.sm, D.T.e1, D.T.e2, by show 0 ≤ IntKind.wrap .i64 (S.n + 1); omega, D.T.ar⟩, D1.w, D.p, D.f0, D.f1, by show 0 ≤ IntKind.wrap .i64 (S.n + 1) ∧ IntKind.wrap .i64 (S.n + 1) ≤ ((j + 1 : Nat) : Int); omega, D1.t, D1.c, D1.e, D.k, D.tk⟩
    exact go (S' := { S with n := IntKind.wrap .i64 (S.n + 1) }) D2 R (dropM E3)
end
theorem WorldDoes_calls {H : Type} {enc : TypeId × Value → H} (W : World) {a : Option Addr} {len cap : Nat} {d : DataW H} {p : List MemPlace} (k : DataW.Trod enc PG W 0 (fun _ => true) true TY.s_countermandlaw21_Call (.slice a len cap) d p) :
    Calls PG FN.countermandlaw21_WorldDoes #[.slice a len cap] W fun e w' => e = .returned (.bool true) ∧ Below W.heap.size W w' := by
  obtain ⟨l, rfl, hr, hi⟩ := CallW_arg k
  refine Spec.calls (Spec.mono (WorldDoes_wp (Q := fun b _ => b = true) (c3 := cap) hr hi fun _ _ => rfl) ?_)
  rintro v h' ⟨b, rfl, rfl⟩
  rfl
end Go.Proofs.Ytlehephbflgblaa.H
