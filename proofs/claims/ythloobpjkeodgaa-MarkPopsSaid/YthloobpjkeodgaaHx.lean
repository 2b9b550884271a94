/- The heap logic, part 24: rows cleared; blocks picked. No condition. -/
import Derived.Test.YthloobpjkeodgaaHw
namespace Go.Proofs.Ythloobpjkeodgaa.H
open Go
set_option linter.unusedVariables false
set_option maxRecDepth 100000

section
variable {P : Program} {B : RO} {h0 h h' : Heap} {L : List (Option (Nat × AObj))} {r : Option (Nat × AObj)} {e : TypeId} {sz : Nat} {xs : List Value} {a : Option Addr} {m c : Nat}
/-- Some of the blocks, in another order. -/
theorem Keep.picks (E : Keep B h0 L h) (is : List Nat) (hn : is.Nodup) : Keep B h0 (is.map fun i => L.getD i none) h := by
  refine E.remap (fun j => is.getD j 0) (fun j y hj => ?_) (fun i j hi hj e => ?_)
  · rw [List.getElem?_map] at hj
    obtain ⟨i, hi, e⟩ := Option.map_eq_some_iff.1 hj
    have : is.getD j 0 = i := by rw [List.getD_eq_getElem?_getD, hi]; rfl
    rw [this]
    rw [List.getD_eq_getElem?_getD] at e
    cases hL : L[i]? with
    | none => rw [hL] at e; cases e
    | some z => rw [hL] at e; exact congrArg some e
  · rw [List.length_map] at hi hj
    rw [List.getD_eq_getElem?_getD, List.getD_eq_getElem?_getD, List.getElem?_eq_getElem hi, List.getElem?_eq_getElem hj] at e
    have e : is[i] = is[j] := e
    have hp := List.pairwise_iff_getElem.1 hn
    rcases Nat.lt_trichotomy i j with h | h | h
    · exact absurd e (hp i j hi hj h)
    · exact h
    · exact absurd e.symm (hp j i hj hi h)
/-- Blocks in the midst are let go. -/
theorem Keep.dropMid {M N : List (Option (Nat × AObj))} (E : Keep B h0 (L ++ (M ++ N)) h) : Keep B h0 (L ++ N) h := by
  refine E.remap (fun i => if i < L.length then i else i + M.length) (fun i z hi => ?_) (fun i j hi hj e => ?_)
  · by_cases h1 : i < L.length
    · rw [List.getElem?_append_left h1] at hi
      rw [if_pos h1, List.getElem?_append_left h1]; exact hi
    · rw [List.getElem?_append_right (by omega)] at hi
      rw [if_neg h1, List.getElem?_append_right (by omega), List.getElem?_append_right (by omega)]
      rw [show i + M.length - L.length - M.length = i - L.length by omega]; exact hi
  · have e : (if i < L.length then i else i + M.length) = (if j < L.length then j else j + M.length) := e
    split at e <;> split at e <;> omega
theorem Keep.rot3 {x y z : Option (Nat × AObj)} (E : Keep B h0 (L ++ [x, y] ++ [z]) h) : Keep B h0 (L ++ [z, x, y]) h := by
  have e1 : L ++ [x, y] ++ [z] = L ++ [x] ++ [y] ++ [z] := by simp
  rw [e1] at E
  have E1 := E.swapLast
  have e2 : L ++ [x] ++ [z] ++ [y] = (L ++ [x] ++ [z]) ++ [y] := rfl
  refine E.remap (fun i => if i < L.length then i else if i = L.length then L.length + 2 else i - 1) (fun i w hi => ?_) (fun i j hi hj e => ?_)
  · have hl := (List.getElem?_eq_some_iff.1 hi).1
    simp only [List.length_append, List.length_cons, List.length_nil] at hl
    have e3 : L ++ [x] ++ [y] ++ [z] = L ++ [x, y, z] := by simp
    rw [e3]
    by_cases h1 : i < L.length
    · rw [List.getElem?_append_left h1] at hi
      rw [if_pos h1, List.getElem?_append_left h1]; exact hi
    · rw [List.getElem?_append_right (by omega)] at hi
      rw [if_neg h1]
      by_cases h2 : i = L.length
      · rw [if_pos h2, List.getElem?_append_right (by omega), show L.length + 2 - L.length = 2 by omega]
        rw [h2, Nat.sub_self] at hi
        exact hi
      · rw [if_neg h2, List.getElem?_append_right (by omega)]
        by_cases h3 : i = L.length + 1
        · rw [h3, show L.length + 1 - L.length = 1 by omega] at hi
          rw [h3, show L.length + 1 - 1 - L.length = 0 by omega]; exact hi
        · have h4 : i = L.length + 2 := by omega
          rw [h4, show L.length + 2 - L.length = 2 by omega] at hi
          rw [h4, show L.length + 2 - 1 - L.length = 1 by omega]; exact hi
  · simp only [List.length_append, List.length_cons, List.length_nil] at hi hj
    have e : (if i < L.length then i else if i = L.length then L.length + 2 else i - 1) = (if j < L.length then j else if j = L.length then L.length + 2 else j - 1) := e
    split at e <;> split at e <;> (try split at e) <;> (try split at e) <;> omega
/-- Things of a slice are noughts. -/
theorem semH_clearSl {t ty : TypeId} {bz n cc : Nat} {A : Addr} {zs ys : List Value} {K : Value → Heap → Prop} (ht : slcB P t = some (e, sz, bz)) (hz : zeroB P e = some zs) (hn : n ≠ 0) (hy : ys = (Builtin.zeroCells zs.toArray n).toList) (st : StoresAt A h 0 ys h') (hk : K (.tuple #[]) h') :
    semH P B (Builtin.clear_ #[t] ty #[.slice (some A) n cc]) h K := by
  unfold slcB at ht
  split at ht
  · rename_i e' hu
    cases hin : P.info? e' with
    | none => rw [hin] at ht; cases ht
    | some inf =>
      rw [hin] at ht
      simp only [Option.map_some, Option.some.injEq, Prod.mk.injEq] at ht
      obtain ⟨rfl, rfl, rfl⟩ := ht
      obtain ⟨n, rfl⟩ : ∃ p, n = p + 1 := ⟨n - 1, by omega⟩
      show semH P B (do
        match ← underlying t, (.slice (some A) (n + 1) cc : Value) with
        | _, .map none | _, .slice none _ _ | _, .slice _ 0 _ => pure ()
        | _, .map (some r) =>
          let .map _ clock ← getObj r | stuck "clear: map expected"
          setObj r (.map #[] clock)
        | .slice elem, .slice (some a) n _ =>
          storeCells a (Builtin.zeroCells (← zeroValue elem).cells n).toList
        | _, _ => stuck "clear: map or slice expected"
        pure (.tuple #[])) h K
      rw [semH_und hu]
      dsimp only
      refine semH_zero hz fun z hzc => ?_
      have e1 : z.cells = zs.toArray := by rw [← hzc]
      rw [e1, ← hy, semH_bind]
      exact semH_storeCells ys 0 st hk
  · cases ht
theorem zeroCells_one (zs : List Value) : (Builtin.zeroCells zs.toArray 1).toList = zs := by
  apply List.ext_getElem
  · simp [zeroCells_size]
  · intro i h1 h2
    simp [Builtin.zeroCells, Nat.mod_eq_of_lt h2]
    rw [List.getElem?_eq_getElem h2]; rfl
end
end Go.Proofs.Ythloobpjkeodgaa.H
