/- Blocks of one's own, the last ones told in a list of their own. No condition. -/
import Derived.Test.YthloobpjkeodgaaHx
namespace Go.Proofs.Ythloobpjkeodgaa.H
open Go Go.RowKit
set_option linter.unusedVariables false
set_option maxRecDepth 100000

section
variable {B : RO} {h0 h h' : Heap} {L M : List (Option (Nat × AObj))} {j k n : Nat} {o o' : AObj}
theorem upM (j : Nat) {x : Option (Nat × AObj)} (hj : M[j]? = some x) : (L ++ M)[L.length + j]? = some x := by
  rw [List.getElem?_append_right (by omega), show L.length + j - L.length = j by omega]; exact hj
theorem Keep.gM (E : Keep B h0 (L ++ M) h) (j : Nat) (hj : M[j]? = some (some (k, o))) : h k = some o := E.at (L.length + j) (upM j hj)
theorem Keep.cM (E : Keep B h0 (L ++ M) h) (j : Nat) {i n : Nat} {t : TypeId} {fs : List Fld} {v : Value} (hj : M[j]? = some (some (k, .vec t fs n))) (hi : fs[i]? = some (.plain v)) : cellH B h ⟨k, i, none⟩ = some v := cellH_vec (E.gM j hj) hi
theorem Keep.start (E : Keep B h0 L h) : Keep B h0 (L ++ []) h := by rw [List.append_nil]; exact E
theorem Keep.nM (E : Keep B h0 (L ++ M) h) (hk : h k = none) (hb : B k = none) (e : h' = h.set k o) : Keep B h0 (L ++ (M ++ [some (k, o)])) h' := by
  rw [← List.append_assoc]; exact E.made hk hb e
theorem Keep.pM (E : Keep B h0 (L ++ M) h) (j : Nat) (hj : M[j]? = some (some (k, o))) : Keep B h0 (L ++ M.set j (some (k, o'))) (h.set k o') := by
  have := E.put (o' := o') (L.length + j) (upM j hj)
  rwa [List.set_append_right _ _ (by omega), show L.length + j - L.length = j by omega] at this
theorem setM (j : Nat) (x : Option (Nat × AObj)) : (L ++ M).set (L.length + j) x = L ++ M.set j x := by
  rw [List.set_append_right _ _ (by omega), show L.length + j - L.length = j by omega]
theorem Keep.tM (E : Keep B h0 (L ++ M) h) (n : Nat) : Keep B h0 (L ++ M.take n) h := by
  have := E.take (L.length + n)
  rwa [List.take_length_add_append] at this
theorem Keep.zM (E : Keep B h0 (L ++ M) h) : Keep B h0 L h := E.popL
theorem Keep.vM (E : Keep B h0 (L ++ M) h) (j : Nat) {k nn : Nat} {t : TypeId} {fs gs : List Value} (hj : M[j]? = some (some (k, .vec t (plains (fs ++ gs)) nn))) (ys : List Value) (ho : ∀ y ∈ ys, isOne y = true) (o : Nat) (hf : fs.length = o) (hn : o + ys.length ≤ nn) :
    ∃ h', StoresAt ⟨k, o, none⟩ h 0 ys h' ∧ Keep B h0 (L ++ M.set j (some (k, .vec t (plains (fs ++ ys ++ gs.drop ys.length)) nn))) h' := by
  obtain ⟨h', s1, E1⟩ := E.storesV (L.length + j) (upM j hj) ys ho o hf hn
  rw [setM] at E1
  exact ⟨h', s1, E1⟩
theorem Keep.sM (E : Keep B h0 (L ++ M) h) (is : List Nat) (hn : is.Nodup) : Keep B h0 (L ++ is.map fun i => M.getD i none) h := by
  refine E.remap (fun i => if i < L.length then i else L.length + is.getD (i - L.length) 0) (fun i y hy => ?_) (fun i j hi hj e => ?_)
  · by_cases h1 : i < L.length
    · simp only [if_pos h1]
      rw [List.getElem?_append_left h1] at hy
      rw [List.getElem?_append_left h1]; exact hy
    · simp only [if_neg h1]
      rw [List.getElem?_append_right (by omega), List.getElem?_map] at hy
      cases hq : is[i - L.length]? with
      | none => rw [hq] at hy; cases hy
      | some q =>
        rw [hq] at hy
        simp only [Option.map_some, Option.some.injEq] at hy
        rw [List.getD_eq_getElem?_getD] at hy ⊢
        rw [hq]
        simp only [Option.getD_some]
        cases hm : M[q]? with
        | none => rw [hm] at hy; cases hy
        | some z => rw [hm] at hy; simp only [Option.getD_some] at hy; subst hy; exact upM q hm
  · rw [List.length_append, List.length_map] at hi hj
    have e : (if i < L.length then i else L.length + is.getD (i - L.length) 0) = (if j < L.length then j else L.length + is.getD (j - L.length) 0) := e
    split at e <;> split at e
    · exact e
    · omega
    · omega
    · rename_i h1 h2
      rw [List.getD_eq_getElem?_getD, List.getD_eq_getElem?_getD, List.getElem?_eq_getElem (by omega), List.getElem?_eq_getElem (by omega)] at e
      simp only [Option.getD_some] at e
      have e2 : is[i - L.length]'(by omega) = is[j - L.length]'(by omega) := by omega
      have hp := List.pairwise_iff_getElem.1 hn
      rcases Nat.lt_trichotomy (i - L.length) (j - L.length) with h | h | h
      · exact absurd e2 (hp _ _ (by omega) (by omega) h)
      · omega
      · exact absurd e2.symm (hp _ _ (by omega) (by omega) h)
end
end Go.Proofs.Ythloobpjkeodgaa.H
