/- Marks: MarkPops: what a step does. No condition. -/
import Derived.Test.YthloobpjkeodgaaNd
import Derived.Test.YthloobpjkeodgaaXfT
namespace Go.Proofs.Ythloobpjkeodgaa.H
open Go Go.RowKit
set_option linter.unusedVariables false
set_option maxRecDepth 100000

section
variable {B : RO} {h0 h h' : Heap} {L M : List (Option (Nat × AObj))} {r rp rS rR : Option (Nat × AObj)} {i k k8 k18 k21 k67 q N n : Nat} {a a1 a52 : Option Addr} {c c3 c54 : Nat} {v vS : Value} {its : List It} {cur : It} {Q : Bool → Heap → Prop} {ps : List (Int × Int)} {l : List MarkR}
theorem PRow.empty (kk : Nat) : PRow (some (kk, AObj.vec TY.countermandref13_Put [] 0)) (.slice (some ⟨kk, 0, none⟩) 0 0) [] := .inr ⟨kk, 0, 0, 0, [], rfl, rfl, by simp, Nat.le_refl _, by simp⟩
theorem PRow.src (R : PRow rp (.slice a ps.length c) ps) (hr : ∀ k o, rp = some (k, o) → h k = some o) : Src B h (.slice a ps.length c) 2 ps.length (ps.flatMap entC_int) := Row.src R hr entC_int_len (by omega) entC_int_one
/-- Puts copied into a new row. -/
theorem copyP {kk j w : Nat} {K : Value → Heap → Prop} (E : Keep B h0 (L ++ M) h) (hj : M[j]? = some (some (kk, AObj.vec TY.countermandref13_Put [] 0))) (hw : M[w]? = some rp) (R : PRow rp (.slice a ps.length c) ps) (hl : ps.length ≤ 1000)
    (hK : ∀ a' c' r' h', PRow r' (.slice a' ps.length c') ps → Keep B h0 (L ++ M.set j r') h' → K (.slice a' ps.length c') h') : semH PG B (Builtin.append_ #[TY.s_countermandref13_Put, TY.s_countermandref13_Put] TY.s_countermandref13_Put #[.slice (some ⟨kk, 0, none⟩) 0 0, .slice a ps.length c]) h K := by
  refine E.pushS (L.length + j) (upM j hj) (PRow.empty kk) TK.slc_put TK.zero_put rfl (by omega) (by omega) TK.sl_put (R.src fun k o e => E.gM w (by rw [hw, e])) (by have hfl := flatMap_length entC_int_len ps; rw [List.flatMap_nil, hfl]; simp; omega) fun a' m' c' r' h' R' E1 => ?_
  rw [setM] at E1
  have hm := Row.len R'
  rw [List.flatMap_nil, List.nil_append, flatMap_length entC_int_len] at hm
  obtain rfl : m' = ps.length := by omega
  exact hK a' c' r' h' (by rw [List.flatMap_nil, List.nil_append] at R'; exact R') E1
theorem ref17_copy_wp {i4 i5 : Int} {w : Nat} {Q : Option Addr → Nat → Nat → Int → Int → Heap → Prop} (E : Keep B h0 (L ++ M) h) (hw : M[w]? = some rp) (R : PRow rp (.slice a ps.length c) ps) (hl : ps.length ≤ 1000)
    (hQ : ∀ a' c' r' h', PRow r' (.slice a' ps.length c') ps → Keep B h0 (L ++ (M ++ [r'])) h' → Q a' ps.length c' i4 i5 h') : C_countermandref17_Copy B a ps.length c i4 i5 h Q := by
  refine C_countermandref17_Copy.of ?_
  unfold S_countermandref17_Copy
  intro k11 a11 b11 h12 e12 k13 a13 b13 h14 e14
  have E1 := E.nM a11 b11 e12
  have E2 := E1.nM a13 b13 e14
  rw [List.append_assoc] at E2
  have m1 : (L ++ M).length = L.length + M.length := List.length_append
  have up : ∀ (j : Nat) {y : Option (Nat × AObj)} {X : List (Option (Nat × AObj))}, X[j]? = some y → (M ++ X)[M.length + j]? = some y := fun j y X hX => by rw [List.getElem?_append_right (by omega), show M.length + j - M.length = j by omega]; exact hX
  refine ⟨_, _, _, E2.cM (M.length + 0) (up 0 rfl) (i := 0) rfl, _, E2.cM (M.length + 0) (up 0 rfl) (i := 1) rfl, _, E2.cM (M.length + 0) (up 0 rfl) (i := 2) rfl, fun k26 a26 b26 h27 e27 => ?_⟩
  have E3 := E2.nM a26 b26 e27
  rw [List.append_assoc] at E3
  refine ⟨E3.cM (M.length + 0) (up 0 rfl) (i := 0) rfl, E3.cM (M.length + 0) (up 0 rfl) (i := 1) rfl, E3.cM (M.length + 0) (up 0 rfl) (i := 2) rfl, copyP (j := M.length + 2) (w := w) E3 (up 2 rfl) (by rw [List.getElem?_append_left (List.getElem?_eq_some_iff.1 hw).1]; exact hw) R hl fun a' c' r' h31 R' E4 => ⟨_, _, _, rfl, ?_⟩⟩
  rw [List.set_append_right _ _ (by omega), show M.length + 2 - M.length = 2 by omega] at E4
  refine ⟨E4.cM (M.length + 0) (up 0 rfl) (i := 0) rfl, E4.cM (M.length + 0) (up 0 rfl) (i := 1) rfl, E4.cM (M.length + 0) (up 0 rfl) (i := 2) rfl, _, stores_whole (E4.gM (M.length + 1) (up 1 rfl)) rfl (by simp) (by simp [isOne]) (by simp), ?_⟩
  have E5 := E4.pM (o' := .vec TY.countermandref17_State (plains [.slice a' ps.length c', .int .i64 i4, .int .i64 i5]) 3) (M.length + 1) (up 1 rfl)
  rw [List.set_append_right _ _ (by omega), show M.length + 1 - M.length = 1 by omega] at E5
  refine ⟨_, _, _, _, _, ⟨E5.cM (M.length + 1) (up 1 rfl) (i := 0) rfl, E5.cM (M.length + 1) (up 1 rfl) (i := 1) rfl, E5.cM (M.length + 1) (up 1 rfl) (i := 2) rfl, trivial⟩, Fin.of (hQ a' c' r' _ R' ?_)⟩
  rw [← List.append_assoc] at E5 ⊢
  exact E5.sM [2] (by decide)
theorem Pops_0 {A C : Int} (E : Keep B h0 (PFx k8 k18 k21 vS rS rR cur ++ its.flatMap It.e ++ (cur.e ++ [some (k67, .vec TY.countermandlaw17_Step (plains [.int .i64 0, .int .i64 A, .int .i64 C]) 3)])) h) (P : PI q its cur vS rS rR a52 c54) (hq : q < N) (hN : N ≤ 80)
    {S : Bool → Heap → Prop} (hS : ∀ b h97, S b h97 = (∃ a100 : Option Addr, ∃ n101 : Nat, ∃ c102 : Nat, cellH B h97 ⟨k21, 0, none⟩ = some (Value.slice a100 n101 c102) ∧ ∃ i105 : Int, cellH B h97 ⟨k67, 1, none⟩ = some (Value.int .i64 (i105)) ∧ ∃ i108 : Int, cellH B h97 ⟨k67, 2, none⟩ = some (Value.int .i64 (i108)) ∧
      (∀ k176 : Nat, h97 k176 = none → B k176 = none → ∀ h177 : Heap, h177 = Heap.set h97 k176 (.vec TY.countermandref13_Put [] 0) →
      cellH B h177 ⟨k21, 0, none⟩ = some (Value.slice a100 n101 c102) ∧ cellH B h177 ⟨k67, 1, none⟩ = some (Value.int .i64 (i105)) ∧ cellH B h177 ⟨k67, 2, none⟩ = some (Value.int .i64 (i108)) ∧
      (semH PG B (Builtin.append_ #[TY.s_countermandref13_Put, TY.s_countermandref13_Put] TY.s_countermandref13_Put #[(Value.slice (some ⟨k176, 0, none⟩) 0 0), (Value.slice a100 n101 c102)]) h177 (fun v h181 => ∃ a182 : Option Addr, ∃ n183 : Nat, ∃ c184 : Nat, v = (Value.slice a182 n183 c184) ∧
      cellH B h181 ⟨k21, 0, none⟩ = some (Value.slice a100 n101 c102) ∧ cellH B h181 ⟨k67, 1, none⟩ = some (Value.int .i64 (i105)) ∧ cellH B h181 ⟨k67, 2, none⟩ = some (Value.int .i64 (i108)) ∧
      ∀ k188 : Nat, h181 k188 = none → B k188 = none → ∀ h189 : Heap, h189 = Heap.set h181 k188 (.vec TY.countermandref13_Put (plains [(Value.int .i64 (i105)), (Value.int .i64 (i108))]) 2) →
      cellH B h189 ⟨k21, 0, none⟩ = some (Value.slice a100 n101 c102) ∧ cellH B h189 ⟨k67, 1, none⟩ = some (Value.int .i64 (i105)) ∧ cellH B h189 ⟨k67, 2, none⟩ = some (Value.int .i64 (i108)) ∧
      S_countermandlaw17_MarkPops_J3 B a1 N c3 k8 k18 k21 a52 its.length c54 (q : Nat) (N - q) (PJ B h0 k8 k18 k21 N) k67 a100 n101 c102 i105 i108 a182 n183 c184 (some ⟨k188, 0, none⟩) 1 1 h189 Q)) ∧
      (∀ k193 : Nat, h177 k193 = none → B k193 = none → ∀ h194 : Heap, h194 = Heap.set h177 k193 (.vec TY.countermandref13_Put (plains [(Value.int .i64 (i105)), (Value.int .i64 (i108))]) 2) →
      cellH B h194 ⟨k21, 0, none⟩ = some (Value.slice a100 n101 c102) ∧ cellH B h194 ⟨k67, 1, none⟩ = some (Value.int .i64 (i105)) ∧ cellH B h194 ⟨k67, 2, none⟩ = some (Value.int .i64 (i108)) ∧
      semH PG B (Builtin.append_ #[TY.s_countermandref13_Put, TY.s_countermandref13_Put] TY.s_countermandref13_Put #[(Value.slice (some ⟨k176, 0, none⟩) 0 0), (Value.slice a100 n101 c102)]) h194 (fun v h198 => ∃ a199 : Option Addr, ∃ n200 : Nat, ∃ c201 : Nat, v = (Value.slice a199 n200 c201) ∧
      cellH B h198 ⟨k21, 0, none⟩ = some (Value.slice a100 n101 c102) ∧ cellH B h198 ⟨k67, 1, none⟩ = some (Value.int .i64 (i105)) ∧ cellH B h198 ⟨k67, 2, none⟩ = some (Value.int .i64 (i108)) ∧
      S_countermandlaw17_MarkPops_J3 B a1 N c3 k8 k18 k21 a52 its.length c54 (q : Nat) (N - q) (PJ B h0 k8 k18 k21 N) k67 a100 n101 c102 i105 i108 a199 n200 c201 (some ⟨k193, 0, none⟩) 1 1 h198 Q))) ∧
      (∀ k205 : Nat, h97 k205 = none → B k205 = none → ∀ h206 : Heap, h206 = Heap.set h97 k205 (.vec TY.countermandref13_Put (plains [(Value.int .i64 (i105)), (Value.int .i64 (i108))]) 2) →
      cellH B h206 ⟨k21, 0, none⟩ = some (Value.slice a100 n101 c102) ∧ cellH B h206 ⟨k67, 1, none⟩ = some (Value.int .i64 (i105)) ∧ cellH B h206 ⟨k67, 2, none⟩ = some (Value.int .i64 (i108)) ∧
      ∀ k210 : Nat, h206 k210 = none → B k210 = none → ∀ h211 : Heap, h211 = Heap.set h206 k210 (.vec TY.countermandref13_Put [] 0) →
      cellH B h211 ⟨k21, 0, none⟩ = some (Value.slice a100 n101 c102) ∧ cellH B h211 ⟨k67, 1, none⟩ = some (Value.int .i64 (i105)) ∧ cellH B h211 ⟨k67, 2, none⟩ = some (Value.int .i64 (i108)) ∧
      semH PG B (Builtin.append_ #[TY.s_countermandref13_Put, TY.s_countermandref13_Put] TY.s_countermandref13_Put #[(Value.slice (some ⟨k210, 0, none⟩) 0 0), (Value.slice a100 n101 c102)]) h211 (fun v h215 => ∃ a216 : Option Addr, ∃ n217 : Nat, ∃ c218 : Nat, v = (Value.slice a216 n217 c218) ∧
      cellH B h215 ⟨k21, 0, none⟩ = some (Value.slice a100 n101 c102) ∧ cellH B h215 ⟨k67, 1, none⟩ = some (Value.int .i64 (i105)) ∧ cellH B h215 ⟨k67, 2, none⟩ = some (Value.int .i64 (i108)) ∧
      S_countermandlaw17_MarkPops_J3 B a1 N c3 k8 k18 k21 a52 its.length c54 (q : Nat) (N - q) (PJ B h0 k8 k18 k21 N) k67 a100 n101 c102 i105 i108 a216 n217 c218 (some ⟨k205, 0, none⟩) 1 1 h215 Q)))) :
    C_draft_Draft_int_Put B (some ⟨cur.x.kd, 0, none⟩) A C h S := by
  have hp := P.cu.pl
  have hsort : SortD cur.s.d := by rw [P.cu.d]; exact dOf_sort _
  have hdl : cur.s.d.length ≤ 1000 := by rw [P.cu.d]; have := dOf_len cur.ps; omega
  refine put_int_wp (i := (PFx k8 k18 k21 vS rS rR cur ++ its.flatMap It.e).length + 0) E ⟨upM 0 rfl, upM 1 rfl⟩ P.cu.o.d hsort (by omega) fun vd rd h97 Rd E1 => ?_
  rw [setM, show (PFx k8 k18 k21 vS rS rR cur ++ its.flatMap It.e).length + 0 + 1 = (PFx k8 k18 k21 vS rS rR cur ++ its.flatMap It.e).length + 1 from rfl, setM] at E1
  rw [hS]
  have E2 : Keep B h0 (PFx k8 k18 k21 vS rS rR cur ++ its.flatMap It.e ++ [some (cur.x.kd, drO_int vd), rd, some (cur.x.ks, shO cur.x.kf), some (cur.x.kf, drO_file_File cur.x.vf), cur.x.rf, some (cur.x.kc, curO cur.s), cur.rp, some (k67, .vec TY.countermandlaw17_Step (plains [.int .i64 0, .int .i64 A, .int .i64 C]) 3)]) h97 := E1
  clear E1 E
  have hM7 : ∀ {X : List (Option (Nat × AObj))} (j : Nat), j < 7 → ([some (cur.x.kd, drO_int vd), rd, some (cur.x.ks, shO cur.x.kf), some (cur.x.kf, drO_file_File cur.x.vf), cur.x.rf, some (cur.x.kc, curO cur.s), cur.rp, some (k67, .vec TY.countermandlaw17_Step (plains [.int .i64 0, .int .i64 A, .int .i64 C]) 3)] ++ X)[j]? = ({ cur with x := { cur.x with vd := vd, rd := rd }, s := { cur.s with d := insD cur.s.d A C } } : It).e[j]? := fun {X} j hj => by
    match j, hj with
    | 0, _ => rfl
    | 1, _ => rfl
    | 2, _ => rfl
    | 3, _ => rfl
    | 4, _ => rfl
    | 5, _ => rfl
    | 6, _ => rfl
  refine ⟨_, _, _, E2.cell 3 rfl (j := 0) rfl, _, E2.cM 7 rfl (i := 1) rfl, _, E2.cM 7 rfl (i := 2) rfl, fun k176 a176 b176 h177 e177 => ?_, fun k205 a205 b205 h206 e206 => ?_⟩
  · have E3 := E2.nM a176 b176 e177
    refine ⟨E3.cell 3 rfl (j := 0) rfl, E3.cM 7 rfl (i := 1) rfl, E3.cM 7 rfl (i := 2) rfl, ?_, fun k193 a193 b193 h194 e194 => ?_⟩
    · refine copyP (j := 8) (w := 6) E3 rfl rfl P.cu.pr (by omega) fun a' c' r' h181 R' E4 => ⟨_, _, _, rfl, E4.cell 3 rfl (j := 0) rfl, E4.cM 7 rfl (i := 1) rfl, E4.cM 7 rfl (i := 2) rfl, fun k188 a188 b188 h189 e189 => ?_⟩
      have E5 := E4.nM a188 b188 e189
      exact ⟨E5.cell 3 rfl (j := 0) rfl, E5.cM 7 rfl (i := 1) rfl, E5.cM 7 rfl (i := 2) rfl, Pops_J3 (t := 8) (u := 9) (w := 7) E5 P hq hN hM7 Rd rfl R' rfl (by omega) rfl (by omega) (by omega)⟩
    · have E4 := E3.nM a193 b193 e194
      refine ⟨E4.cell 3 rfl (j := 0) rfl, E4.cM 7 rfl (i := 1) rfl, E4.cM 7 rfl (i := 2) rfl, copyP (j := 8) (w := 6) E4 rfl rfl P.cu.pr (by omega) fun a' c' r' h198 R' E5 => ⟨_, _, _, rfl, E5.cell 3 rfl (j := 0) rfl, E5.cM 7 rfl (i := 1) rfl, E5.cM 7 rfl (i := 2) rfl, ?_⟩⟩
      exact Pops_J3 (t := 8) (u := 9) (w := 7) E5 P hq hN hM7 Rd rfl R' rfl (by omega) rfl (by omega) (by omega)
  · have E3 := E2.nM a205 b205 e206
    refine ⟨E3.cell 3 rfl (j := 0) rfl, E3.cM 7 rfl (i := 1) rfl, E3.cM 7 rfl (i := 2) rfl, fun k210 a210 b210 h211 e211 => ?_⟩
    have E4 := E3.nM a210 b210 e211
    refine ⟨E4.cell 3 rfl (j := 0) rfl, E4.cM 7 rfl (i := 1) rfl, E4.cM 7 rfl (i := 2) rfl, copyP (j := 9) (w := 6) E4 rfl rfl P.cu.pr (by omega) fun a' c' r' h215 R' E5 => ⟨_, _, _, rfl, E5.cell 3 rfl (j := 0) rfl, E5.cM 7 rfl (i := 1) rfl, E5.cM 7 rfl (i := 2) rfl, ?_⟩⟩
    exact Pops_J3 (t := 9) (u := 8) (w := 7) E5 P hq hN hM7 Rd rfl R' rfl (by omega) rfl (by omega) (by omega)
end
end Go.Proofs.Ythloobpjkeodgaa.H
