/- What an attempt does besides (acts): what is told of it, and flushes: contracts. No condition. -/
import Derived.Test.YthloobpjkeodgaaAc
import Derived.Test.YthloobpjkeodgaaHt
namespace Go.Proofs.Ythloobpjkeodgaa.H
open Go
set_option linter.unusedVariables false
set_option maxRecDepth 100000

section
variable {B : RO} {h0 h h' : Heap} {L : List (Option (Nat × AObj))} {i k : Nat} {x : ActV} {s : ActS}
theorem grow0_wp {n : Int} {Q : Option Addr → Nat → Nat → Heap → Prop} (hn0 : 0 ≤ n) (hn : n ≤ 100000) (hQ : ∀ a c r h', Row r (.slice a 0 c) TY.acts_Out 2 [] → Keep B h [r] h' → Q a 0 c h') : C_slices_Grow_s_acts_Out_acts_Out B none 0 0 n h Q := by
  refine C_slices_Grow_s_acts_Out_acts_Out.of ?_
  unfold S_slices_Grow_s_acts_Out_acts_Out
  refine ⟨fun hlt => absurd hlt (by omega), fun _ => Fin.of ?_⟩
  unfold S_slices_Grow_s_acts_Out_acts_Out_J1
  have e1 : IntKind.wrap .i64 (n - IntKind.wrap .i64 (((0 : Nat) : Int) - ((0 : Nat) : Int))) = n := by
    rw [show IntKind.wrap .i64 (((0 : Nat) : Int) - ((0 : Nat) : Int)) = 0 by decide, w64 (by omega) (by omega)]; omega
  rw [e1]
  refine ⟨fun hgt => ⟨by decide, by decide, by decide, ?_⟩, fun _ => Fin.of (hQ _ _ _ _ (Row.nil _ _) (Keep.nil B h).gap)⟩
  refine semH_appendZ0 (ki := .i64) TK.slc_outs TK.zero_out rfl (by omega) (by omega) (by kernel_rfl) hgt (by omega) fun ys v' h' hy ap => ?_
  obtain ⟨r', R', E'⟩ := (Keep.nil B h).gap.appd 0 rfl (Row.nil TY.acts_Out 2) ap
  obtain ⟨a', m', c', rfl⟩ := R'.slice
  have R2 := R'.cut (n := 0) (by omega)
  rw [Nat.zero_mul, List.take_zero] at R2
  refine ⟨a', m', c', rfl, by decide, by decide, by omega, Fin.of ?_⟩
  rw [optAdd0]
  exact hQ _ _ _ _ R2 E'
/-- Two rows, one behind the other. -/
def cat2 (j : Nat) (l1 l2 : List (Int × Int)) : List (Int × Int) := (if 0 < j then l1 else []) ++ (if 1 < j then l2 else [])
theorem concat_wp {q1 q2 m1 m2 c1 c2 : Nat} {a1 a2 : Option Addr} {r1 r2 : Option (Nat × AObj)} {l1 l2 : List (Int × Int)} {Q : Option Addr → Nat → Nat → Heap → Prop} (E : Keep B h0 L h) (hi : L[i]? = some (some (k, .vec TY.s_acts_Out (plains [.slice a1 m1 c1, .slice a2 m2 c2]) 2)))
    (hq1 : L[q1]? = some r1) (hq2 : L[q2]? = some r2) (R1 : Row r1 (.slice a1 m1 c1) TY.acts_Out 2 (l1.flatMap OutC)) (R2 : Row r2 (.slice a2 m2 c2) TY.acts_Out 2 (l2.flatMap OutC)) (hl1 : l1.length ≤ 10000) (hl2 : l2.length ≤ 10000)
    (hQ : ∀ a m c r h', Row r (.slice a m c) TY.acts_Out 2 ((l1 ++ l2).flatMap OutC) → Keep B h0 (L ++ [r]) h' → Q a m c h') : C_slices_Concat_s_acts_Out_acts_Out B (some ⟨k, 0, none⟩) 2 2 h Q := by
  refine C_slices_Concat_s_acts_Out_acts_Out.of ?_
  unfold S_slices_Concat_s_acts_Out_acts_Out
  obtain ⟨rfl, -⟩ := R1.rd (B := B) OutC_len (by omega)
  obtain ⟨rfl, -⟩ := R2.rd (B := B) OutC_len (by omega)
  have one : ∀ j : Nat, j < 2 → j = 0 ∨ j = 1 := fun j hj => by omega
  refine ⟨fun n i m h' => ∃ j : Nat, j ≤ 2 ∧ i = j ∧ m = 2 - j ∧ n = ((cat2 j l1 l2).length : Nat) ∧ h = h', 2, Fin.of ⟨0, by omega, rfl, by omega, rfl, rfl⟩, ?_⟩
  rintro _ _ _ _ ⟨j, hj, rfl, rfl, rfl, rfl⟩
  refine ⟨fun hlt => ?_, fun hge => Fin.of ?_⟩
  · have hj' : j < 2 := by omega
    have hw : IntKind.wrap .i64 ((j : Int) + 1) = ((j + 1 : Nat) : Int) := by rw [w64 (by omega) (by omega)]; omega
    refine ⟨_, rfl, by omega, hlt, ?_⟩
    rw [addr_more, Nat.mul_one, Nat.zero_add, Int.toNat_natCast]
    rcases one j hj' with rfl | rfl
    · refine .inl ⟨a1, _, c1, E.cell i hi rfl, fun hlt0 => ?_, fun _ => Fin.of ⟨1, by omega, 1, by omega, hw, rfl, ?_, rfl⟩⟩
      · have e : IntKind.wrap .i64 (((cat2 0 l1 l2).length : Int) + (l1.length : Int)) = l1.length := by rw [w64 (by simp [cat2] <;> omega) (by simp [cat2] <;> omega)] <;> simp [cat2]
        rw [e] at hlt0; omega
      · rw [w64 (by simp [cat2] <;> omega) (by simp [cat2] <;> omega)] <;> simp [cat2]
    · refine .inl ⟨a2, _, c2, E.cell i hi rfl, fun hlt0 => ?_, fun _ => Fin.of ⟨0, by omega, 2, by omega, hw, rfl, ?_, rfl⟩⟩
      · have e : IntKind.wrap .i64 (((cat2 1 l1 l2).length : Int) + (l2.length : Int)) = l1.length + l2.length := by rw [w64 (by simp [cat2] <;> omega) (by simp [cat2] <;> omega)] <;> simp [cat2]
        rw [e] at hlt0; omega
      · rw [w64 (by simp [cat2] <;> omega) (by simp [cat2] <;> omega)] <;> simp [cat2]
  · have : j = 2 := by omega
    subst this
    unfold S_slices_Concat_s_acts_Out_acts_Out_J1
    refine grow0_wp (by omega) (by simp [cat2] <;> omega) fun a11 c13 r h10 R E10 => ?_
    have E1 := E.append E10
    refine ⟨fun a n c i m h' => ∃ (j : Nat) (r' : Option (Nat × AObj)), j ≤ 2 ∧ i = j ∧ m = 2 - j ∧ Row r' (.slice a n c) TY.acts_Out 2 ((cat2 j l1 l2).flatMap OutC) ∧ Keep B h0 (L ++ [r']) h', 2, Fin.of ⟨0, r, by omega, rfl, by omega, R, E1⟩, ?_⟩
    clear E1 E10 R
    rintro a14 n15 c16 _ _ h18 ⟨j, r', hj, rfl, rfl, R, E1⟩
    have up : ∀ {j : Nat} {x : Option (Nat × AObj)}, L[j]? = some x → (L ++ [r'])[j]? = some x := fun hj => by rw [List.getElem?_append_left (List.getElem?_eq_some_iff.1 hj).1]; exact hj
    refine ⟨fun hlt => ?_, fun hge => Fin.of ?_⟩
    · have hj' : j < 2 := by omega
      have hw : IntKind.wrap .i64 ((j : Int) + 1) = ((j + 1 : Nat) : Int) := by rw [w64 (by omega) (by omega)]; omega
      refine ⟨_, rfl, by omega, hlt, ?_⟩
      rw [addr_more, Nat.mul_one, Nat.zero_add, Int.toNat_natCast]
      have hlast : (L ++ [r'])[L.length]? = some r' := by simp
      have hset : ∀ r'' : Option (Nat × AObj), (L ++ [r']).set L.length r'' = L ++ [r''] := fun r'' => by rw [List.set_append_right _ _ (Nat.le_refl _), Nat.sub_self]; rfl
      have fl1 := flatMap_length OutC_len l1
      have fl2 := flatMap_length OutC_len l2
      rcases one j hj' with rfl | rfl
      · refine .inl ⟨a1, _, c1, E1.cell i (up hi) rfl, ?_⟩
        refine E1.pushS L.length hlast R TK.slc_outs TK.zero_out rfl (by omega) (by omega) TK.sl_outs (R1.src (fun k o e => E1.at q1 (by rw [up hq1, e])) OutC_len (by omega) (fun x y hy => by simp [OutC] at hy; rcases hy with rfl | rfl <;> rfl)) (by simp [cat2, fl1]; omega) fun a' m' c' r'' h'' R' E' => ?_
        rw [hset] at E'
        refine ⟨a', m', c', rfl, Fin.of ⟨1, by omega, 1, r'', by omega, hw, rfl, ?_, E'⟩⟩
        simpa [cat2] using R'
      · refine .inl ⟨a2, _, c2, E1.cell i (up hi) rfl, ?_⟩
        refine E1.pushS L.length hlast R TK.slc_outs TK.zero_out rfl (by omega) (by omega) TK.sl_outs (R2.src (fun k o e => E1.at q2 (by rw [up hq2, e])) OutC_len (by omega) (fun x y hy => by simp [OutC] at hy; rcases hy with rfl | rfl <;> rfl)) (by simp [cat2, fl1, fl2]; omega) fun a' m' c' r'' h'' R' E' => ?_
        rw [hset] at E'
        refine ⟨a', m', c', rfl, Fin.of ⟨0, by omega, 2, r'', by omega, hw, rfl, ?_, E'⟩⟩
        simpa [cat2] using R'
    · have : j = 2 := by omega
      subst this
      have e : cat2 2 l1 l2 = l1 ++ l2 := by simp [cat2]
      rw [e] at R
      exact hQ _ _ _ _ _ R E1
/-- All that goes out. -/
theorem output_wp {Q : Option Addr → Nat → Nat → Heap → Prop} (E : Keep B h0 L h) (A : ActAt L i k x) (W : ARows s x)
    (hQ : ∀ a m c r h', Row r (.slice a m c) TY.acts_Out 2 ((s.outs ++ s.later).flatMap OutC) → Keep B h0 (L ++ [r]) h' → Q a m c h') : C_acts_Acts_Output B (some ⟨k, 0, none⟩) h Q := by
  refine C_acts_Acts_Output.of ?_
  unfold S_acts_Acts_Output
  obtain ⟨a1, m1, c1, ev1⟩ := W.w0.slice
  obtain ⟨a2, m2, c2, ev2⟩ := W.w1.slice
  have R1 := W.w0
  have R2 := W.w1
  rw [ev1] at R1
  rw [ev2] at R2
  have hp : L[i]? = some (some (k, actO (.slice a1 m1 c1) (.slice a2 m2 c2) x.v2 x.v3)) := by rw [← ev1, ← ev2]; exact A.p
  refine ⟨fun e => (by cases e), fun _ => ⟨_, rfl, a1, m1, c1, E.cell i hp rfl, _, rfl, a2, m2, c2, (by rw [addr_more]; exact E.cell i hp rfl), fun k24 a24 b24 h25 e25 => ?_⟩⟩
  have E1 := E.made a24 b24 e25
  have up : ∀ {j : Nat} {x : Option (Nat × AObj)} (y : List (Option (Nat × AObj))), L[j]? = some x → (L ++ y)[j]? = some x := fun y hj => by rw [List.getElem?_append_left (List.getElem?_eq_some_iff.1 hj).1]; exact hj
  refine ⟨E1.cell i (up _ hp) rfl, (by rw [addr_more]; exact E1.cell i (up _ hp) rfl), ?_⟩
  refine concat_wp (i := L.length) (q1 := i + 1) (q2 := i + 2) E1 (by simp) (up _ A.q0) (up _ A.q1) R1 R2 W.l0 W.l1 fun a m c r h' R E' => ?_
  have E2 : Keep B h0 (L ++ [r]) h' := by
    have e0 : L ++ [some (k24, AObj.vec 83 (plains [Value.slice a1 m1 c1, Value.slice a2 m2 c2]) 2)] ++ [r] = L ++ ([some (k24, AObj.vec 83 (plains [Value.slice a1 m1 c1, Value.slice a2 m2 c2]) 2)] ++ [r]) := by rw [List.append_assoc]
    exact E'.drop1
  exact ⟨E'.cell i (by rw [List.append_assoc]; exact up _ hp) rfl, (by rw [addr_more]; exact E'.cell i (by rw [List.append_assoc]; exact up _ hp) rfl), Fin.of (hQ _ _ _ _ _ R E2)⟩
/-- What goes out is told, and gone. -/
theorem flush_wp {Q : Option Addr → Nat → Nat → Heap → Prop} (E : Keep B h0 L h) (A : ActAt L i k x) (W : ARows s x)
    (hQ : ∀ a m c h', Row x.r0 (.slice a m c) TY.acts_Out 2 (s.outs.flatMap OutC) → ARows { s with outs := [] } { x with v0 := .slice none 0 0, r0 := none } → Keep B h0 (L.set i (some (k, actO (.slice none 0 0) x.v1 x.v2 x.v3))) h' → Q a m c h') : C_acts_Acts_Flush B (some ⟨k, 0, none⟩) h Q := by
  refine C_acts_Acts_Flush.of ?_
  unfold S_acts_Acts_Flush
  obtain ⟨a1, m1, c1, ev1⟩ := W.w0.slice
  have R1 := W.w0
  rw [ev1] at R1
  have hp : L[i]? = some (some (k, actO (.slice a1 m1 c1) x.v1 x.v2 x.v3)) := by rw [← ev1]; exact A.p
  refine ⟨fun e => (by cases e), fun _ => ⟨_, rfl, .inl ⟨a1, m1, c1, E.cell i hp rfl, _, rfl, ?_⟩⟩⟩
  obtain ⟨es, E2⟩ := E.store i 0 (.slice none 0 0) hp rfl
  exact ⟨_, es, Fin.of (hQ _ _ _ _ R1 ⟨Row.nil _ _, W.w1, W.w2, W.w3, by simp, W.l1, W.l2, W.l3⟩ E2)⟩
theorem clone_wp {q m c : Nat} {a : Option Addr} {r : Option (Nat × AObj)} {l : List Int} {Q : Option Addr → Nat → Nat → Heap → Prop} (E : Keep B h0 L h) (hq : L[q]? = some r) (R : Row r (.slice a m c) TY.int 1 (l.flatMap NoteC)) (hl : l.length ≤ 10000)
    (hQ : ∀ a' m' c' r' h', Row r' (.slice a' m' c') TY.int 1 (l.flatMap NoteC) → Keep B h0 (L ++ [r']) h' → Q a' m' c' h') : C_slices_Clone_s_int_int B a m c h Q := by
  refine C_slices_Clone_s_int_int.of ?_
  unfold S_slices_Clone_s_int_int
  refine ⟨fun e => Fin.of ?_, fun _ => ?_⟩
  · have hl0 : l.flatMap NoteC = [] := by
      rcases R with ⟨_, _, h2⟩ | ⟨k, m', c', nn, js, e0, e1, _⟩
      · exact h2
      · cases e1; cases e
    exact hQ _ _ _ none _ (by rw [hl0]; exact Row.nil _ _) E.gap
  · intro k8 a8 b8 h9 e9
    have E1 := E.made a8 b8 e9
    have R0 : Row (some (k8, AObj.vec TY.int [] 0)) (.slice (some ⟨k8, 0, none⟩) 0 0) TY.int 1 [] := .inr ⟨k8, 0, 0, 0, [], rfl, rfl, by simp, by omega, by omega⟩
    have up : ∀ {j : Nat} {x : Option (Nat × AObj)} (y : List (Option (Nat × AObj))), L[j]? = some x → (L ++ y)[j]? = some x := fun y hj => by rw [List.getElem?_append_left (List.getElem?_eq_some_iff.1 hj).1]; exact hj
    have fl := flatMap_length NoteC_len l
    refine E1.pushS L.length (by simp) R0 TK.slc_ints TK.zero_int rfl (by omega) (by omega) TK.sl_ints (R.src (fun k o e => E1.at q (by rw [up _ hq, e])) NoteC_len (by omega) (fun x y hy => by simp [NoteC] at hy; rw [hy]; rfl)) (by rw [fl]; simp; omega) fun a' m' c' r'' h'' R' E' => ?_
    rw [List.set_append_right _ _ (Nat.le_refl _), Nat.sub_self] at E'
    exact ⟨a', m', c', rfl, Fin.of (hQ _ _ _ _ _ R' E')⟩
theorem notes_wp {Q : Option Addr → Nat → Nat → Heap → Prop} (E : Keep B h0 L h) (A : ActAt L i k x) (W : ARows s x)
    (hQ : ∀ a m c r h', Row r (.slice a m c) TY.int 1 (s.notes.flatMap NoteC) → Keep B h0 (L ++ [r]) h' → Q a m c h') : C_acts_Acts_Notes B (some ⟨k, 0, none⟩) h Q := by
  refine C_acts_Acts_Notes.of ?_
  unfold S_acts_Acts_Notes
  obtain ⟨a1, m1, c1, ev1⟩ := W.w2.slice
  have R1 := W.w2
  rw [ev1] at R1
  have hp : L[i]? = some (some (k, actO x.v0 x.v1 (.slice a1 m1 c1) x.v3)) := by rw [← ev1]; exact A.p
  refine ⟨fun e => (by cases e), fun _ => ⟨_, rfl, ?_⟩⟩
  rw [addr_more]
  refine .inl ⟨a1, m1, c1, E.cell i hp rfl, clone_wp E A.q2 R1 W.l2 fun a' m' c' r' h' R' E' => Fin.of (hQ _ _ _ _ _ R' E')⟩
end
end Go.Proofs.Ythloobpjkeodgaa.H
