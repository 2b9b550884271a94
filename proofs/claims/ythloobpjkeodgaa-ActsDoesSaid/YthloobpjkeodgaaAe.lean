/- The law ActsMarks. No condition. -/
import Derived.Test.YthloobpjkeodgaaAd
namespace Go.Proofs.Ythloobpjkeodgaa.H
open Go Go.RowKit
set_option linter.unusedVariables false
set_option maxRecDepth 100000

def nilS : Value := .slice none 0 0
theorem eqL_refl_out (x : Int × Int) : eqL (OutC x) (OutC x) = true := by simp [eqL, leafEq, OutC]
theorem eqL_refl_open (x : Int × Int) : eqL (OpenC x) (OpenC x) = true := by simp [eqL, leafEq, OpenC]
def cutA (s : ActS) (i0 i1 i2 i3 : Int) : ActS := ⟨s.outs.take (min s.outs.length i0.toNat), s.later.take (min s.later.length i1.toNat), s.notes.take (min s.notes.length i2.toNat), s.opens.take (min s.opens.length i3.toNat)⟩
section
variable {B : RO} {h0 h h' : Heap} {L : List (Option (Nat × AObj))} {i k : Nat} {x : ActV} {s : ActS}
theorem alive16_wp {Q : Bool → Heap → Prop} (hQ : Q true h) : C_countermandlaw16_alive B h Q := by
  refine C_countermandlaw16_alive.of ?_
  unfold S_countermandlaw16_alive
  intro k2 a2 b2 h3 e3
  have E : Keep B h [some (k2, actO nilS nilS nilS nilS), none] h3 := ((Keep.nil B h).made a2 b2 e3).gap
  refine opened_wp (l := []) (i := 0) (q := 1) E rfl rfl (by decide) (Row.nil _ _) (by simp) (fun hn => absurd (by decide) hn) fun _ _ v' r' h4 R' E4 => ⟨fun _ => ?_, fun e => by cases e⟩
  refine opened_wp (l := [(1, 5)]) (i := 0) (q := 1) E4 rfl rfl (by decide) R' (by simp) (fun hn => absurd (by decide) hn) fun _ _ v' r' h4 R' E4 => ⟨fun _ => Fin.of ?_, fun e => by cases e⟩
  unfold S_countermandlaw16_alive_J1
  refine undos_wp (l := [(1, 5), (2, 3)]) (i := 0) (q := 1) E4 rfl rfl R' (by simp) fun a7 n8 c9 r'' h6 R'' E6 => ?_
  obtain ⟨hm, hrd⟩ := R''.rd (B := B) OpenC_len (by omega)
  have hu : undoL [(1, 5), (2, 3)] = [(2, -3), (1, -5)] := by decide
  rw [hu] at hm hrd
  simp only [List.length_cons, List.length_nil] at hm
  subst hm
  refine ⟨fun _ => ?_, fun hn => absurd rfl hn⟩
  obtain ⟨A, e1, _, e2⟩ := hrd h6 (fun k o e => E6.at 2 (by rw [← e]; rfl)) 0 (2, -3) rfl
  refine ⟨A, e1, by decide, by decide, 2, -3, e2, Fin.ent E6.back (Fin.of ?_)⟩
  have e : decide (eqL [(Value.int .i64 2), (Value.int .i64 (-3))] [(Value.int .i64 2), (Value.int .i64 (-3))] = true) = true := by decide
  rw [e]; exact hQ
/-- The acts' values are slices of so many things. -/
theorem ARows.sl (W : ARows s x) : ∃ a0 c0 a1 c1 a2 c2 a3 c3, x.v0 = .slice a0 s.outs.length c0 ∧ x.v1 = .slice a1 s.later.length c1 ∧ x.v2 = .slice a2 s.notes.length c2 ∧ x.v3 = .slice a3 s.opens.length c3 ∧ s.outs.length ≤ c0 ∧ s.later.length ≤ c1 ∧ s.notes.length ≤ c2 ∧ s.opens.length ≤ c3 := by
  obtain ⟨a0, m0, c0, e0⟩ := W.w0.slice
  obtain ⟨a1, m1, c1, e1⟩ := W.w1.slice
  obtain ⟨a2, m2, c2, e2⟩ := W.w2.slice
  obtain ⟨a3, m3, c3, e3⟩ := W.w3.slice
  have R0 := W.w0; rw [e0] at R0
  have R1 := W.w1; rw [e1] at R1
  have R2 := W.w2; rw [e2] at R2
  have R3 := W.w3; rw [e3] at R3
  obtain ⟨rfl, -⟩ := R0.rd (B := fun _ => none) OutC_len (by omega)
  obtain ⟨rfl, -⟩ := R1.rd (B := fun _ => none) OutC_len (by omega)
  obtain ⟨rfl, -⟩ := R2.rd (B := fun _ => none) NoteC_len (by omega)
  obtain ⟨rfl, -⟩ := R3.rd (B := fun _ => none) OpenC_len (by omega)
  exact ⟨a0, c0, a1, c1, a2, c2, a3, c3, e0, e1, e2, e3, R0.cap, R1.cap, R2.cap, R3.cap⟩
theorem marksA_wp {Q : Int → Int → Int → Int → Heap → Prop} (E : Keep B h0 L h) (A : ActAt L i k x) (W : ARows s x) (hQ : ∀ h', Keep B h0 L h' → Q s.outs.length s.later.length s.notes.length s.opens.length h') : C_acts_Acts_Mark B (some ⟨k, 0, none⟩) h Q := by
  obtain ⟨a0, c0, a1, c1, a2, c2, a3, c3, e0, e1, e2, e3, -⟩ := W.sl
  have hp := A.p
  unfold ActV.o at hp
  rw [e0, e1, e2, e3] at hp
  exact marks_wp E hp hQ
theorem undosA_wp {Q : Option Addr → Nat → Nat → Heap → Prop} (E : Keep B h0 L h) (A : ActAt L i k x) (W : ARows s x)
    (hQ : ∀ a' m' c' r' h', Row r' (.slice a' m' c') TY.acts_Open 2 ((undoL s.opens).flatMap OpenC) → Keep B h0 (L ++ [r']) h' → Q a' m' c' h') : C_acts_Acts_Undo B (some ⟨k, 0, none⟩) h Q :=
  undos_wp E A.p A.q3 W.w3 (by have := W.l3; omega) hQ
theorem backA_wp {i0 i1 i2 i3 : Int} {Q : Option Addr → Nat → Nat → Heap → Prop} (E : Keep B h0 L h) (A : ActAt L i k x) (W : ARows s x)
    (hQ : ∀ a' m' c' r' x' h', Row r' (.slice a' m' c') TY.acts_Open 2 ((undoL (s.opens.drop (min s.opens.length i3.toNat))).flatMap OpenC) → ARows (cutA s i0 i1 i2 i3) x' → Keep B h0 (setA L i k x' ++ [r']) h' → Q a' m' c' h') : C_acts_Acts_Back B (some ⟨k, 0, none⟩) i0 i1 i2 i3 h Q := by
  obtain ⟨a0, c0, a1, c1, a2, c2, a3, c3, e0, e1, e2, e3, d0, d1, d2, d3⟩ := W.sl
  have hp := A.p
  unfold ActV.o at hp
  rw [e0, e1, e2, e3] at hp
  have R0 := W.w0; rw [e0] at R0
  have R1 := W.w1; rw [e1] at R1
  have R2 := W.w2; rw [e2] at R2
  have R3 := W.w3; rw [e3] at R3
  refine back_wp E hp A.q3 (by omega) d0 d1 d2 R3 (by have := W.l3; omega) fun a' m' c' r' h' R' E' => ?_
  have il : i < L.length := (List.getElem?_eq_some_iff.1 A.p).1
  let x' : ActV := { x with v0 := cutV a0 s.outs.length i0, v1 := cutV a1 s.later.length i1, v2 := cutV a2 s.notes.length i2, v3 := cutV a3 s.opens.length i3 }
  have hset : setA L i k x' = L.set i (some (k, x'.o)) := by
    unfold setA
    have g : ∀ {j : Nat} {y : Option (Nat × AObj)}, L[j]? = some y → j ≠ i → (L.set i (some (k, x'.o)))[j]? = some y := fun hj hn => by rw [List.getElem?_set_ne (Ne.symm hn)]; exact hj
    rw [list_set_same (g A.q0 (by omega)), list_set_same (g A.q1 (by omega)), list_set_same (g A.q2 (by omega)), list_set_same (g A.q3 (by omega))]
  refine hQ _ _ _ r' x' h' R' ?_ ?_
  · have t0 := R0.first (n := min s.outs.length i0.toNat) (by omega)
    have t1 := R1.first (n := min s.later.length i1.toNat) (by omega)
    have t2 := R2.first (n := min s.notes.length i2.toNat) (by omega)
    have t3 := R3.first (n := min s.opens.length i3.toNat) (by omega)
    rw [take_flatMap OutC_len] at t0 t1
    rw [take_flatMap NoteC_len] at t2
    rw [take_flatMap OpenC_len] at t3
    have l0 := W.l0
    have l1 := W.l1
    have l2 := W.l2
    have l3 := W.l3
    exact ⟨t0, t1, t2, t3, by simp [cutA]; omega, by simp [cutA]; omega, by simp [cutA]; omega, by simp [cutA]; omega⟩
  · rw [hset, ← List.set_append_left _ _ il]
    exact E'

/-- No more than so many. -/
def ALe (s : ActS) (j : Nat) : Prop := s.outs.length ≤ j ∧ s.later.length ≤ j ∧ s.notes.length ≤ j ∧ s.opens.length ≤ j
theorem ALe.do {j : Nat} (h : ALe s j) (kd a b : Int) : ALe (doA s kd a b) (j + 1) := by
  obtain ⟨h0, h1, h2, h3⟩ := h
  unfold doA
  split
  · split
    · exact ⟨by simp; omega, by simp only; omega, by simp only; omega, by simp only; omega⟩
    · split
      · exact ⟨by simp only; omega, by simp; omega, by simp only; omega, by simp only; omega⟩
      · split
        · exact ⟨by simp only; omega, by simp only; omega, by simp; omega, by simp only; omega⟩
        · exact ⟨by simp only; omega, by simp only; omega, by simp only; omega, by simp; omega⟩
  · exact ⟨by omega, by omega, by omega, by omega⟩
theorem ALe.mono {j j' : Nat} (h : ALe s j) (hj : j ≤ j') : ALe s j' := ⟨Nat.le_trans h.1 hj, Nat.le_trans h.2.1 hj, Nat.le_trans h.2.2.1 hj, Nat.le_trans h.2.2.2 hj⟩
/-- The one has all that the other one has, and more: n opens more. -/
def AExt (s t : ActS) (n : Nat) : Prop := ∃ e0 e1 e2 e3, t = ⟨s.outs ++ e0, s.later ++ e1, s.notes ++ e2, s.opens ++ e3⟩ ∧ e3.length = n
theorem AExt.refl (s : ActS) : AExt s s 0 := ⟨[], [], [], [], by simp, rfl⟩
theorem AExt.do {t : ActS} {n : Nat} (h : AExt s t n) {kd a b : Int} (h0 : 0 ≤ kd) (h4 : kd < 4) : AExt s (doA t kd a b) (if goodA kd a = true ∧ kd = 3 then n + 1 else n) := by
  obtain ⟨e0, e1, e2, e3, rfl, rfl⟩ := h
  unfold doA
  by_cases hg : goodA kd a = true
  · rw [if_pos hg]
    by_cases k0 : kd = 0
    · subst k0
      rw [if_pos rfl, if_neg (by omega)]
      exact ⟨e0 ++ [(a, IntKind.wrap .u8 b)], e1, e2, e3, by simp, rfl⟩
    · by_cases k1 : kd = 1
      · subst k1
        rw [if_neg k0, if_pos rfl, if_neg (by omega)]
        exact ⟨e0, e1 ++ [(a, IntKind.wrap .u8 b)], e2, e3, by simp, rfl⟩
      · by_cases k2 : kd = 2
        · subst k2
          rw [if_neg k0, if_neg k1, if_pos rfl, if_neg (by omega)]
          exact ⟨e0, e1, e2 ++ [a], e3, by simp, rfl⟩
        · rw [if_neg k0, if_neg k1, if_neg k2, if_pos ⟨hg, by omega⟩]
          exact ⟨e0, e1, e2, e3 ++ [(a, b)], by simp, by simp⟩
  · rw [if_neg hg, if_neg (fun hh => hg hh.1)]
    exact ⟨e0, e1, e2, e3, rfl, rfl⟩
theorem AExt.cut {t : ActS} {n : Nat} (h : AExt s t n) : cutA t s.outs.length s.later.length s.notes.length s.opens.length = s ∧ (t.opens.drop (min t.opens.length (Int.toNat (s.opens.length : Nat)))).length = n := by
  obtain ⟨e0, e1, e2, e3, rfl, rfl⟩ := h
  have mn : ∀ {α : Type} (a b : List α), (a ++ b).take (min (a ++ b).length (Int.toNat (a.length : Nat))) = a := fun a b => by
    rw [Int.toNat_natCast, List.length_append, Nat.min_eq_right (by omega), List.take_left]
  refine ⟨?_, ?_⟩
  · unfold cutA
    simp only [mn]
  · simp only [Int.toNat_natCast, List.length_append, List.length_drop]
    omega
structure ActR where
  kind : Int
  a : Int
  b : Int
def ActR.cells (x : ActR) : List Value := [.int .i64 x.kind, .int .i64 x.a, .int .i64 x.b]
end
end Go.Proofs.Ythloobpjkeodgaa.H
