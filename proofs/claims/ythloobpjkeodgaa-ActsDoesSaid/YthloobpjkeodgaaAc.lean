/- What an attempt does besides (acts): sends, notes, flushes, outputs: contracts. No condition. -/
import Derived.Test.YthloobpjkeodgaaAa
import Derived.Test.YthloobpjkeodgaaHs
namespace Go.Proofs.Ythloobpjkeodgaa.H
open Go
set_option linter.unusedVariables false
set_option maxRecDepth 100000

theorem TK.slc_outs : slcB PG TY.s_acts_Out = some (TY.acts_Out, 2, 16) := by kernel_rfl
theorem TK.zero_out : zeroB PG TY.acts_Out = some [.int .i64 0, .int .u8 0] := by kernel_rfl
theorem TK.sl_outs : slT PG TY.s_acts_Out = true := by kernel_rfl
theorem TK.slc_ints : slcB PG TY.s_int = some (TY.int, 1, 8) := by kernel_rfl
theorem TK.zero_int : zeroB PG TY.int = some [.int .i64 0] := by kernel_rfl
theorem TK.sl_ints : slT PG TY.s_int = true := by kernel_rfl

theorem list_set_same {α : Type} {L : List α} {j : Nat} {x : α} (h : L[j]? = some x) : L.set j x = L := by
  obtain ⟨hl, rfl⟩ := List.getElem?_eq_some_iff.1 h
  exact List.set_getElem_self hl

/-- What acts are: four rows. -/
structure ActS where
  outs : List (Int × Int)
  later : List (Int × Int)
  notes : List Int
  opens : List (Int × Int)
structure ActV where
  v0 : Value
  v1 : Value
  v2 : Value
  v3 : Value
  r0 : Option (Nat × AObj)
  r1 : Option (Nat × AObj)
  r2 : Option (Nat × AObj)
  r3 : Option (Nat × AObj)
def ActV.o (x : ActV) : AObj := actO x.v0 x.v1 x.v2 x.v3
def ActV.e (x : ActV) (k : Nat) : List (Option (Nat × AObj)) := [some (k, x.o), x.r0, x.r1, x.r2, x.r3]
def ActV.z : ActV := ⟨.slice none 0 0, .slice none 0 0, .slice none 0 0, .slice none 0 0, none, none, none, none⟩
def ActS.z : ActS := ⟨[], [], [], []⟩
structure ARows (s : ActS) (x : ActV) : Prop where
  w0 : Row x.r0 x.v0 TY.acts_Out 2 (s.outs.flatMap OutC)
  w1 : Row x.r1 x.v1 TY.acts_Out 2 (s.later.flatMap OutC)
  w2 : Row x.r2 x.v2 TY.int 1 (s.notes.flatMap NoteC)
  w3 : Row x.r3 x.v3 TY.acts_Open 2 (s.opens.flatMap OpenC)
  l0 : s.outs.length ≤ 10000
  l1 : s.later.length ≤ 10000
  l2 : s.notes.length ≤ 10000
  l3 : s.opens.length ≤ 10000
theorem ARows.z : ARows ActS.z ActV.z := ⟨Row.nil _ _, Row.nil _ _, Row.nil _ _, Row.nil _ _, by simp [ActS.z], by simp [ActS.z], by simp [ActS.z], by simp [ActS.z]⟩
/-- The acts lie at place i of the list. -/
structure ActAt (L : List (Option (Nat × AObj))) (i k : Nat) (x : ActV) : Prop where
  p : L[i]? = some (some (k, x.o))
  q0 : L[i + 1]? = some x.r0
  q1 : L[i + 2]? = some x.r1
  q2 : L[i + 3]? = some x.r2
  q3 : L[i + 4]? = some x.r3
def setA (L : List (Option (Nat × AObj))) (i k : Nat) (x : ActV) : List (Option (Nat × AObj)) := ((((L.set i (some (k, x.o))).set (i + 1) x.r0).set (i + 2) x.r1).set (i + 3) x.r2).set (i + 4) x.r3
theorem setA_same {L : List (Option (Nat × AObj))} {i k : Nat} {x : ActV} (A : ActAt L i k x) : setA L i k x = L := by
  unfold setA
  rw [list_set_same A.p, list_set_same A.q0, list_set_same A.q1, list_set_same A.q2, list_set_same A.q3]
theorem setA_0 {L : List (Option (Nat × AObj))} {i k : Nat} {x : ActV} (A : ActAt L i k x) (v : Value) (r : Option (Nat × AObj)) : (L.set (i + 1) r).set i (some (k, actO v x.v1 x.v2 x.v3)) = setA L i k { x with v0 := v, r0 := r } := by
  unfold setA
  have h1 : (((L.set i (some (k, ActV.o { x with v0 := v, r0 := r }))).set (i + 1) r)[i + 2]?) = some x.r1 := by rw [List.getElem?_set_ne (by omega), List.getElem?_set_ne (by omega)]; exact A.q1
  have h2 : (((L.set i (some (k, ActV.o { x with v0 := v, r0 := r }))).set (i + 1) r)[i + 3]?) = some x.r2 := by rw [List.getElem?_set_ne (by omega), List.getElem?_set_ne (by omega)]; exact A.q2
  have h3 : (((L.set i (some (k, ActV.o { x with v0 := v, r0 := r }))).set (i + 1) r)[i + 4]?) = some x.r3 := by rw [List.getElem?_set_ne (by omega), List.getElem?_set_ne (by omega)]; exact A.q3
  show _ = (((((L.set i (some (k, ActV.o { x with v0 := v, r0 := r }))).set (i + 1) r).set (i + 2) x.r1).set (i + 3) x.r2).set (i + 4) x.r3)
  rw [list_set_same h1, list_set_same h2, list_set_same h3, List.set_comm _ _ (by omega)]
  rfl
theorem setA_1 {L : List (Option (Nat × AObj))} {i k : Nat} {x : ActV} (A : ActAt L i k x) (v : Value) (r : Option (Nat × AObj)) : (L.set (i + 2) r).set i (some (k, actO x.v0 v x.v2 x.v3)) = setA L i k { x with v1 := v, r1 := r } := by
  unfold setA
  have h1 : (L.set i (some (k, ActV.o { x with v1 := v, r1 := r })))[i + 1]? = some x.r0 := by rw [List.getElem?_set_ne (by omega)]; exact A.q0
  have h2 : (((L.set i (some (k, ActV.o { x with v1 := v, r1 := r }))).set (i + 2) r)[i + 3]?) = some x.r2 := by rw [List.getElem?_set_ne (by omega), List.getElem?_set_ne (by omega)]; exact A.q2
  have h3 : (((L.set i (some (k, ActV.o { x with v1 := v, r1 := r }))).set (i + 2) r)[i + 4]?) = some x.r3 := by rw [List.getElem?_set_ne (by omega), List.getElem?_set_ne (by omega)]; exact A.q3
  show _ = (((((L.set i (some (k, ActV.o { x with v1 := v, r1 := r }))).set (i + 1) x.r0).set (i + 2) r).set (i + 3) x.r2).set (i + 4) x.r3)
  rw [list_set_same h1, list_set_same h2, list_set_same h3, List.set_comm _ _ (by omega)]
  rfl
theorem setA_2 {L : List (Option (Nat × AObj))} {i k : Nat} {x : ActV} (A : ActAt L i k x) (v : Value) (r : Option (Nat × AObj)) : (L.set (i + 3) r).set i (some (k, actO x.v0 x.v1 v x.v3)) = setA L i k { x with v2 := v, r2 := r } := by
  unfold setA
  have h1 : (L.set i (some (k, ActV.o { x with v2 := v, r2 := r })))[i + 1]? = some x.r0 := by rw [List.getElem?_set_ne (by omega)]; exact A.q0
  have h2 : (L.set i (some (k, ActV.o { x with v2 := v, r2 := r })))[i + 2]? = some x.r1 := by rw [List.getElem?_set_ne (by omega)]; exact A.q1
  have h3 : (((L.set i (some (k, ActV.o { x with v2 := v, r2 := r }))).set (i + 3) r)[i + 4]?) = some x.r3 := by rw [List.getElem?_set_ne (by omega), List.getElem?_set_ne (by omega)]; exact A.q3
  show _ = (((((L.set i (some (k, ActV.o { x with v2 := v, r2 := r }))).set (i + 1) x.r0).set (i + 2) x.r1).set (i + 3) r).set (i + 4) x.r3)
  rw [list_set_same h1, list_set_same h2, list_set_same h3, List.set_comm _ _ (by omega)]
  rfl
theorem setA_3 {L : List (Option (Nat × AObj))} {i k : Nat} {x : ActV} (A : ActAt L i k x) (v : Value) (r : Option (Nat × AObj)) : (L.set (i + 4) r).set i (some (k, actO x.v0 x.v1 x.v2 v)) = setA L i k { x with v3 := v, r3 := r } := by
  unfold setA
  have h1 : (L.set i (some (k, ActV.o { x with v3 := v, r3 := r })))[i + 1]? = some x.r0 := by rw [List.getElem?_set_ne (by omega)]; exact A.q0
  have h2 : (L.set i (some (k, ActV.o { x with v3 := v, r3 := r })))[i + 2]? = some x.r1 := by rw [List.getElem?_set_ne (by omega)]; exact A.q1
  have h3 : (L.set i (some (k, ActV.o { x with v3 := v, r3 := r })))[i + 3]? = some x.r2 := by rw [List.getElem?_set_ne (by omega)]; exact A.q2
  show _ = (((((L.set i (some (k, ActV.o { x with v3 := v, r3 := r }))).set (i + 1) x.r0).set (i + 2) x.r1).set (i + 3) x.r2).set (i + 4) r)
  rw [list_set_same h1, list_set_same h2, list_set_same h3, List.set_comm _ _ (by omega)]
  rfl

/-- What an act does. -/
def goodA (k a : Int) : Bool := if k = 0 ∨ k = 1 then decide (0 ≤ a ∧ a < 3) else if k = 2 then true else decide (0 ≤ a ∧ a < 4)
def doA (s : ActS) (k a b : Int) : ActS :=
  if goodA k a = true then
    (if k = 0 then { s with outs := s.outs ++ [(a, IntKind.wrap .u8 b)] } else if k = 1 then { s with later := s.later ++ [(a, IntKind.wrap .u8 b)] } else if k = 2 then { s with notes := s.notes ++ [a] } else { s with opens := s.opens ++ [(a, b)] })
  else s

section
variable {B : RO} {h0 h h' : Heap} {L : List (Option (Nat × AObj))} {i k : Nat} {x : ActV} {s : ActS}
theorem send_wp {t d : Int} {Q : Bool → Heap → Prop} (E : Keep B h0 L h) (A : ActAt L i k x) (W : ARows s x) (hl : s.outs.length < 10000)
    (hF : ¬ (0 ≤ t ∧ t < 3) → Q false h) (hT : 0 ≤ t → t < 3 → ∀ x' h', ARows { s with outs := s.outs ++ [(t, d)] } x' → Keep B h0 (setA L i k x') h' → Q true h') : C_acts_Acts_Send B (some ⟨k, 0, none⟩) t d h Q := by
  refine C_acts_Acts_Send.of ?_
  unfold S_acts_Acts_Send
  refine ⟨fun e => (by cases e), fun _ => ⟨fun h1 => Fin.of (hF (by omega)), fun h1 => ⟨fun h2 => Fin.of (hF (by omega)), fun h2 => Fin.of ?_⟩⟩⟩
  unfold S_acts_Acts_Send_J1
  obtain ⟨a9, n10, c11, ev⟩ := W.w0.slice
  have R := W.w0
  rw [ev] at R
  have hp : L[i]? = some (some (k, actO (.slice a9 n10 c11) x.v1 x.v2 x.v3)) := by rw [← ev]; exact A.p
  refine ⟨_, rfl, .inl ⟨a9, n10, c11, E.cell i hp rfl, fun k13 a13 b13 h14 e14 => ?_⟩⟩
  have hlx := flatMap_length OutC_len s.outs
  refine E.push1 (i + 1) A.q0 R TK.slc_outs TK.zero_out rfl (by omega) (by omega) TK.sl_outs rfl (by simp [isOne]) (by rw [hlx]; simp; omega) a13 b13 e14 fun a' m' c' r' h' R' E' => ?_
  refine ⟨a', m', c', rfl, _, rfl, ?_⟩
  have hi' : (L.set (i + 1) r')[i]? = some (some (k, actO (.slice a9 n10 c11) x.v1 x.v2 x.v3)) := by rw [List.getElem?_set_ne (by omega)]; exact hp
  obtain ⟨es, E2⟩ := E'.store i 0 (.slice a' m' c') hi' rfl
  have E3 := Eq.mp (congrArg (fun z => Keep B h0 z (h'.set k (actO (.slice a' m' c') x.v1 x.v2 x.v3))) (setA_0 A (.slice a' m' c') r')) E2
  refine ⟨_, es, Fin.of (hT (by omega) (by omega) _ _ ?_ E3)⟩
  refine ⟨?_, W.w1, W.w2, W.w3, by simp; omega, W.l1, W.l2, W.l3⟩
  simp only [List.flatMap_append]
  exact R'
theorem later_wp {t d : Int} {Q : Bool → Heap → Prop} (E : Keep B h0 L h) (A : ActAt L i k x) (W : ARows s x) (hl : s.later.length < 10000)
    (hF : ¬ (0 ≤ t ∧ t < 3) → Q false h) (hT : 0 ≤ t → t < 3 → ∀ x' h', ARows { s with later := s.later ++ [(t, d)] } x' → Keep B h0 (setA L i k x') h' → Q true h') : C_acts_Acts_Later B (some ⟨k, 0, none⟩) t d h Q := by
  refine C_acts_Acts_Later.of ?_
  unfold S_acts_Acts_Later
  refine ⟨fun e => (by cases e), fun _ => ⟨fun h1 => Fin.of (hF (by omega)), fun h1 => ⟨fun h2 => Fin.of (hF (by omega)), fun h2 => Fin.of ?_⟩⟩⟩
  unfold S_acts_Acts_Later_J1
  obtain ⟨a9, n10, c11, ev⟩ := W.w1.slice
  have R := W.w1
  rw [ev] at R
  have hp : L[i]? = some (some (k, actO x.v0 (.slice a9 n10 c11) x.v2 x.v3)) := by rw [← ev]; exact A.p
  refine ⟨_, rfl, ?_⟩
  rw [addr_more]
  refine .inl ⟨a9, n10, c11, E.cell i hp rfl, fun k13 a13 b13 h14 e14 => ?_⟩
  have hlx := flatMap_length OutC_len s.later
  refine E.push1 (i + 2) A.q1 R TK.slc_outs TK.zero_out rfl (by omega) (by omega) TK.sl_outs rfl (by simp [isOne]) (by rw [hlx]; simp; omega) a13 b13 e14 fun a' m' c' r' h' R' E' => ?_
  refine ⟨a', m', c', rfl, _, rfl, ?_⟩
  rw [addr_more]
  have hi' : (L.set (i + 2) r')[i]? = some (some (k, actO x.v0 (.slice a9 n10 c11) x.v2 x.v3)) := by rw [List.getElem?_set_ne (by omega)]; exact hp
  obtain ⟨es, E2⟩ := E'.store i 1 (.slice a' m' c') hi' rfl
  have E3 := Eq.mp (congrArg (fun z => Keep B h0 z (h'.set k (actO x.v0 (.slice a' m' c') x.v2 x.v3))) (setA_1 A (.slice a' m' c') r')) E2
  refine ⟨_, es, Fin.of (hT (by omega) (by omega) _ _ ?_ E3)⟩
  refine ⟨W.w0, ?_, W.w2, W.w3, W.l0, by simp; omega, W.l2, W.l3⟩
  simp only [List.flatMap_append]
  exact R'
theorem note_wp {t : Int} {Q : Bool → Heap → Prop} (E : Keep B h0 L h) (A : ActAt L i k x) (W : ARows s x) (hl : s.notes.length < 10000)
    (hT : ∀ x' h', ARows { s with notes := s.notes ++ [t] } x' → Keep B h0 (setA L i k x') h' → Q true h') : C_acts_Acts_Note B (some ⟨k, 0, none⟩) t h Q := by
  refine C_acts_Acts_Note.of ?_
  unfold S_acts_Acts_Note
  refine ⟨fun e => (by cases e), fun _ => ?_⟩
  obtain ⟨a9, n10, c11, ev⟩ := W.w2.slice
  have R := W.w2
  rw [ev] at R
  have hp : L[i]? = some (some (k, actO x.v0 x.v1 (.slice a9 n10 c11) x.v3)) := by rw [← ev]; exact A.p
  refine ⟨_, rfl, ?_⟩
  rw [addr_more]
  refine .inl ⟨a9, n10, c11, E.cell i hp rfl, fun k13 a13 b13 h14 e14 => ?_⟩
  have hlx := flatMap_length NoteC_len s.notes
  refine E.push1 (i + 3) A.q2 R TK.slc_ints TK.zero_int rfl (by omega) (by omega) TK.sl_ints rfl (by simp [isOne]) (by rw [hlx]; simp; omega) a13 b13 e14 fun a' m' c' r' h' R' E' => ?_
  refine ⟨a', m', c', rfl, _, rfl, ?_⟩
  rw [addr_more]
  have hi' : (L.set (i + 3) r')[i]? = some (some (k, actO x.v0 x.v1 (.slice a9 n10 c11) x.v3)) := by rw [List.getElem?_set_ne (by omega)]; exact hp
  obtain ⟨es, E2⟩ := E'.store i 2 (.slice a' m' c') hi' rfl
  have E3 := Eq.mp (congrArg (fun z => Keep B h0 z (h'.set k (actO x.v0 x.v1 (.slice a' m' c') x.v3))) (setA_2 A (.slice a' m' c') r')) E2
  refine ⟨_, es, Fin.of (hT _ _ ?_ E3)⟩
  refine ⟨W.w0, W.w1, ?_, W.w3, W.l0, W.l1, by simp; omega, W.l3⟩
  simp only [List.flatMap_append]
  exact R'
theorem open_wp {t d : Int} {Q : Bool → Heap → Prop} (E : Keep B h0 L h) (A : ActAt L i k x) (W : ARows s x) (hl : s.opens.length < 10000)
    (hF : ¬ (0 ≤ t ∧ t < 4) → Q false h) (hT : 0 ≤ t → t < 4 → ∀ x' h', ARows { s with opens := s.opens ++ [(t, d)] } x' → Keep B h0 (setA L i k x') h' → Q true h') : C_acts_Acts_Opened B (some ⟨k, 0, none⟩) t d h Q := by
  refine opened_wp E A.p A.q3 (by omega) W.w3 (by omega) hF fun t0 t1 v' r' h' R' E' => hT t0 t1 _ _ ?_ (by rw [← setA_3 A]; exact E')
  exact ⟨W.w0, W.w1, W.w2, R', W.l0, W.l1, W.l2, by simp; omega⟩
/-- An act is done: what is told, and what stands then. -/
theorem does_wp {kd a b : Int} {Q : Bool → Heap → Prop} (E : Keep B h0 L h) (A : ActAt L i k x) (W : ARows s x) (l0 : s.outs.length < 10000) (l1 : s.later.length < 10000) (l2 : s.notes.length < 10000) (l3 : s.opens.length < 10000)
    (hQ : ∀ x' h', ARows (doA s kd a b) x' → Keep B h0 (setA L i k x') h' → Q (goodA kd a) h') : C_countermandlaw16_does B (some ⟨k, 0, none⟩) kd a b h Q := by
  refine C_countermandlaw16_does.of ?_
  unfold S_countermandlaw16_does
  intro k6 a6 b6 h7 e7
  have E1 := E.made a6 b6 e7
  have E1' : Keep B h0 L h7 := E1.pop
  have g := E1.last
  have no : goodA kd a = false → Q false h7 := fun hn => by
    have := hQ x h7 (by rw [doA, if_neg (by rw [hn]; decide)]; exact W) (by rw [setA_same A]; exact E1')
    rw [hn] at this; exact this
  refine ⟨_, cellH_vec g rfl, fun h1 => ⟨_, cellH_vec g rfl, _, cellH_vec g rfl, ?_⟩, fun n0 => ⟨fun h1 => ⟨_, cellH_vec g rfl, _, cellH_vec g rfl, ?_⟩, fun n1 => ⟨fun h2 => ⟨_, cellH_vec g rfl, ?_⟩, fun n2 => Fin.of ?_⟩⟩⟩
  · have hg : goodA kd a = decide (0 ≤ a ∧ a < 3) := by rw [goodA, if_pos (.inl h1)]
    refine send_wp E1' A W l0 (fun hn => Fin.of (no (by rw [hg]; exact decide_eq_false hn))) fun t0 t1 x' h' W' E' => Fin.of ?_
    have hgt : goodA kd a = true := by rw [hg]; exact decide_eq_true ⟨t0, t1⟩
    have := hQ x' h' (by rw [doA, if_pos hgt, if_pos h1]; exact W') E'
    rw [hgt] at this; exact this
  · have hg : goodA kd a = decide (0 ≤ a ∧ a < 3) := by rw [goodA, if_pos (.inr h1)]
    refine later_wp E1' A W l1 (fun hn => Fin.of (no (by rw [hg]; exact decide_eq_false hn))) fun t0 t1 x' h' W' E' => Fin.of ?_
    have hgt : goodA kd a = true := by rw [hg]; exact decide_eq_true ⟨t0, t1⟩
    have := hQ x' h' (by rw [doA, if_pos hgt, if_neg n0, if_pos h1]; exact W') E'
    rw [hgt] at this; exact this
  · have hgt : goodA kd a = true := by rw [goodA, if_neg (fun hh => hh.elim n0 n1), if_pos h2]
    refine note_wp E1' A W l2 fun x' h' W' E' => Fin.of ?_
    have := hQ x' h' (by rw [doA, if_pos hgt, if_neg n0, if_neg n1, if_pos h2]; exact W') E'
    rw [hgt] at this; exact this
  · unfold S_countermandlaw16_does_J1
    have hg : goodA kd a = decide (0 ≤ a ∧ a < 4) := by rw [goodA, if_neg (fun hh => hh.elim n0 n1), if_neg n2]
    refine ⟨_, cellH_vec g rfl, _, cellH_vec g rfl, open_wp E1' A W l3 (fun hn => Fin.of (no (by rw [hg]; exact decide_eq_false hn))) fun t0 t1 x' h' W' E' => Fin.of ?_⟩
    have hgt : goodA kd a = true := by rw [hg]; exact decide_eq_true ⟨t0, t1⟩
    have := hQ x' h' (by rw [doA, if_pos hgt, if_neg n0, if_neg n1, if_neg n2]; exact W') E'
    rw [hgt] at this; exact this
end
end Go.Proofs.Ythloobpjkeodgaa.H
