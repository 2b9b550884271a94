/- What an attempt does besides (acts): contracts. No condition. -/
import Derived.Test.YthloobpjkeodgaaXdT
import Derived.Test.YthloobpjkeodgaaHr
import Derived.Test.YthloobpjkeodgaaMa
namespace Go.Proofs.Ythloobpjkeodgaa.H
open Go
set_option linter.unusedVariables false
set_option maxRecDepth 100000

def OpenC (x : Int × Int) : List Value := [.int .i64 x.1, .int .i64 x.2]
theorem OpenC_len (x : Int × Int) : (OpenC x).length = 2 := rfl
def OutC (x : Int × Int) : List Value := [.int .i64 x.1, .int .u8 x.2]
theorem OutC_len (x : Int × Int) : (OutC x).length = 2 := rfl
def NoteC (x : Int) : List Value := [.int .i64 x]
theorem NoteC_len (x : Int) : (NoteC x).length = 1 := rfl
def negD (x : Int × Int) : Int × Int := (x.1, IntKind.wrap .i64 (0 - x.2))
def undoL (l : List (Int × Int)) : List (Int × Int) := l.reverse.map negD
def actO (v0 v1 v2 v3 : Value) : AObj := .vec TY.acts_Acts (plains [v0, v1, v2, v3]) 4
theorem TK.slc_opens : slcB PG TY.s_acts_Open = some (TY.acts_Open, 2, 16) := by kernel_rfl
theorem TK.zero_open : zeroB PG TY.acts_Open = some [.int .i64 0, .int .i64 0] := by kernel_rfl
theorem TK.sl_opens : slT PG TY.s_acts_Open = true := by kernel_rfl

/-- A row, from its end on. -/
def bwOf (l : List (Int × Int)) : List (Int × Int × Int) := (l.zipIdx.map fun p => ((p.2 : Int), p.1)).reverse
def bwC (x : Int × Int × Int) : List Value := [.int .i64 x.1, .agg #[.int .i64 x.2.1, .int .i64 x.2.2]]
theorem bwOf_len (l : List (Int × Int)) : (bwOf l).length = l.length := by simp [bwOf]
theorem bwOf_get (l : List (Int × Int)) (q : Nat) (hq : q < l.length) : (bwOf l)[q]? = some (((l.length - 1 - q : Nat) : Int), l[l.length - 1 - q]) := by
  unfold bwOf
  rw [List.getElem?_reverse (by simpa using hq), List.getElem?_map, List.length_map, List.length_zipIdx, List.getElem?_zipIdx]
  rw [List.getElem?_eq_getElem (by omega)]
  simp
def bwF (k5 : Nat) : Value := Value.func (.func FN.slices_Backward_s_acts_Open_acts_Open_1) #[] #[(Value.pointer (some ⟨k5, 0, none⟩))]

section
variable {B : RO} {h0 h h' : Heap} {L : List (Option (Nat × AObj))} {r : Option (Nat × AObj)} {a : Option Addr} {m c k : Nat} {l : List (Int × Int)}
theorem bw_wp {Q : Value → Heap → Prop} (hQ : ∀ k, h k = none → B k = none → Q (bwF k) (h.set k (.vec TY.s_acts_Open [.plain (.slice a m c)] 1))) : C_slices_Backward_s_acts_Open_acts_Open B a m c h Q := by
  refine C_slices_Backward_s_acts_Open_acts_Open.of ?_
  unfold S_slices_Backward_s_acts_Open_acts_Open
  intro k a1 b1 h4 e4
  subst e4
  exact Fin.of (hQ k a1 b1)
def bwG (k5 : Nat) (r : Option (Nat × AObj)) (a : Option Addr) (m c : Nat) (h : Heap) : Prop := h k5 = some (.vec TY.s_acts_Open [.plain (.slice a m c)] 1) ∧ ∀ k o, r = some (k, o) → h k = some o
theorem bw_ins {k5 : Nat} : Ins (bwG k5 r a m c) := by
  rintro h k o hk ⟨g1, g2⟩
  exact ⟨Heap.get_new hk g1, fun k' o' e => Heap.get_new hk (g2 k' o' e)⟩
theorem bw_iter {k5 : Nat} (hlen : l.length ≤ 1000000000) (hrd : RowRd B r a 2 OpenC l) : Iter PG B (bwF k5) ((bwOf l).map bwC) (bwG k5 r a l.length c) := by
  refine ⟨_, _, _, rfl, TG.slices_Backward_s_acts_Open_acts_Open_1, fun y J X h hy hG h0 hcall => ?_⟩
  have main : C_slices_Backward_s_acts_Open_acts_Open_1 B y ⟨k5, 0, none⟩ h (fun h' => Fin B h' (fun h'' => J ((bwOf l).map bwC).length h'' ∨ X h'')) := by
    refine C_slices_Backward_s_acts_Open_acts_Open_1.of ?_
    unfold S_slices_Backward_s_acts_Open_acts_Open_1
    obtain ⟨g1, g2⟩ := hG 0 h h0
    refine .inl ⟨a, l.length, c, cellH_vec g1 rfl, ?_⟩
    refine ⟨fun i m' h' => ∃ j : Nat, j ≤ l.length ∧ i = (l.length : Int) - 1 - j ∧ m' = l.length - j ∧ J j h', l.length, Fin.of ⟨0, by omega, ?_, by omega, h0⟩, ?_⟩
    · rw [w64 (by omega) (by omega)]; omega
    rintro _ _ h8 ⟨j, hj, rfl, rfl, hJ⟩
    obtain ⟨g1, g2⟩ := hG j h8 hJ
    refine ⟨fun hge => ?_, fun hlt => Fin.of ?_⟩
    · have hj' : j < l.length := by omega
      have e1 : (l.length : Int) - 1 - j = ((l.length - 1 - j : Nat) : Int) := by omega
      rw [e1]
      obtain ⟨A, e, _, q⟩ := hrd h8 g2 (l.length - 1 - j) _ (List.getElem?_eq_getElem (by omega))
      refine .inl ⟨a, l.length, c, cellH_vec g1 rfl, A, e, by omega, by omega, l[l.length - 1 - j].1, l[l.length - 1 - j].2, q, ?_⟩
      have hc := hcall j h8 (bwC (((l.length - 1 - j : Nat) : Int), l[l.length - 1 - j])) (by
        rw [List.getElem?_map, bwOf_get l j hj']; rfl) hJ
      refine CallV.mono ?_ hc
      rintro v h27 ⟨h28, t1, hor⟩
      rcases hor with ⟨rfl, hJ'⟩ | ⟨rfl, hX⟩
      · refine ⟨true, rfl, fun _ => ⟨h28, t1, l.length - (j + 1), by omega, j + 1, by omega, ?_, rfl, hJ'⟩, fun e => by cases e⟩
        rw [w64 (by omega) (by omega)]; omega
      · exact ⟨false, rfl, fun e => (by cases e), fun _ => ⟨h28, t1, Fin.of (.inr hX)⟩⟩
    · have : j = l.length := by omega
      subst this
      refine Fin.of (.inl ?_)
      rw [List.length_map, bwOf_len]
      exact hJ
  exact Spec.mono main fun v h' q => q.2
theorem undo_wp {Q : Option Addr → Nat → Nat → Heap → Prop} (hlen : l.length ≤ 100000) (hrd : RowRd B r a 2 OpenC l) (hr : ∀ k o, r = some (k, o) → h k = some o)
    (hQ : ∀ a' m' c' r' h', Row r' (.slice a' m' c') TY.acts_Open 2 ((undoL l).flatMap OpenC) → Keep B h [r'] h' → Q a' m' c' h') : C_acts_undo B a l.length c h Q := by
  refine C_acts_undo.of ?_
  unfold S_acts_undo
  intro k7 a7 b7 h8 e8
  have E := (Keep.nil B h).made a7 b7 e8
  refine bw_wp fun k5 a5 b5 => ?_
  have E1 := E.new (o := .vec TY.s_acts_Open [.plain (.slice a l.length c)] 1) a5 b5
  have it := bw_iter (B := B) (k5 := k5) (c := c) (l := l) (by omega) hrd
  refine ⟨bwOf l, bwG k5 r a l.length c, fun q h' => ∃ v r', Row r' v TY.acts_Open 2 (((l.reverse.take q).map negD).flatMap OpenC) ∧ Keep B h [some (k7, .vec TY.s_acts_Open (plains [v]) 1), some (k5, .vec TY.s_acts_Open [.plain (.slice a l.length c)] 1), r'] h', it, bw_ins, ?_, Fin.of ⟨_, none, Row.nil _ _, E1.gap⟩, ?_, ?_⟩
  · rintro q h' ⟨v, r', R, E⟩
    exact ⟨E.at 1 rfl, fun k o e => E.le _ _ (hr k o e)⟩
  · rintro q h15 i i12 i13 hg ⟨v, r', R, E⟩
    have hq : q < l.length := by have := (List.getElem?_eq_some_iff.1 hg).1; rw [bwOf_len] at this; exact this
    rw [bwOf_get l q hq] at hg
    simp only [Option.some.injEq, Prod.mk.injEq] at hg
    obtain ⟨_, hx⟩ := hg
    intro k19 a19 b19 h20 e20
    have E2 := E.made a19 b19 e20
    refine ⟨_, stores_whole (E2.at 3 rfl) rfl (by simp) (by simp [isOne]) (by simp), ?_⟩
    have E3 := E2.put (o' := .vec TY.acts_Open (plains [.int .i64 i12, .int .i64 i13]) 2) 3 rfl
    obtain ⟨a22, n23, c24, rfl⟩ := R.slice
    refine .inl ⟨a22, n23, c24, E3.cell 0 rfl rfl, _, E3.cell 3 rfl rfl, _, E3.cell 3 rfl rfl, fun k28 a28 b28 h29 e29 => ?_⟩
    have hlx := flatMap_length OpenC_len ((l.reverse.take q).map negD)
    have hlq : ((l.reverse.take q).map negD).length = q := by rw [List.length_map, List.length_take, List.length_reverse]; omega
    refine E3.push1 2 rfl R TK.slc_opens TK.zero_open rfl (by omega) (by omega) TK.sl_opens rfl (by simp [isOne]) (by rw [hlx, hlq]; simp; omega) a28 b28 e29 fun a' m' c' r'' h30 R' E4 => ?_
    obtain ⟨es, E5⟩ := E4.store 0 0 (.slice a' m' c') rfl rfl
    refine ⟨a', m', c', rfl, _, es, Fin.of ⟨_, r'', ?_, E5.take 3⟩⟩
    have hxe : (l.reverse.take (q + 1)).map negD = (l.reverse.take q).map negD ++ [negD (i12, i13)] := by
      rw [List.take_succ_eq_append_getElem (by rw [List.length_reverse]; omega), List.map_append, List.getElem_reverse]
      have : l[l.length - 1 - q] = (i12, i13) := by rw [hx]
      simp only [this]
      rfl
    rw [hxe, List.flatMap_append]
    exact R'
  · rintro h15 ⟨v, r', R, E⟩
    obtain ⟨a', m', c', rfl⟩ := R.slice
    refine .inl ⟨a', m', c', E.cell 0 rfl rfl, Fin.of (hQ _ _ _ r' _ ?_ (E.pick 2 rfl))⟩
    rw [bwOf_len, ← List.length_reverse, List.take_length] at R
    exact R
theorem minX (m : Nat) (i : Int) : (if (m : Int) < (if (0 : Int) > i then (0 : Int) else i) then (m : Int) else (if (0 : Int) > i then (0 : Int) else i)) = ((min m i.toNat : Nat) : Int) := by
  split <;> split <;> omega
theorem first_open_wp {i : Int} {Q : Option Addr → Nat → Nat → Heap → Prop} (hmc : m ≤ c) (hQ : Q a (min m i.toNat) (min m i.toNat) h) : C_acts_first_acts_Open B a m c i h Q := by
  refine C_acts_first_acts_Open.of ?_
  unfold S_acts_first_acts_Open
  rw [minX, Int.toNat_natCast]
  refine ⟨by omega, Int.le_refl _, by omega, Fin.of ?_⟩
  have e : (if min m i.toNat = 0 then a else Option.map (fun x => Addr.add x (0 * 2)) a) = a := by
    split
    · rfl
    · cases a <;> rfl
  exact e.symm ▸ hQ
theorem first_out_wp {i : Int} {Q : Option Addr → Nat → Nat → Heap → Prop} (hmc : m ≤ c) (hQ : Q a (min m i.toNat) (min m i.toNat) h) : C_acts_first_acts_Out B a m c i h Q := by
  refine C_acts_first_acts_Out.of ?_
  unfold S_acts_first_acts_Out
  rw [minX, Int.toNat_natCast]
  refine ⟨by omega, Int.le_refl _, by omega, Fin.of ?_⟩
  have e : (if min m i.toNat = 0 then a else Option.map (fun x => Addr.add x (0 * 2)) a) = a := by
    split
    · rfl
    · cases a <;> rfl
  exact e.symm ▸ hQ
theorem first_int_wp {i : Int} {Q : Option Addr → Nat → Nat → Heap → Prop} (hmc : m ≤ c) (hQ : Q a (min m i.toNat) (min m i.toNat) h) : C_acts_first_int B a m c i h Q := by
  refine C_acts_first_int.of ?_
  unfold S_acts_first_int
  rw [minX, Int.toNat_natCast]
  refine ⟨by omega, Int.le_refl _, by omega, Fin.of ?_⟩
  have e : (if min m i.toNat = 0 then a else Option.map (fun x => Addr.add x (0 * 1)) a) = a := by
    split
    · rfl
    · cases a <;> rfl
  exact e.symm ▸ hQ
theorem opened_wp {i q : Nat} {v0 v1 v2 v3 : Value} {t d : Int} {Q : Bool → Heap → Prop} (E : Keep B h0 L h) (hi : L[i]? = some (some (k, actO v0 v1 v2 v3))) (hq : L[q]? = some r) (hne : q ≠ i) (R : Row r v3 TY.acts_Open 2 (l.flatMap OpenC)) (hlen : l.length ≤ 100000)
    (hF : ¬ (0 ≤ t ∧ t < 4) → Q false h) (hT : 0 ≤ t → t < 4 → ∀ v' r' h', Row r' v' TY.acts_Open 2 ((l ++ [(t, d)]).flatMap OpenC) → Keep B h0 ((L.set q r').set i (some (k, actO v0 v1 v2 v'))) h' → Q true h') : C_acts_Acts_Opened B (some ⟨k, 0, none⟩) t d h Q := by
  refine C_acts_Acts_Opened.of ?_
  unfold S_acts_Acts_Opened
  refine ⟨fun e => (by cases e), fun _ => ⟨fun h1 => Fin.of (hF (by omega)), fun h1 => ⟨fun h2 => Fin.of (hF (by omega)), fun h2 => Fin.of ?_⟩⟩⟩
  unfold S_acts_Acts_Opened_J1
  obtain ⟨a9, n10, c11, rfl⟩ := R.slice
  refine ⟨_, rfl, ?_⟩
  rw [addr_more]
  refine .inl ⟨a9, n10, c11, E.cell i hi rfl, fun k13 a13 b13 h14 e14 => ?_⟩
  have hlx := flatMap_length OpenC_len l
  refine E.push1 q hq R TK.slc_opens TK.zero_open rfl (by omega) (by omega) TK.sl_opens rfl (by simp [isOne]) (by rw [hlx]; simp; omega) a13 b13 e14 fun a' m' c' r' h' R' E' => ?_
  refine ⟨a', m', c', rfl, _, rfl, ?_⟩
  rw [addr_more]
  have hi' : (L.set q r')[i]? = some (some (k, actO v0 v1 v2 (.slice a9 n10 c11))) := by rw [List.getElem?_set_ne hne]; exact hi
  obtain ⟨es, E2⟩ := E'.store i 3 (.slice a' m' c') hi' rfl
  refine ⟨_, es, Fin.of (hT (by omega) (by omega) _ r' _ ?_ E2)⟩
  rw [List.flatMap_append]
  exact R'
theorem opened_nil {t d : Int} {Q : Bool → Heap → Prop} (hQ : Q false h) : C_acts_Acts_Opened B none t d h Q := by
  refine C_acts_Acts_Opened.of ?_
  unfold S_acts_Acts_Opened
  exact ⟨fun _ => Fin.of hQ, fun e => absurd rfl e⟩
theorem undos_wp {i q : Nat} {v0 v1 v2 v3 : Value} {Q : Option Addr → Nat → Nat → Heap → Prop} (E : Keep B h0 L h) (hi : L[i]? = some (some (k, actO v0 v1 v2 v3))) (hq : L[q]? = some r) (R : Row r v3 TY.acts_Open 2 (l.flatMap OpenC)) (hlen : l.length ≤ 100000)
    (hQ : ∀ a' m' c' r' h', Row r' (.slice a' m' c') TY.acts_Open 2 ((undoL l).flatMap OpenC) → Keep B h0 (L ++ [r']) h' → Q a' m' c' h') : C_acts_Acts_Undo B (some ⟨k, 0, none⟩) h Q := by
  refine C_acts_Acts_Undo.of ?_
  unfold S_acts_Acts_Undo
  obtain ⟨a8, n9, c10, rfl⟩ := R.slice
  refine ⟨fun e => (by cases e), fun _ => ⟨_, rfl, ?_⟩⟩
  rw [addr_more]
  refine .inl ⟨a8, n9, c10, E.cell i hi rfl, ?_⟩
  obtain ⟨hm, hrd⟩ := R.rd (B := B) OpenC_len (by omega)
  rw [hm]
  exact undo_wp hlen hrd (fun k o e => E.at q (by rw [hq, e])) fun a' m' c' r' h' R' E' => Fin.of (hQ _ _ _ _ _ R' (E.append E'))
theorem undos_nil {Q : Option Addr → Nat → Nat → Heap → Prop} (hQ : Q none 0 0 h) : C_acts_Acts_Undo B none h Q := by
  refine C_acts_Acts_Undo.of ?_
  unfold S_acts_Acts_Undo
  exact ⟨fun _ => Fin.of hQ, fun e => absurd rfl e⟩
theorem marks_wp {i : Nat} {a0 a1 a2 a3 : Option Addr} {m0 m1 m2 m3 c0 c1 c2 c3 : Nat} {Q : Int → Int → Int → Int → Heap → Prop} (E : Keep B h0 L h) (hi : L[i]? = some (some (k, actO (.slice a0 m0 c0) (.slice a1 m1 c1) (.slice a2 m2 c2) (.slice a3 m3 c3))))
    (hQ : ∀ h', Keep B h0 L h' → Q m0 m1 m2 m3 h') : C_acts_Acts_Mark B (some ⟨k, 0, none⟩) h Q := by
  refine C_acts_Acts_Mark.of ?_
  unfold S_acts_Acts_Mark
  intro k6 a6 b6 h7 e7
  have E1 := E.made a6 b6 e7
  have E1' : Keep B h0 L h7 := E1.pop
  refine ⟨fun e => (by cases e), fun _ => ⟨_, rfl, a0, m0, c0, E1'.cell i hi rfl, _, rfl, a1, m1, c1, ?_, _, rfl, a2, m2, c2, ?_, _, rfl, a3, m3, c3, ?_, ?_⟩⟩
  · rw [addr_more]; exact E1'.cell i hi rfl
  · rw [addr_more]; exact E1'.cell i hi rfl
  · rw [addr_more]; exact E1'.cell i hi rfl
  refine ⟨_, stores_whole E1.last rfl (by simp) (by simp [isOne]) (by simp), ?_⟩
  have E2 := E1.putLast (.vec TY.acts_Mark (plains [.int .i64 (m0 : Nat), .int .i64 (m1 : Nat), .int .i64 (m2 : Nat), .int .i64 (m3 : Nat)]) 4)
  refine ⟨_, _, _, _, ⟨cellH_vec (Heap.set_same _ _ _) rfl, cellH_vec (Heap.set_same _ _ _) rfl, cellH_vec (Heap.set_same _ _ _) rfl, cellH_vec (Heap.set_same _ _ _) rfl, trivial⟩, Fin.of (hQ _ E2.pop)⟩
/-- What is left of a row. -/
def cutV (a : Option Addr) (m : Nat) (i : Int) : Value := .slice a (min m i.toNat) (min m i.toNat)
theorem back_wp {i q : Nat} {a0 a1 a2 a3 : Option Addr} {m0 m1 m2 m3 c0 c1 c2 c3 : Nat} {i0 i1 i2 i3 : Int} {Q : Option Addr → Nat → Nat → Heap → Prop} (E : Keep B h0 L h) (hi : L[i]? = some (some (k, actO (.slice a0 m0 c0) (.slice a1 m1 c1) (.slice a2 m2 c2) (.slice a3 m3 c3)))) (hq : L[q]? = some r) (hne : q ≠ i)
    (d0 : m0 ≤ c0) (d1 : m1 ≤ c1) (d2 : m2 ≤ c2) (R : Row r (.slice a3 m3 c3) TY.acts_Open 2 (l.flatMap OpenC)) (hlen : l.length ≤ 100000)
    (hQ : ∀ a' m' c' r' h', Row r' (.slice a' m' c') TY.acts_Open 2 ((undoL (l.drop (min m3 i3.toNat))).flatMap OpenC) → Keep B h0 ((L ++ [r']).set i (some (k, actO (cutV a0 m0 i0) (cutV a1 m1 i1) (cutV a2 m2 i2) (cutV a3 m3 i3)))) h' → Q a' m' c' h') : C_acts_Acts_Back B (some ⟨k, 0, none⟩) i0 i1 i2 i3 h Q := by
  refine C_acts_Acts_Back.of ?_
  unfold S_acts_Acts_Back
  intro k9 a9 b9 h10 e10
  have E1 := E.made a9 b9 e10
  have il : i < L.length := (List.getElem?_eq_some_iff.1 hi).1
  have ql : q < L.length := (List.getElem?_eq_some_iff.1 hq).1
  have up : ∀ {j : Nat} {x : Option (Nat × AObj)} (y : List (Option (Nat × AObj))), L[j]? = some x → (L ++ y)[j]? = some x := fun y hj => by rw [List.getElem?_append_left (List.getElem?_eq_some_iff.1 hj).1]; exact hj
  have d3 := R.cap
  have hk9 : ∀ {L' : List (Option (Nat × AObj))}, L'.length = L.length → (L' ++ [some (k9, AObj.vec TY.acts_Mark (plains [.int .i64 i0, .int .i64 i1, .int .i64 i2, .int .i64 i3]) 4)])[L.length]? = some (some (k9, .vec TY.acts_Mark (plains [.int .i64 i0, .int .i64 i1, .int .i64 i2, .int .i64 i3]) 4)) := fun hl => by rw [← hl]; simp
  refine ⟨fun e => (by cases e), fun _ => ⟨_, rfl, a0, m0, c0, E1.cell i (up _ hi) rfl, by decide, by decide, _, E1.cell L.length (hk9 rfl) rfl, first_out_wp d0 ⟨E1.cell i (up _ hi) rfl, E1.cell L.length (hk9 rfl) rfl, _, rfl, ?_⟩⟩⟩
  obtain ⟨e2, E2⟩ := E1.store i 0 (cutV a0 m0 i0) (up _ hi) rfl
  rw [List.set_append_left _ _ il] at E2
  have g2 : (L.set i (some (k, actO (cutV a0 m0 i0) (.slice a1 m1 c1) (.slice a2 m2 c2) (.slice a3 m3 c3))))[i]? = some (some (k, actO (cutV a0 m0 i0) (.slice a1 m1 c1) (.slice a2 m2 c2) (.slice a3 m3 c3))) := by rw [List.getElem?_set_self il]
  have up2 : ∀ {j : Nat} {x : Option (Nat × AObj)} {L' : List (Option (Nat × AObj))} (y : List (Option (Nat × AObj))), L'[j]? = some x → (L' ++ y)[j]? = some x := fun y hj => by rw [List.getElem?_append_left (List.getElem?_eq_some_iff.1 hj).1]; exact hj
  refine ⟨_, e2, _, rfl, a1, m1, c1, (by rw [addr_more]; exact E2.cell i (up2 _ g2) rfl), by decide, by decide, _, E2.cell L.length (hk9 (by simp)) rfl, first_out_wp d1 ⟨(by rw [addr_more]; exact E2.cell i (up2 _ g2) rfl), E2.cell L.length (hk9 (by simp)) rfl, _, rfl, ?_⟩⟩
  obtain ⟨e3, E3⟩ := E2.store i 1 (cutV a1 m1 i1) (up2 _ g2) rfl
  rw [List.set_append_left _ _ (by simpa using il), List.set_set] at E3
  have g3 : (L.set i (some (k, actO (cutV a0 m0 i0) (cutV a1 m1 i1) (.slice a2 m2 c2) (.slice a3 m3 c3))))[i]? = some (some (k, actO (cutV a0 m0 i0) (cutV a1 m1 i1) (.slice a2 m2 c2) (.slice a3 m3 c3))) := by rw [List.getElem?_set_self il]
  refine ⟨_, (by rw [addr_more]; exact e3), _, rfl, a2, m2, c2, (by rw [addr_more]; exact E3.cell i (up2 _ g3) rfl), by decide, by decide, _, E3.cell L.length (hk9 (by simp)) rfl, first_int_wp d2 ⟨(by rw [addr_more]; exact E3.cell i (up2 _ g3) rfl), E3.cell L.length (hk9 (by simp)) rfl, _, rfl, ?_⟩⟩
  obtain ⟨e4, E4⟩ := E3.store i 2 (cutV a2 m2 i2) (up2 _ g3) rfl
  rw [List.set_append_left _ _ (by simpa using il), List.set_set] at E4
  have g4 : (L.set i (some (k, actO (cutV a0 m0 i0) (cutV a1 m1 i1) (cutV a2 m2 i2) (.slice a3 m3 c3))))[i]? = some (some (k, actO (cutV a0 m0 i0) (cutV a1 m1 i1) (cutV a2 m2 i2) (.slice a3 m3 c3))) := by rw [List.getElem?_set_self il]
  refine ⟨_, (by rw [addr_more]; exact e4), _, rfl, a3, m3, c3, (by rw [addr_more]; exact E4.cell i (up2 _ g4) rfl), by decide, by decide, _, E4.cell L.length (hk9 (by simp)) rfl, first_open_wp d3 ⟨(by rw [addr_more]; exact E4.cell i (up2 _ g4) rfl), E4.cell L.length (hk9 (by simp)) rfl, _, rfl, ?_⟩⟩
  rw [addr_more]
  refine .inl ⟨a3, m3, c3, E4.cell i (up2 _ g4) rfl, by omega, by omega, by omega, ?_⟩
  obtain ⟨hm, -⟩ := R.rd (B := B) OpenC_len (by omega)
  have E5 := E4.popL
  have hq5 : (L.set i (some (k, actO (cutV a0 m0 i0) (cutV a1 m1 i1) (cutV a2 m2 i2) (.slice a3 m3 c3))))[q]? = some r := by rw [List.getElem?_set_ne (Ne.symm hne)]; exact hq
  have hrd := R.rd_drop (B := B) OpenC_len (by omega) (min m3 i3.toNat)
  have hlen' : Int.toNat ((m3 : Nat) : Int) - Int.toNat ((min m3 i3.toNat : Nat) : Int) = (l.drop (min m3 i3.toNat)).length := by rw [List.length_drop, Int.toNat_natCast, Int.toNat_natCast]; omega
  rw [hlen']
  refine undo_wp (by rw [List.length_drop]; omega) hrd (fun k o e => E5.at q (hq5.trans (congrArg some e))) fun a' m' c' r' h' R' E' => ?_
  have E6 := E5.append E'
  obtain ⟨e7, E7⟩ := E6.store i 3 (cutV a3 m3 i3) (up2 _ g4) rfl
  rw [List.set_append_left _ _ (by simpa using il), List.set_set] at E7
  refine ⟨_, rfl, _, (by rw [addr_more]; exact e7), Fin.of (hQ _ _ _ _ _ R' ?_)⟩
  rw [List.set_append_left _ _ il]
  exact E7
end
end Go.Proofs.Ythloobpjkeodgaa.H
