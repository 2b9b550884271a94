/- The law ActsMarks: the walk. No condition. -/
import Derived.Test.YtoajfmmomgpjcaaAe
namespace Go.Proofs.Ytoajfmmomgpjcaa.H
open Go Go.RowKit
set_option linter.unusedVariables false
set_option maxRecDepth 100000

theorem TK.acts_sl : PG.underlying TY.s_countermandref16_Act = some (.slice TY.countermandref16_Act) := by kernel_rfl
theorem TK.act_kd : leafB PG 5 TY.countermandref16_Act = some [.int .i64, .int .i64, .int .i64] := by kernel_rfl
theorem ActR_arg {H : Type} {enc : TypeId × Value → H} {w : World} {base : Nat} {spare : Nat → Bool} {held : Bool} {a : Option Addr} {len cap : Nat} {d : DataW H} {p : List MemPlace} (h : DataW.Trod enc PG w base spare held TY.s_countermandref16_Act (.slice a len cap) d p) :
    ∃ l : List ActR, len = l.length ∧ Reads (roOf w) noHeap a 3 ActR.cells l ∧ ∀ x ∈ l, True :=
  arg_rows ActR.cells (fun _ => True) TK.acts_sl TK.act_kd rfl (by omega) (fun vs h => by
    obtain ⟨z1, v1, rfl, _, h⟩ := h.int
    obtain ⟨z2, v2, rfl, _, h⟩ := h.int
    obtain ⟨z3, v3, rfl, _, h⟩ := h.int
    obtain rfl := h.nil
    exact ⟨⟨z1, z2, z3⟩, rfl, trivial⟩) h

section
variable {B : RO} {h0 h h' : Heap} {k12 k14 k23 : Nat} {xa xb : ActV} {s t : ActS} {Q : Bool → Heap → Prop} {a a4 : Option Addr} {c c6 : Nat}
theorem ActsMarks_J5 {ra rb : Option (Nat × AObj)} {a46 a50 : Option Addr} {c48 c52 : Nat} {l : List (Int × Int)} (Ra : RowRd B ra a46 2 OpenC l) (Rb : RowRd B rb a50 2 OpenC l) (ha : ∀ k o, ra = some (k, o) → h k = some o) (hb : ∀ k o, rb = some (k, o) → h k = some o) (hl : l.length ≤ 10000) (he : Ent B h h0) (hQ : Q true h0) :
    S_countermandlaw16_ActsMarks_J5 B a46 l.length c48 a50 l.length c52 h Q := by
  unfold S_countermandlaw16_ActsMarks_J5
  refine ⟨fun i m h' => ∃ j : Nat, j ≤ l.length ∧ i = j ∧ m = l.length - j ∧ h = h', l.length, Fin.of ⟨0, by omega, rfl, by omega, rfl⟩, ?_⟩
  rintro _ _ _ ⟨j, hj, rfl, rfl, rfl⟩
  refine ⟨fun hlt => ?_, fun _ => Fin.ent he (Fin.of hQ)⟩
  have hj' : j < l.length := by omega
  have hw : IntKind.wrap .i64 ((j : Int) + 1) = ((j + 1 : Nat) : Int) := by rw [w64 (by omega) (by omega)]; omega
  obtain ⟨A, e1, _, e4⟩ := Ra h ha j l[j] (List.getElem?_eq_getElem hj')
  obtain ⟨A', e1', _, e4'⟩ := Rb h hb j l[j] (List.getElem?_eq_getElem hj')
  refine ⟨A, e1, by omega, hlt, l[j].1, l[j].2, e4, A', e1', by omega, hlt, l[j].1, l[j].2, e4', fun _ => Fin.of ⟨l.length - (j + 1), by omega, j + 1, by omega, hw, rfl, rfl⟩, fun hn => absurd (eqL_refl_open l[j]) hn⟩
theorem ActsMarks_J4 {ra rb ra' rb' : Option (Nat × AObj)} {a38 a42 a46 a50 : Option Addr} {c40 c44 c48 c52 : Nat} {lo l : List (Int × Int)} (Oa : RowRd B ra' a38 2 OutC lo) (Ob : RowRd B rb' a42 2 OutC lo) (ha' : ∀ k o, ra' = some (k, o) → h k = some o) (hb' : ∀ k o, rb' = some (k, o) → h k = some o)
    (Ra : RowRd B ra a46 2 OpenC l) (Rb : RowRd B rb a50 2 OpenC l) (ha : ∀ k o, ra = some (k, o) → h k = some o) (hb : ∀ k o, rb = some (k, o) → h k = some o) (hlo : lo.length ≤ 20000) (hl : l.length ≤ 10000) (he : Ent B h h0) (hQ : Q true h0) :
    S_countermandlaw16_ActsMarks_J4 B a38 lo.length c40 a42 lo.length c44 a46 l.length c48 a50 l.length c52 h Q := by
  unfold S_countermandlaw16_ActsMarks_J4
  refine ⟨fun i m h' => ∃ j : Nat, j ≤ lo.length ∧ i = j ∧ m = lo.length - j ∧ h = h', lo.length, Fin.of ⟨0, by omega, rfl, by omega, rfl⟩, ?_⟩
  rintro _ _ _ ⟨j, hj, rfl, rfl, rfl⟩
  refine ⟨fun hlt => ?_, fun _ => Fin.of (ActsMarks_J5 Ra Rb ha hb hl he hQ)⟩
  have hj' : j < lo.length := by omega
  have hw : IntKind.wrap .i64 ((j : Int) + 1) = ((j + 1 : Nat) : Int) := by rw [w64 (by omega) (by omega)]; omega
  obtain ⟨A, e1, _, e4⟩ := Oa h ha' j lo[j] (List.getElem?_eq_getElem hj')
  obtain ⟨A', e1', _, e4'⟩ := Ob h hb' j lo[j] (List.getElem?_eq_getElem hj')
  refine ⟨A, e1, by omega, hlt, lo[j].1, lo[j].2, e4, A', e1', by omega, hlt, lo[j].1, lo[j].2, e4', fun _ => Fin.of ⟨lo.length - (j + 1), by omega, j + 1, by omega, hw, rfl, rfl⟩, fun hn => absurd (eqL_refl_out lo[j]) hn⟩
def amL (k12 k14 k23 : Nat) (xa xb : ActV) (s : ActS) : List (Option (Nat × AObj)) :=
  xa.e k12 ++ (xb.e k14 ++ [some (k23, .vec TY.acts_Mark (plains [.int .i64 (s.outs.length : Nat), .int .i64 (s.later.length : Nat), .int .i64 (s.notes.length : Nat), .int .i64 (s.opens.length : Nat)]) 4)])
theorem ActsMarks_J3 {n : Nat} (E : Keep B h0 (amL k12 k14 k23 xa xb s) h) (Wa : ARows t xa) (Wb : ARows s xb) (X : AExt s t n) (hQ : Q true h0) : S_countermandlaw16_ActsMarks_J3 B k12 k14 k23 (n : Int) h Q := by
  unfold S_countermandlaw16_ActsMarks_J3
  obtain ⟨hcut, hn⟩ := X.cut
  have Aa : ActAt (amL k12 k14 k23 xa xb s) 0 k12 xa := ⟨rfl, rfl, rfl, rfl, rfl⟩
  refine ⟨_, _, _, _, ⟨E.cell 10 rfl rfl, E.cell 10 rfl rfl, E.cell 10 rfl rfl, E.cell 10 rfl rfl, trivial⟩, ?_⟩
  refine backA_wp E Aa Wa fun a34 n35 c36 r1 xa' h33 R1 Wa' E1 => ?_
  rw [hcut] at Wa'
  obtain ⟨rfl, -⟩ := R1.rd (B := B) OpenC_len (by omega)
  have E1 : Keep B h0 (amL k12 k14 k23 xa' xb s ++ [r1]) h33 := E1
  have Aa1 : ActAt (amL k12 k14 k23 xa' xb s ++ [r1]) 0 k12 xa' := ⟨rfl, rfl, rfl, rfl, rfl⟩
  refine output_wp E1 Aa1 Wa' fun a38 n39 c40 r2 h37 R2 E2 => ?_
  have Ab2 : ActAt (amL k12 k14 k23 xa' xb s ++ [r1] ++ [r2]) 5 k14 xb := ⟨rfl, rfl, rfl, rfl, rfl⟩
  refine output_wp E2 Ab2 Wb fun a42 n43 c44 r3 h41 R3 E3 => ?_
  have Aa3 : ActAt (amL k12 k14 k23 xa' xb s ++ [r1] ++ [r2] ++ [r3]) 0 k12 xa' := ⟨rfl, rfl, rfl, rfl, rfl⟩
  refine undosA_wp E3 Aa3 Wa' fun a46 n47 c48 r4 h45 R4 E4 => ?_
  have Ab4 : ActAt (amL k12 k14 k23 xa' xb s ++ [r1] ++ [r2] ++ [r3] ++ [r4]) 5 k14 xb := ⟨rfl, rfl, rfl, rfl, rfl⟩
  refine undosA_wp E4 Ab4 Wb fun a50 n51 c52 r5 h49 R5 E5 => ?_
  have Aa5 : ActAt (amL k12 k14 k23 xa' xb s ++ [r1] ++ [r2] ++ [r3] ++ [r4] ++ [r5]) 0 k12 xa' := ⟨rfl, rfl, rfl, rfl, rfl⟩
  have hul : (undoL (t.opens.drop (min t.opens.length (Int.toNat (s.opens.length : Nat))))).length = n := by unfold undoL; rw [List.length_map, List.length_reverse]; exact hn
  refine ⟨fun _ => ?_, fun hne => absurd (by rw [hul]) hne⟩
  refine ⟨_, _, _, _, ⟨E5.cell 10 rfl rfl, E5.cell 10 rfl rfl, E5.cell 10 rfl rfl, E5.cell 10 rfl rfl, trivial⟩, ?_⟩
  refine marksA_wp E5 Aa5 Wa' fun h101 E6 => ?_
  obtain ⟨rfl, O2⟩ := R2.rd (B := B) OutC_len (by omega)
  obtain ⟨rfl, O3⟩ := R3.rd (B := B) OutC_len (by omega)
  obtain ⟨rfl, O4⟩ := R4.rd (B := B) OpenC_len (by omega)
  obtain ⟨rfl, O5⟩ := R5.rd (B := B) OpenC_len (by omega)
  have l0 := Wb.l0
  have l1 := Wb.l1
  have l3 := Wb.l3
  have hu : (undoL s.opens).length = s.opens.length := by simp [undoL]
  refine ⟨⟨E6.cell 10 rfl rfl, E6.cell 10 rfl rfl, E6.cell 10 rfl rfl, E6.cell 10 rfl rfl, trivial⟩, fun _ => ⟨fun _ => ⟨fun _ => Fin.of ?_, fun hne => absurd rfl hne⟩, fun hne => absurd rfl hne⟩, fun hne => absurd (by simp [eqL, leafEq]) hne⟩
  exact ActsMarks_J4 O2 O3 (fun k o e => E6.at 12 (by rw [← e]; rfl)) (fun k o e => E6.at 13 (by rw [← e]; rfl)) O4 O5 (fun k o e => E6.at 14 (by rw [← e]; rfl)) (fun k o e => E6.at 15 (by rw [← e]; rfl)) (by simp; omega) (by omega) E6.back hQ
theorem ActsMarks_J2 {list4 : List ActR} (E : Keep B h0 (xa.e k12 ++ xb.e k14) h) (Wa : ARows s xa) (Wb : ARows s xb) (hs : ALe s 40) (hr4 : Reads B h0 a4 3 ActR.cells list4) (hl4 : list4.length ≤ 40) (hQ : Q true h0) : S_countermandlaw16_ActsMarks_J2 B a4 list4.length c6 k12 k14 h Q := by
  unfold S_countermandlaw16_ActsMarks_J2
  have Aa : ActAt (xa.e k12 ++ xb.e k14) 0 k12 xa := ⟨rfl, rfl, rfl, rfl, rfl⟩
  refine marksA_wp E Aa Wa fun h18 E1 => ?_
  intro k23 a23 b23 h24 e24
  have E2 := E1.made a23 b23 e24
  refine ⟨_, stores_whole (E2.at 10 rfl) rfl (by simp) (by simp [isOne]) (by simp), ?_⟩
  have E3 : Keep B h0 (amL k12 k14 k23 xa xb s) _ := E2.put (o' := .vec TY.acts_Mark (plains [.int .i64 (s.outs.length : Nat), .int .i64 (s.later.length : Nat), .int .i64 (s.notes.length : Nat), .int .i64 (s.opens.length : Nat)]) 4) 10 rfl
  refine ⟨fun n i m h' => ∃ (j cnt : Nat) (t : ActS) (xa' : ActV), j ≤ list4.length ∧ i = j ∧ m = list4.length - j ∧ n = cnt ∧ cnt ≤ j ∧ AExt s t cnt ∧ ALe t (40 + j) ∧ ARows t xa' ∧ Keep B h0 (amL k12 k14 k23 xa' xb s) h', list4.length, Fin.of ⟨0, 0, s, xa, by omega, rfl, by omega, rfl, by omega, AExt.refl s, hs.mono (by omega), Wa, E3⟩, ?_⟩
  clear E3 E2 E1 E e24 Wa Aa
  rintro _ _ _ h114 ⟨j, cnt, t, xa', hj, rfl, rfl, rfl, hcnt, X, hle, W, E⟩
  refine ⟨fun hlt => ?_, fun _ => Fin.of (ActsMarks_J3 E W Wb X hQ)⟩
  have hj' : j < list4.length := by omega
  have hw : IntKind.wrap .i64 ((j : Int) + 1) = ((j + 1 : Nat) : Int) := by rw [w64 (by omega) (by omega)]; omega
  have hwc : IntKind.wrap .i64 ((cnt : Int) + 1) = ((cnt + 1 : Nat) : Int) := by rw [w64 (by omega) (by omega)]; omega
  obtain ⟨A, e1, e3, e4⟩ := (hr4.over E.le E.nw) j list4[j] (List.getElem?_eq_getElem hj')
  refine ⟨A, e1, by omega, hlt, list4[j].kind, list4[j].a, list4[j].b, e4, fun k125 a125 b125 h126 e126 => ?_⟩
  have E1 := E.made a125 b125 e126
  refine ⟨_, stores_whole (E1.at 11 rfl) rfl (by simp) (by simp [isOne]) (by simp), ?_⟩
  have E2 := E1.put (o' := .vec TY.countermandref16_Act (plains list4[j].cells) 3) 11 rfl
  have next : ∀ {h' : Heap} {t' : ActS} {x' : ActV} {cnt' : Nat}, cnt' ≤ j + 1 → AExt s t' cnt' → ALe t' (40 + (j + 1)) → ARows t' x' → Keep B h0 (amL k12 k14 k23 x' xb s) h' → Fin B h' (fun h'' => ∃ m', m' < list4.length - j ∧ ∃ (j' cnt : Nat) (t : ActS) (xa' : ActV), j' ≤ list4.length ∧ IntKind.wrap .i64 ((j : Int) + 1) = j' ∧ m' = list4.length - j' ∧ ((cnt' : Nat) : Int) = cnt ∧ cnt ≤ j' ∧ AExt s t cnt ∧ ALe t (40 + j') ∧ ARows t xa' ∧ Keep B h0 (amL k12 k14 k23 xa' xb s) h'') :=
    fun hc X' hle' W' E' => Fin.of ⟨list4.length - (j + 1), by omega, j + 1, _, _, _, by omega, hw, rfl, rfl, hc, X', hle', W', E'⟩
  have same := next (Nat.le_succ_of_le hcnt) X (hle.mono (by omega)) W (E2.take 11)
  refine ⟨_, E2.cell 11 rfl rfl, fun hge => ⟨_, E2.cell 11 rfl rfl, fun hlt4 => ?_, fun _ => same⟩, fun _ => same⟩
  have k0 : 0 ≤ list4[j].kind := hge
  have k4 : list4[j].kind < 4 := hlt4
  refine ⟨_, _, _, ⟨E2.cell 11 rfl rfl, E2.cell 11 rfl rfl, E2.cell 11 rfl rfl, trivial⟩, ?_⟩
  have Aa2 : ActAt (amL k12 k14 k23 xa' xb s ++ [some (k125, .vec TY.countermandref16_Act (plains list4[j].cells) 3)]) 0 k12 xa' := ⟨rfl, rfl, rfl, rfl, rfl⟩
  refine does_wp E2 Aa2 W (by have := hle.1; omega) (by have := hle.2.1; omega) (by have := hle.2.2.1; omega) (by have := hle.2.2.2; omega) fun x' h135 W' E' => ?_
  have E3 : Keep B h0 (amL k12 k14 k23 x' xb s ++ [some (k125, .vec TY.countermandref16_Act (plains list4[j].cells) 3)]) h135 := E'
  have X' := X.do (a := list4[j].a) (b := list4[j].b) k0 k4
  have hle' := hle.do list4[j].kind list4[j].a list4[j].b
  refine ⟨fun hg => ⟨_, E3.cell 11 rfl rfl, fun h3 => ?_, fun h3 => ?_⟩, fun hg => ?_⟩
  · rw [if_pos ⟨hg, h3⟩] at X'
    rw [hwc]
    exact next (by omega) X' hle' W' (E3.take 11)
  · rw [if_neg (fun hh => h3 hh.2)] at X'
    exact next (by omega) X' hle' W' (E3.take 11)
  · rw [if_neg (fun hh => by rw [hg] at hh; cases hh.1)] at X'
    exact next (by omega) X' hle' W' (E3.take 11)
theorem ActsMarks_wp {list list4 : List ActR} (hr : Reads B h a 3 ActR.cells list) (hr4 : Reads B h a4 3 ActR.cells list4) (hQ : Q true h) : C_countermandlaw16_ActsMarks B a list.length c a4 list4.length c6 h Q := by
  refine C_countermandlaw16_ActsMarks.of ?_
  unfold S_countermandlaw16_ActsMarks
  refine alive16_wp ⟨fun _ => ⟨fun _ => Fin.of hQ, fun hl1 => ⟨fun _ => Fin.of hQ, fun hl2 => Fin.of ?_⟩⟩, fun e => by cases e⟩
  unfold S_countermandlaw16_ActsMarks_J1
  intro k12 a12 b12 h13 e13 k14 a14 b14 h15 e15
  have E0 : Keep B h (ActV.z.e k12 ++ ActV.z.e k14) h15 := ((((((Keep.nil B h).made a12 b12 e13).gap.gap.gap.gap).made a14 b14 e15).gap.gap.gap.gap))
  refine ⟨fun i m h' => ∃ (j : Nat) (s : ActS) (xa xb : ActV), j ≤ list.length ∧ i = j ∧ m = list.length - j ∧ ALe s j ∧ ARows s xa ∧ ARows s xb ∧ Keep B h (xa.e k12 ++ xb.e k14) h', list.length, Fin.of ⟨0, ActS.z, ActV.z, ActV.z, by omega, rfl, by omega, ⟨Nat.le_refl _, Nat.le_refl _, Nat.le_refl _, Nat.le_refl _⟩, ARows.z, ARows.z, E0⟩, ?_⟩
  clear E0 e15 e13
  rintro _ _ h140 ⟨j, s, xa, xb, hj, rfl, rfl, hle, Wa, Wb, E⟩
  refine ⟨fun hlt => ?_, fun _ => Fin.of (ActsMarks_J2 E Wa Wb (hle.mono (by omega)) hr4 (by omega) hQ)⟩
  have hj' : j < list.length := by omega
  have hw : IntKind.wrap .i64 ((j : Int) + 1) = ((j + 1 : Nat) : Int) := by rw [w64 (by omega) (by omega)]; omega
  obtain ⟨A, e1, e3, e4⟩ := (hr.over E.le E.nw) j list[j] (List.getElem?_eq_getElem hj')
  refine ⟨A, e1, by omega, hlt, list[j].kind, list[j].a, list[j].b, e4, fun k151 a151 b151 h152 e152 => ?_⟩
  have E1 := E.made a151 b151 e152
  refine ⟨_, stores_whole (E1.at 10 rfl) rfl (by simp) (by simp [isOne]) (by simp), ?_⟩
  have E2 := E1.put (o' := .vec TY.countermandref16_Act (plains list[j].cells) 3) 10 rfl
  have next : ∀ {h' : Heap} {s' : ActS} {xa' xb' : ActV}, ALe s' (j + 1) → ARows s' xa' → ARows s' xb' → Keep B h (xa'.e k12 ++ xb'.e k14) h' → Fin B h' (fun h'' => ∃ m', m' < list.length - j ∧ ∃ (j' : Nat) (s : ActS) (xa xb : ActV), j' ≤ list.length ∧ IntKind.wrap .i64 ((j : Int) + 1) = j' ∧ m' = list.length - j' ∧ ALe s j' ∧ ARows s xa ∧ ARows s xb ∧ Keep B h (xa.e k12 ++ xb.e k14) h'') :=
    fun hle' W W' E' => Fin.of ⟨list.length - (j + 1), by omega, j + 1, _, _, _, by omega, hw, rfl, hle', W, W', E'⟩
  refine ⟨_, E2.cell 10 rfl rfl, fun hge => ⟨_, E2.cell 10 rfl rfl, fun hlt4 => Fin.of ?_, fun _ => Fin.of ?_⟩, fun _ => Fin.of ?_⟩
  · unfold S_countermandlaw16_ActsMarks_J6
    refine ⟨fun _ => ⟨_, _, _, ⟨E2.cell 10 rfl rfl, E2.cell 10 rfl rfl, E2.cell 10 rfl rfl, trivial⟩, ?_⟩, fun e => by cases e⟩
    have Aa2 : ActAt (xa.e k12 ++ xb.e k14 ++ [some (k151, .vec TY.countermandref16_Act (plains list[j].cells) 3)]) 0 k12 xa := ⟨rfl, rfl, rfl, rfl, rfl⟩
    refine does_wp E2 Aa2 Wa (by have := hle.1; omega) (by have := hle.2.1; omega) (by have := hle.2.2.1; omega) (by have := hle.2.2.2; omega) fun xa' h160 Wa' E' => ?_
    have E3 : Keep B h (xa'.e k12 ++ xb.e k14 ++ [some (k151, .vec TY.countermandref16_Act (plains list[j].cells) 3)]) h160 := E'
    refine ⟨_, _, _, ⟨E3.cell 10 rfl rfl, E3.cell 10 rfl rfl, E3.cell 10 rfl rfl, trivial⟩, ?_⟩
    have Ab3 : ActAt (xa'.e k12 ++ xb.e k14 ++ [some (k151, .vec TY.countermandref16_Act (plains list[j].cells) 3)]) 5 k14 xb := ⟨rfl, rfl, rfl, rfl, rfl⟩
    refine does_wp E3 Ab3 Wb (by have := hle.1; omega) (by have := hle.2.1; omega) (by have := hle.2.2.1; omega) (by have := hle.2.2.2; omega) fun xb' h165 Wb' E' => ?_
    have E4 : Keep B h (xa'.e k12 ++ xb'.e k14 ++ [some (k151, .vec TY.countermandref16_Act (plains list[j].cells) 3)]) h165 := E'
    exact next (hle.do _ _ _) Wa' Wb' (E4.take 10)
  · unfold S_countermandlaw16_ActsMarks_J6
    exact ⟨fun e => (by cases e), fun _ => next (hle.mono (by omega)) Wa Wb (E2.take 10)⟩
  · unfold S_countermandlaw16_ActsMarks_J6
    exact ⟨fun e => (by cases e), fun _ => next (hle.mono (by omega)) Wa Wb (E2.take 10)⟩
end
theorem ActsMarks_calls {H : Type} {enc : TypeId × Value → H} (W : World) {a : Option Addr} {len cap : Nat} {d : DataW H} {p : List MemPlace} (k : DataW.Trod enc PG W 0 (fun _ => true) true TY.s_countermandref16_Act (.slice a len cap) d p)
    {a' : Option Addr} {len' cap' : Nat} {d' : DataW H} {p' : List MemPlace} (k' : DataW.Trod enc PG W 0 (fun _ => true) true TY.s_countermandref16_Act (.slice a' len' cap') d' p') :
    Calls PG FN.countermandlaw16_ActsMarks #[.slice a len cap, .slice a' len' cap'] W fun e w' => e = .returned (.bool true) ∧ Below W.heap.size W w' := by
  obtain ⟨l, rfl, hr, hok⟩ := ActR_arg k
  obtain ⟨l', rfl, hr', hok'⟩ := ActR_arg k'
  refine Spec.calls (Spec.mono (ActsMarks_wp (Q := fun b _ => b = true) hr hr' rfl) ?_)
  rintro v h' ⟨b, rfl, rfl⟩
  rfl
end Go.Proofs.Ytoajfmmomgpjcaa.H
