/- The law DraftCopies. No condition. -/
import Derived.Test.YtoajfmmomgpjcaaDd
namespace Go.Proofs.Ytoajfmmomgpjcaa.H
open Go Go.RowKit
set_option linter.unusedVariables false
set_option maxRecDepth 100000

def dcL (k8 k10 k12 k21 k23 : Nat) (x : Int × Int) (stop : Int) (v : Value) (r : Option (Nat × AObj)) : List (Option (Nat × AObj)) :=
  [some (k8, .vec TY.countermandref13_Put (plains [.int .i64 x.1, .int .i64 x.2]) 2), some (k10, .vec TY.int [.plain (.int .i64 stop)] 1), some (k12, .vec TY.bool (plains [.bool false]) 1), some (k21, drO_int v), r, some (k23, .vec TY.p_draft_Draft_int (plains [.pointer (some ⟨k21, 0, none⟩)]) 1)]
section
variable {B : RO} {h0 h h' : Heap} {L : List (Option (Nat × AObj))} {r r1 : Option (Nat × AObj)} {k8 k10 k12 k21 k23 k50 : Nat} {a1 : Option Addr} {c1 : Nat} {v : Value} {l d : List (Int × Int)} {x : Int × Int} {stop n : Int} {Q : Bool → Heap → Prop}
theorem DraftCopies_J3 {q : Nat} (E : Keep B h0 (dcL k8 k10 k12 k21 k23 x stop v r ++ [some (k50, .vec TY.int (plains [.int .i64 (q : Nat)]) 1)]) h) (R : DRow_int r v d) (hq : (q : Int) = stop ∨ q = d.length) (hQ : Q true h0) : S_countermandlaw13_DraftCopies_J3 B k10 k12 k23 k50 h Q := by
  unfold S_countermandlaw13_DraftCopies_J3
  refine ⟨_, E.cell 6 rfl rfl, _, E.cell 1 rfl rfl, fun _ => retD (E.pf 2 rfl rfl) E.le (E.zero 2 rfl) hQ, fun hne => ⟨_, E.cell 6 rfl rfl, _, E.cell 5 rfl rfl, len_int_wp (i := 3) E ⟨rfl, rfl⟩ R ⟨E.cell 6 rfl rfl, E.cell 1 rfl rfl, E.cell 6 rfl rfl, E.cell 5 rfl rfl, retD (E.pf 2 rfl rfl) E.le (E.zero 2 rfl) ?_⟩⟩⟩
  rcases hq with hq | hq
  · exact absurd hq hne
  · subst hq
    have : (((d.length : Nat) : Int) == ((d.length : Nat) : Int)) = true := by simp
    rw [this]; exact hQ
theorem DraftCopies_J2 (E : Keep B h0 (dcL k8 k10 k12 k21 k23 x stop v r) h) (R : DRow_int r v d) (s : SortD d) (hd : d.length ≤ 80) (hQ : Q true h0) : S_countermandlaw13_DraftCopies_J2 B k10 k12 k23 h Q := by
  unfold S_countermandlaw13_DraftCopies_J2
  intro k50 a50 b50 h51 e51
  have E1 := E.made a50 b50 e51
  obtain ⟨e2, E2⟩ := E1.store 6 0 (.int .i64 0) rfl rfl
  refine ⟨_, e2, _, E2.cell 5 rfl rfl, copy_int_wp (i := 3) E2 ⟨rfl, rfl⟩ R (by omega) fun k' v' r' h79 R' E3 => ?_⟩
  refine dall_wp fun kc ac bc => ?_
  have E4 := E3.new (o := .vec TY.p_draft_Draft_int [.plain (.pointer (some ⟨k', 0, none⟩))] 1) ac bc
  have E4 : Keep B h0 (dcL k8 k10 k12 k21 k23 x stop v r ++ [some (k50, .vec TY.int (plains [.int .i64 ((0 : Nat) : Int)]) 1)] ++ drE_int k' v' r' ++ [some (kc, .vec TY.p_draft_Draft_int [.plain (.pointer (some ⟨k', 0, none⟩))] 1)]) _ := E4
  refine ⟨d, dG kc k' v' r', fun q h' => Keep B h0 (dcL k8 k10 k12 k21 k23 x stop v r ++ [some (k50, .vec TY.int (plains [.int .i64 (q : Nat)]) 1)] ++ drE_int k' v' r' ++ [some (kc, .vec TY.p_draft_Draft_int [.plain (.pointer (some ⟨k', 0, none⟩))] 1)]) h', dall_iter (B := B) R' (by omega), dG_ins, ?_, Fin.of E4, ?_, ?_⟩
  · intro q h' E
    exact ⟨E.last, E.at 7 rfl, fun k o e => E.at 8 (by rw [← e]; rfl)⟩
  · intro q h86 i83 i84 hg E
    have hq := (List.getElem?_eq_some_iff.1 hg).1
    refine ⟨_, E.cell 5 rfl rfl, get_int_wp (i := 3) E ⟨rfl, rfl⟩ R s (by omega) ?_⟩
    have hat : atD d i83 = some i84 := atD_get s hg
    rw [hat]
    refine ⟨fun _ => ⟨_, E.cell 6 rfl rfl, ?_⟩, fun hn => absurd rfl hn⟩
    have hw : IntKind.wrap .i64 ((q : Int) + 1) = ((q + 1 : Nat) : Int) := by rw [w64 (by omega) (by omega)]; omega
    rw [hw]
    obtain ⟨e7, E7⟩ := E.store 6 0 (.int .i64 ((q + 1 : Nat) : Int)) rfl rfl
    refine ⟨_, e7, _, E7.cell 6 rfl rfl, _, E7.cell 1 rfl rfl, fun he => Fin.of (DraftCopies_J3 (E7.take 7) R (.inl he) hQ), fun _ => Fin.of E7⟩
  · intro h86 E
    exact Fin.of (DraftCopies_J3 (E.take 7) R (.inr rfl) hQ)
theorem DraftCopies_J1 (E : Keep B h0 (dcL k8 k10 k12 k21 k23 x stop v r) h) (R : DRow_int r v (dOf l)) (hr : Reads B h0 a1 2 entC_int l) (hl : l.length ≤ 80) (hQ : Q true h0) : S_countermandlaw13_DraftCopies_J1 B a1 l.length c1 k8 k10 k12 k23 h Q := by
  unfold S_countermandlaw13_DraftCopies_J1
  have hds := dOf_sort l
  have hdl := dOf_len l
  refine ⟨_, E.cell 5 rfl rfl, copy_int_wp (i := 3) E ⟨rfl, rfl⟩ R (by omega) fun k' v' r' h29 R' E1 => ⟨_, E1.cell 0 rfl rfl, _, E1.cell 0 rfl rfl, ?_⟩⟩
  refine put_int_wp (i := 6) E1 ⟨rfl, rfl⟩ R' hds (by omega) fun v2 r2 h33 R2 E2 => ?_
  have E2 : Keep B h0 (dcL k8 k10 k12 k21 k23 x stop v r ++ drE_int k' v2 r2) h33 := E2
  have hil := insD_len (l := dOf l) (i := x.1) (v := x.2)
  refine ⟨_, E2.cell 5 rfl rfl, _, E2.cell 0 rfl rfl, get_int_wp (i := 3) E2 ⟨rfl, rfl⟩ R hds (by omega) ⟨_, E2.cell 0 rfl rfl, ref13_get_wp (hr.over E2.le E2.nw) (by omega) ⟨_, E2.cell 0 rfl rfl, get_int_wp (i := 6) E2 ⟨rfl, rfl⟩ R2 hds.ins (by omega) ⟨fun _ => ⟨fun _ => ⟨_, E2.cell 0 rfl rfl, fun _ => ?_, fun hn => absurd ?_ hn⟩, fun hn => absurd rfl hn⟩, fun hn => absurd rfl hn⟩⟩⟩⟩
  · refine ⟨_, E2.cell 5 rfl rfl, len_int_wp (i := 3) E2 ⟨rfl, rfl⟩ R (ref13_numbers_wp (hr.over E2.le E2.nw) (by omega) fun a3 c3 r1 h109 R1 E3 => ⟨fun _ => Fin.of (DraftCopies_J2 ((E2.append E3).take 6) R hds (by omega) hQ), fun hn => absurd rfl hn⟩)⟩
  · rw [atD_ins, if_pos rfl]; rfl
theorem DraftCopies_wp (hr : Reads B h a1 2 entC_int l) (hQ : Q true h) : C_countermandlaw13_DraftCopies B a1 l.length c1 x.1 x.2 stop h Q := by
  refine C_countermandlaw13_DraftCopies.of ?_
  unfold S_countermandlaw13_DraftCopies
  intro k8 a8 b8 h9 e9 k10 a10 b10 h11 e11 k12 a12 b12 h13 e13
  have E0 := (((Keep.nil B h).made a8 b8 e9).made a10 b10 e11).made a12 b12 e13
  refine alive13_wp ⟨fun _ => ⟨fun _ => retD (E0.pf 2 rfl rfl) E0.le (E0.zero 2 rfl) hQ, fun hl => ?_⟩, fun e => by cases e⟩
  intro k21 a21 b21 h22 e22 k23 a23 b23 h24 e24
  have E1 := ((E0.made a21 b21 e22).gap).made a23 b23 e24
  obtain ⟨e2, E2⟩ := E1.store 5 0 (.pointer (some ⟨k21, 0, none⟩)) rfl rfl
  have E2 : Keep B h (dcL k8 k10 k12 k21 k23 x stop (.slice none 0 0) none) _ := E2
  refine ⟨_, e2, ?_⟩
  refine ⟨fun i m h' => ∃ (j : Nat) (v : Value) (r : Option (Nat × AObj)), j ≤ l.length ∧ i = j ∧ m = l.length - j ∧ DRow_int r v (dOf (l.take j)) ∧ Keep B h (dcL k8 k10 k12 k21 k23 x stop v r) h', l.length, Fin.of ⟨0, _, none, by omega, rfl, by omega, Row.nil _ _, E2⟩, ?_⟩
  clear E2 e2 E1 E0 e24 e22 e13 e11 e9
  rintro _ _ h123 ⟨j, v, r, hj, rfl, rfl, R, E⟩
  refine ⟨fun hlt => ?_, fun _ => Fin.of ?_⟩
  · have hj' : j < l.length := by omega
    have hw : IntKind.wrap .i64 ((j : Int) + 1) = ((j + 1 : Nat) : Int) := by rw [w64 (by omega) (by omega)]; omega
    have hx := List.getElem?_eq_getElem hj'
    generalize l[j] = y at hx
    have hdl := dOf_len (l.take j)
    rw [List.length_take] at hdl
    have hdt := dOf_take hx
    obtain ⟨A, e1, e3, e4⟩ := (hr.over E.le E.nw) j y hx
    refine ⟨A, e1, by omega, hlt, y.1, y.2, e4, fun k133 a133 b133 h134 e134 => ?_⟩
    have E1 := E.made a133 b133 e134
    refine ⟨_, stores_whole E1.last rfl (by simp) (by simp [isOne]) (by simp), ?_⟩
    have E2 := E1.putLast (.vec TY.countermandref13_Put (plains [.int .i64 y.1, .int .i64 y.2]) 2)
    refine ⟨_, E2.cell 5 rfl rfl, _, cellH_vec E2.last rfl, _, cellH_vec E2.last rfl, ?_⟩
    refine put_int_wp (i := 3) E2 ⟨rfl, rfl⟩ R (dOf_sort _) (by omega) fun v' r' h204 R' E3 => Fin.of ⟨l.length - (j + 1), by omega, j + 1, v', r', by omega, hw, rfl, ?_, ?_⟩
    · rw [hdt]; exact R'
    · exact Keep.pop (x := some (k133, .vec TY.countermandref13_Put (plains [.int .i64 y.1, .int .i64 y.2]) 2)) E3
  · have : j = l.length := by omega
    subst this
    rw [List.take_length] at R
    exact DraftCopies_J1 E R hr (by omega) hQ
end
theorem DraftCopies_calls {H : Type} {enc : TypeId × Value → H} (W : World) {a : Option Addr} {len cap : Nat} {d : DataW H} {p : List MemPlace} (k : DataW.Trod enc PG W 0 (fun _ => true) true TY.s_countermandref13_Put (.slice a len cap) d p)
    {cs : Array Value} {d' : DataW H} {p' : List MemPlace} (k' : DataW.Trod enc PG W 0 (fun _ => true) true TY.countermandref13_Put (.agg cs) d' p') (n : Int) (wn : (Lit.int .i64 n).wf = true) :
    Calls PG FN.countermandlaw13_DraftCopies #[.slice a len cap, .agg cs, .int .i64 n] W fun e w' => e = .returned (.bool true) ∧ Below W.heap.size W w' := by
  obtain ⟨l, rfl, hr, hok⟩ := Put_arg k
  have hk := arg_agg TK.put_kd k'
  obtain ⟨z1, v1, e1, _, h1⟩ := hk.int
  obtain ⟨z2, v2, rfl, _, h2⟩ := h1.int
  obtain rfl := h2.nil
  obtain rfl : cs = #[.int .i64 z1, .int .i64 z2] := by rw [← Array.toList_inj, e1]
  refine Spec.calls (Spec.mono (DraftCopies_wp (x := (z1, z2)) (Q := fun b _ => b = true) hr rfl) ?_)
  rintro v h' ⟨b, rfl, rfl⟩
  rfl
end Go.Proofs.Ytoajfmmomgpjcaa.H
