/- The law StylusNumbers. No condition. -/
import Derived.Test.YthlnibaechobmaaKf
namespace Go.Proofs.Ythlnibaechobmaa.H
open Go Go.RowKit
set_option linter.unusedVariables false
set_option maxRecDepth 100000

section
variable {B : RO} {h : Heap}
theorem StylusNumbers_end {s : ByteArray} {most : Int} {Q : Bool → Heap → Prop} (hs : s.size ≤ 100) (hm : -9223372036854775808 ≤ most ∧ most ≤ 9223372036854775807) (hQ : Q true h) : S_countermandlaw01_StylusNumbers_J1 B s most h Q := by
  unfold S_countermandlaw01_StylusNumbers_J1
  refine of_wp fun k a1 a2 => ?_
  have hl := bl_length s
  have g0 : (h.set k (readO s false)) k = some (rdO (bl s) false) := by rw [Heap.set_same, rdO, ba_bl]
  refine rnat_wp hm.2 g0 (taken_wp (by omega) ?_)
  rw [Heap.set_set]
  have back : ∀ o, Ent B (h.set k o) h := fun o => Ent.forget (Le.new a1)
  have hwm : IntKind.wrap .u64 most = if most < 0 then most + 18446744073709551616 else most := by rw [wu64]; split <;> omega
  cases hw : wordOf (bl s) with
  | none =>
    have e1 : takenOf (bl s) = (0, 0) := by rw [takenOf, hw]
    have e2 : rNat most (bl s) false = (0, [], true) := by
      rw [rNat, rWord_none hw]; split <;> rfl
    rw [e1, e2]
    refine ⟨fun _ => Fin.of ?_, fun hn => absurd rfl hn⟩
    unfold S_countermandlaw01_StylusNumbers_J3
    exact ⟨fun _ => ⟨fun _ => rbad_wp (Heap.set_same _ _ _) (Fin.ent (back _) (Fin.of hQ)), fun hn => absurd rfl hn⟩, fun e => by cases e⟩
  | some p =>
    obtain ⟨n, r⟩ := p
    obtain ⟨h1, h2⟩ := wordOf_eq hw
    have hlen := congrArg List.length h1
    rw [List.length_append] at hlen
    have hpos := natB_pos n
    have e1 : takenOf (bl s) = (n, (bl s).length - r.length) := by rw [takenOf, hw]
    rw [e1]
    have bad : most < 0 ∨ most < (n : Int) → Fin B (h.set k (rdO (rNat most (bl s) false).2.1 (rNat most (bl s) false).2.2)) (fun h' => S_countermandlaw01_StylusNumbers_J3 B s (some ⟨k, 0, none⟩) ((rNat most (bl s) false).1 : Nat) (n : Int) (((bl s).length - r.length : Nat) : Int) true h' Q) := by
      intro hb
      have e2 : rNat most (bl s) false = (0, [], true) := by rw [rNat, if_pos (by rw [rWord_some hw]; exact hb)]
      rw [e2]
      refine Fin.of ?_
      unfold S_countermandlaw01_StylusNumbers_J3
      exact ⟨fun _ => ⟨fun _ => rbad_wp (Heap.set_same _ _ _) (Fin.ent (back _) (Fin.of hQ)), fun hn => absurd rfl hn⟩, fun e => by cases e⟩
    refine ⟨fun e0 => by omega, fun _ => ⟨fun hn => bad (.inl hn), fun hn => ⟨fun hgt => bad (.inr ?_), fun hle => ?_⟩⟩⟩
    · rw [hwm, if_neg hn] at hgt; omega
    · rw [hwm, if_neg hn] at hle
      have e2 : rNat most (bl s) false = (n, r, false) := by rw [rNat, rWord_some hw, if_neg (by simp only; omega)]
      rw [e2]
      refine Fin.of ?_
      unfold S_countermandlaw01_StylusNumbers_J3
      refine ⟨fun e => (by cases e), fun _ => Fin.of ?_⟩
      unfold S_countermandlaw01_StylusNumbers_J2
      refine ⟨fun _ => rbad_wp (Heap.set_same _ _ _) ⟨fun e => (by cases e), fun _ => rleft_wp (Heap.set_same _ _ _) (Fin.ent (back _) (Fin.of ?_))⟩, fun hne => absurd ?_ hne⟩
      · rw [w64 (by omega) (by omega)]
        have : (((r.length : Nat) : Int) == (s.size : Nat) - (((bl s).length - r.length : Nat) : Int)) = true := by rw [beq_iff_eq]; omega
        rw [this]; exact hQ
      · rw [wu64]; omega

theorem StylusNumbers_wp {n m most : Int} {s : ByteArray} {Q : Bool → Heap → Prop} (hn : -9223372036854775808 ≤ n ∧ n ≤ 9223372036854775807) (hm : -9223372036854775808 ≤ m ∧ m ≤ 9223372036854775807) (ht : -9223372036854775808 ≤ most ∧ most ≤ 9223372036854775807) (hQ : Q true h) : C_countermandlaw01_StylusNumbers B n m s most h Q := by
  refine C_countermandlaw01_StylusNumbers.of ?_
  unfold S_countermandlaw01_StylusNumbers
  refine alive_wp ⟨fun _ => ⟨fun _ => Fin.of hQ, fun h100 => ?_⟩, fun e => by cases e⟩
  intro k8 a8 b8 h9 e9 k10 a10 b10 h11 e11 k12 a12 b12 h13 e13
  obtain ⟨g9, l9, -⟩ := Heap.made a8 e9
  obtain ⟨g11, l11, f11⟩ := Heap.made a10 e11
  obtain ⟨n108, g11'⟩ := f11 _ _ g9
  obtain ⟨g13, l13, f13⟩ := Heap.made a12 e13
  obtain ⟨n128, g13'⟩ := f13 _ _ g11'
  obtain ⟨n1210, g13''⟩ := f13 _ _ g11
  have l := l9.trans (l11.trans l13)
  have z8 := a8
  have z10 := l9.none a10
  refine Spec.ent ((styl_new g13').trans (styl_new (k := k10) (Heap.get_set n108 g13''))) ?_
  refine int1_wp (bs := []) (Heap.get_set (Ne.symm n108) (Heap.set_same _ _ _)) (Heap.get_set n1210 (Heap.get_set n128 g13)) n128 hn (by simp) ?_
  generalize e14 : Heap.set _ k8 (stylO ([] ++ natB (zig n))) = h14
  obtain ⟨g14, f14, p14⟩ := Heap.put e14
  have g14' : h14 k10 = some (stylO []) := by rw [f14 _ n108, Heap.set_same]
  have l14 := p14 _ ((l.set z8).set z10) z8
  intro k15 a15 b15 h16 e16
  obtain ⟨g16, l16, f16⟩ := Heap.made a15 e16
  obtain ⟨n158, g16'⟩ := f16 _ _ g14
  obtain ⟨n1510, g16''⟩ := f16 _ _ g14'
  refine int1_wp g16'' g16 n1510 hm (by simp) ?_
  generalize e17 : Heap.set h16 k10 _ = h17
  obtain ⟨g17, f17, p17⟩ := Heap.put e17
  have g17' : h17 k8 = _ := f17 _ (Ne.symm n108)
  rw [g16'] at g17'
  have l17 := p17 _ (l14.trans l16) z10
  simp only [List.nil_append] at g17 g17'
  refine bytes_wp g17' (bytes_wp g17 ?_)
  have fin : Fin B h17 (fun h' => S_countermandlaw01_StylusNumbers_J1 B s most h' Q) := Fin.ent (Ent.forget l17) (Fin.of (StylusNumbers_end (by omega) ht hQ))
  refine ⟨fun _ => ⟨fun hlt => ⟨by omega, by omega, by omega, fun heq => ?_, fun _ => fin⟩, fun _ => fin⟩, fun hne => absurd ?_ hne⟩
  · exfalso
    have e1 : (ba (natB (zig m))).extract (Int.toNat 0) (Int.toNat (((ba (natB (zig n))).size : Nat) : Int)) = ba ((natB (zig m)).take (natB (zig n)).length) := by
      rw [ba_size, Int.toNat_natCast]; exact extract_ba _ _
    rw [e1] at heq
    have e2 := ba_inj heq
    have e3 : natB (zig n) ++ (natB (zig m)).drop (natB (zig n)).length = natB (zig m) ++ [] := by
      rw [List.append_nil]
      conv => lhs; lhs; rw [← e2]
      exact List.take_append_drop _ _
    have e4 := (natB_prefix _ _ _ _ e3).1
    rw [e4, ba_size] at hlt
    omega
  · rw [Bool.eq_iff_iff, beq_iff_eq, decide_eq_true_eq]
    exact ⟨fun e => zig_inj (natB_inj (ba_inj e)), fun e => by rw [e]⟩
end
theorem StylusNumbers_calls (W : World) (n : Int) (wn : (Lit.int .i64 n).wf = true) (m : Int) (wm : (Lit.int .i64 m).wf = true) (s : ByteArray) (_ : s.size ≤ 140737488351232) (t : Int) (wt : (Lit.int .i64 t).wf = true) :
    Calls PG FN.countermandlaw01_StylusNumbers #[.int .i64 n, .int .i64 m, .string s, .int .i64 t] W fun e w' => e = .returned (.bool true) ∧ Below W.heap.size W w' := by
  refine Spec.calls (Spec.mono (StylusNumbers_wp (Q := fun b _ => b = true) (wf64 wn) (wf64 wm) (wf64 wt) rfl) ?_)
  rintro v h' ⟨b, rfl, rfl⟩
  rfl
end Go.Proofs.Ythlnibaechobmaa.H
