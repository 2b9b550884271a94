/- The law WalLasts. No condition. -/
import Derived.Test.YthloobpjkeodgaaWj
import Derived.Test.YthloobpjkeodgaaWk
namespace Go.Proofs.Ythloobpjkeodgaa.H
open Go Go.RowKit
set_option linter.unusedVariables false
set_option maxRecDepth 100000

def recs (want : List (List UInt8)) : List Chg := want.map fun l => Chg.mk 0 false (ba (closeL l))
theorem recs_len (want : List (List UInt8)) : (recs want).length = want.length := List.length_map ..
theorem recs_take (want : List (List UInt8)) (n : Nat) : (recs want).take n = recs (want.take n) := by unfold recs; rw [List.map_take]
theorem recs_snoc (want : List (List UInt8)) (s : ByteArray) : recs want ++ [Chg.mk 0 false (ba (closeL (bl s)))] = recs (want ++ [bl s]) := by unfold recs; rw [List.map_append]; rfl
theorem recs_textF : ∀ (want : List (List UInt8)) (s : ByteArray), bl (textF 0 s (recs want)) = bl s ++ rowL want
  | [], s => by rw [rowL_nil, List.append_nil]; rfl
  | l :: ws, s => by
    show bl (textF 0 (chgD 0 s (Chg.mk 0 false (ba (closeL l)))) (recs ws)) = bl s ++ (closeL l ++ rowL ws)
    rw [recs_textF ws, chgD, if_pos rfl, if_neg (by simp), bl_append, bl_ba, List.append_assoc]
theorem recs_text (want : List (List UInt8)) : bl (textD 0 (recs want)) = rowL want := recs_textF want _
theorem crash_text {want : List (List UInt8)} (hs : Short want) (k : Nat) (hk : k ≤ want.length) (keep part : Int) : ∃ m, k ≤ m ∧ m ≤ want.length ∧ allL (bl (textD 0 (crashD (recs want) k keep part))) = want.take m := by
  unfold crashD
  simp only
  rw [recs_take, recs_len]
  generalize hn : k + min (want.length - k) keep.toNat = n
  have hst : Short (want.take n) := hs.take n
  cases hc : (recs want)[n]? with
  | none =>
    refine ⟨n, by omega, by omega, ?_⟩
    simp only [List.append_nil]
    rw [recs_text, allL_rows hst]
  | some c =>
    simp only
    unfold recs at hc
    rw [List.getElem?_map] at hc
    obtain ⟨l, hl, rfl⟩ := Option.map_eq_some_iff.1 hc
    obtain ⟨hlt, rfl⟩ := List.getElem?_eq_some_iff.1 hl
    have hll := hs _ (List.getElem_mem hlt)
    rw [if_neg (by simp), textD_app, bl_append, recs_text, allL_row hst]
    have hp : bl (cutB part (ba (closeL want[n]))) = (closeL want[n]).take (min (ba (closeL want[n])).size part.toNat) := by
      rw [cutB, bl_extract, bl_ba, List.drop_zero, Nat.sub_zero]
    rw [hp]
    generalize min (ba (closeL want[n])).size part.toNat = q
    rcases Nat.lt_or_ge q (closeL want[n]).length with hq | hq
    · refine ⟨n, by omega, by omega, ?_⟩
      have : openL ((closeL want[n]).take q) = none := openL_part (q := (closeL want[n]).drop q) hll (List.take_append_drop _ _).symm (fun e => by
        have := congrArg List.length e
        rw [List.length_drop] at this; simp at this; omega)
      rw [allL_none this, List.append_nil]
    · refine ⟨n + 1, by omega, by omega, ?_⟩
      rw [List.take_of_length_le hq, allL_one hll, List.take_succ_eq_append_getElem hlt]
theorem SRow.snoc {r : Option (Nat × AObj)} {v : Value} {ws : List (List UInt8)} {s : ByteArray} (R : Row r v TY.string 1 (ws.flatMap strC ++ [.string s])) : SRow r v (ws ++ [bl s]) := by
  unfold SRow
  rw [List.flatMap_append]
  simpa [strC, ba_bl] using R

section
variable {B : RO} {h0 h h' : Heap} {x : LX} {k : Nat} {want : List (List UInt8)}
theorem WalLasts_J1 {r : Option (Nat × AObj)} {a : Option Addr} {n c : Nat} {keep part : Int} {Q : Bool → Heap → Prop} (E : Keep B h0 (x.e 0 (recs want) k ++ [r]) h) (O : x.Ok (recs want) k) (R : SRow r (.slice a n c) want) (hs : Short want) (hl : want.length ≤ 1000) (hQ : Q true h0) :
    S_countermandlaw04_WalLasts_J1 B keep part (some ⟨x.kD, 0, none⟩) (some ⟨x.kl, 0, none⟩) a n c (k : Nat) h Q := by
  unfold S_countermandlaw04_WalLasts_J1
  have hn := SRow.len R
  subst hn
  have hk := O.hk
  rw [recs_len] at hk
  have hrl := recs_len want
  refine lasting_wp (i := 0) (j := 2) E ⟨rfl, rfl⟩ rfl O.ok (.inl rfl) fun h23 E1 => ?_
  have hlk : (allL (bl (textD 0 ((recs want).take k)))).length = k := by
    rw [recs_take, recs_text, allL_rows (hs.take k), List.length_take]; omega
  rw [hlk]
  refine ⟨fun _ => ?_, fun n => absurd rfl n⟩
  refine dcrash_wp (i := 0) E1 ⟨rfl, rfl⟩ O.c O.hk O.ok (by omega) fun h26 E2 => ?_
  have hcl := crashD_len (recs want) k keep part
  have hok := crashD_ok O.ok k keep part
  obtain ⟨m, m1, m2, m3⟩ := crash_text hs k hk keep part
  generalize crashD (recs want) k keep part = cs2 at *
  refine walopen_wp (i := 0) (cs := cs2) (k := cs2.length) E2 ⟨rfl, rfl⟩ (.inl rfl) hok fun kl2 h27 E3 => ?_
  refine loads_wp (i := 0) (j := 4) (cs := cs2) (k := cs2.length) E3 ⟨rfl, rfl⟩ rfl hok (.inl rfl) fun a31 c33 r31 h30 R31 E4 => ?_
  rw [m3] at R31 ⊢
  have hm : (want.take m).length = m := by rw [List.length_take]; omega
  have hcap := Row.cap R
  refine ⟨fun _ => ⟨fun _ => ⟨by omega, by omega, by omega, ?_⟩, fun n => absurd n (by omega)⟩, fun n => absurd n (by omega)⟩
  have z0 : Int.toNat 0 = 0 := rfl
  rw [optAdd0, z0, Int.toNat_natCast, Nat.sub_zero, Nat.sub_zero]
  have Rc : SRow r (.slice a (want.take m).length c) (want.take m) := by
    rw [hm]
    have := Row.cut R (n := m) (by omega)
    rwa [take_flatMap strC_len] at this
  refine same04_wp (SRow.reads R31 fun b o e => E4.at 5 (by rw [← e]; rfl)) (SRow.reads Rc fun b o e => E4.at 3 (by rw [← e]; rfl)) (by omega) ?_
  rw [decide_eq_true rfl]
  exact Fin.ent E4.back (Fin.of hQ)
theorem WalLasts_wp {a1 : Option Addr} {c1 : Nat} {list : List ByteArray} {forced keep part : Int} {Q : Bool → Heap → Prop} (hr : Reads B h a1 1 strP list) (hQ : Q true h) : C_countermandlaw04_WalLasts B a1 list.length c1 forced keep part h Q := by
  refine C_countermandlaw04_WalLasts.of ?_
  unfold S_countermandlaw04_WalLasts
  refine alive04_wp ⟨fun _ => heavy04_wp hr fun b hb => ⟨fun _ => Fin.of hQ, fun e => ?_⟩, fun e => by cases e⟩
  obtain ⟨hl, hs⟩ := hb e
  refine dnew_wp fun kD h16 E1 => ?_
  refine lopen_wp (M := []) E1 (Row.nil _ _) (Nat.le_refl _) (.inl rfl) DOk.nil fun x h18 hkD O E3 => ?_
  let J : Option Addr → Nat → Nat → Int → Int → Nat → Heap → Prop := fun a n c safe i m h' => ∃ (j : Nat) (x' : LX) (want : List (List UInt8)) (k : Nat) (r : Option (Nat × AObj)), j ≤ list.length ∧ i = j ∧ m = list.length - j ∧ safe = k ∧ x'.Ok (recs want) k ∧ x'.kl = x.kl ∧ x'.kD = kD ∧ want.length ≤ j ∧ Short want ∧ SRow r (.slice a n c) want ∧ Keep B h (x'.e 0 (recs want) k ++ [r]) h'
  refine ⟨J, list.length, Fin.of ⟨0, ⟨kD, x.kl, .slice none 0 0, none⟩, [], 0, none, by omega, rfl, by omega, rfl, ⟨Row.nil _ _, Nat.le_refl _, DOk.nil⟩, rfl, rfl, by simp, fun _ h => by simp at h, Row.nil _ _, E3.gap⟩, ?_⟩
  clear E3 E1
  rintro a n c _ _ _ h43 ⟨j, x1, want, k, r, hj, rfl, rfl, rfl, O1, hb1, hb2, hwl, hsw, R, E⟩
  rw [← hb1, ← hb2]
  refine ⟨fun hlt => ?_, fun _ => Fin.of (WalLasts_J1 E O1 R hsw (by omega) hQ)⟩
  have hj' : j < list.length := by omega
  have hw : IntKind.wrap .i64 ((j : Int) + 1) = ((j + 1 : Nat) : Int) := by rw [w64 (by omega) (by omega)]; omega
  obtain ⟨A, e1, _, e3, _⟩ := (hr.over E.le E.nw) j _ (List.getElem?_eq_getElem hj')
  have hsz := hs list[j] (List.getElem_mem hj')
  generalize list[j] = s at e3 hsz
  refine ⟨A, e1, by omega, hlt, _, by rw [Int.toNat_natCast]; exact e3, ?_⟩
  have step : ∀ {x2 : LX} {want : List (List UInt8)} {r : Option (Nat × AObj)} {a : Option Addr} {n c : Nat} {h2 : Heap}, x2.Ok (recs want) k → x2.kl = x1.kl → x2.kD = x1.kD → want.length ≤ j + 1 → Short want → SRow r (.slice a n c) want → Keep B h (x2.e 0 (recs want) k ++ [r]) h2 → S_countermandlaw04_WalLasts_J2 B a1 list.length c1 forced keep part (some ⟨x1.kD, 0, none⟩) (some ⟨x1.kl, 0, none⟩) (k : Nat) j (list.length - j) J a n c h2 Q := by
    intro x2 want r a n c h2 O2 f1 f2 hwl2 hs2 R2 E2
    unfold S_countermandlaw04_WalLasts_J2
    have hn := SRow.len R2
    subst hn
    have hrl := recs_len want
    refine ⟨fun _ => ?_, fun _ => Fin.of ⟨list.length - (j + 1), by omega, j + 1, x2, want, k, r, by omega, hw, rfl, rfl, O2, by rw [f1]; exact hb1, by rw [f2]; exact hb2, hwl2, hs2, R2, E2⟩⟩
    rw [← f1]
    refine walforce_wp (i := 0) (j := 2) E2 ⟨rfl, rfl⟩ rfl O2.c O2.hk O2.ok (by omega) fun h3 E3 => Fin.of ⟨list.length - (j + 1), by omega, j + 1, ⟨x2.kD, x2.kl, .slice none 0 0, none⟩, want, (recs want).length, r, by omega, hw, rfl, by rw [hrl], ⟨by rw [List.drop_length]; exact Row.nil _ _, Nat.le_refl _, O2.ok⟩, by rw [← hb1]; exact f1, by rw [← hb2]; exact f2, hwl2, hs2, R2, E3⟩
  have hrl := recs_len want
  refine lappend_wp E O1 (.inl rfl) (by omega) (by omega) (fun _ n hn => ⟨fun e => absurd e hn, fun _ => Fin.of (step O1 rfl rfl (by omega) hsw R E)⟩) (fun hf x2 h2 f1 f2 O2 E2 => ⟨fun _ => fun k62 a62 b62 h63 e63 => ?_, fun n => absurd rfl n⟩)
  rw [recs_snoc] at O2 E2
  have hn := SRow.len R
  subst hn
  have hfl := flatMap_length strC_len want
  refine E2.push1 3 rfl R TK.slc_strs TK.zero_str rfl (by omega) (by omega) TK.sl_strs rfl (by simp [isOne]) (by rw [hfl]; simp; omega) a62 b62 e63 fun a' m' c' r' h' R' E' => ?_
  exact ⟨a', m', c', rfl, Fin.of (step O2 f1 f2 (by simp; omega) (fun l hl => by
    rcases List.mem_append.1 hl with hl | hl
    · exact hsw l hl
    · rw [List.mem_singleton] at hl; subst hl; rw [bl_length]; exact hf.1) (SRow.snoc R') E')⟩
end
theorem WalLasts_calls {H : Type} {enc : TypeId × Value → H} (W : World) {a : Option Addr} {len cap : Nat} {d : DataW H} {p : List MemPlace} (k : DataW.Trod enc PG W 0 (fun _ => true) true TY.s_string (.slice a len cap) d p) (n1 : Int) (w1 : (Lit.int .i64 n1).wf = true) (n2 : Int) (w2 : (Lit.int .i64 n2).wf = true) (n3 : Int) (w3 : (Lit.int .i64 n3).wf = true) :
    Calls PG FN.countermandlaw04_WalLasts #[.slice a len cap, .int .i64 n1, .int .i64 n2, .int .i64 n3] W fun e w' => e = .returned (.bool true) ∧ Below W.heap.size W w' := by
  obtain ⟨l, rfl, hr, hok⟩ := strP_arg k
  refine Spec.calls (Spec.mono (WalLasts_wp (Q := fun b _ => b = true) hr rfl) ?_)
  rintro v h' ⟨b, rfl, rfl⟩
  rfl
end Go.Proofs.Ythloobpjkeodgaa.H
