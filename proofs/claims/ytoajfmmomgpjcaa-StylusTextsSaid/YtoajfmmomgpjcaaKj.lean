/- The law StylusTexts. No condition. -/
import Derived.Test.YtoajfmmomgpjcaaKh
namespace Go.Proofs.Ytoajfmmomgpjcaa.H
open Go Go.RowKit
set_option linter.unusedVariables false
set_option maxRecDepth 100000

theorem TK.strs_sl : PG.underlying TY.s_string = some (.slice TY.string) := by kernel_rfl
theorem TK.str_kd : leafB PG 5 TY.string = some [.str] := by kernel_rfl
def strC (s : ByteArray) : List Value := [.string s]
theorem Str_key {H : Type} {enc : TypeId × Value → H} {P : Program} {w : World} {base : Nat} {spare : Nat → Bool} {held : Bool} (vs : List Value) (h : KdsOk enc P w base spare held [.str] vs) : ∃ x : ByteArray, vs = strC x ∧ x.size ≤ maxLen := by
  obtain ⟨s, v3, rfl, hs, h⟩ := h.str
  obtain rfl := h.nil
  exact ⟨s, rfl, hs⟩
theorem Str_arg {H : Type} {enc : TypeId × Value → H} {w : World} {base : Nat} {spare : Nat → Bool} {held : Bool} {a : Option Addr} {len cap : Nat} {d : DataW H} {p : List MemPlace} (h : DataW.Trod enc PG w base spare held TY.s_string (.slice a len cap) d p) :
    ∃ l : List ByteArray, len = l.length ∧ Reads (roOf w) noHeap a 1 strC l ∧ ∀ x ∈ l, x.size ≤ maxLen :=
  arg_rows strC (fun x => x.size ≤ maxLen) TK.strs_sl TK.str_kd rfl (by omega) Str_key h

def textsB (l : List ByteArray) : List UInt8 := l.flatMap fun s => natB s.size ++ bl s
theorem textsB_cons (s : ByteArray) (l : List ByteArray) : textsB (s :: l) = natB s.size ++ bl s ++ textsB l := by
  simp [textsB]

theorem textsRoom : ∀ l : List ByteArray, (l.map fun s => s.size + 50).sum = (l.map ByteArray.size).sum + 50 * l.length
  | [] => rfl
  | x :: l => by have := textsRoom l; simp only [List.map_cons, List.sum_cons, List.length_cons]; omega
theorem textsB_length : ∀ l : List ByteArray, (∀ x ∈ l, x.size ≤ 2048) → (textsB l).length ≤ (l.map fun s => s.size + 50).sum
  | [], _ => by simp [textsB]
  | x :: l, hx => by
    have h1 := textsB_length l (fun y hy => hx y (by simp [hy]))
    have h2 := natB_length (n := x.size) (by have := hx x (by simp); omega)
    rw [textsB_cons]
    simp only [List.length_append, List.map_cons, List.sum_cons, bl_length]; omega
/-- What is left of texts that were cut: all is read, and it is bad; or more would follow. -/
def CutOk (t : List UInt8) (l : List UInt8) (bad : Bool) : Prop := (bad = true ∧ l = []) ∨ (bad = false ∧ ∃ z, z ≠ [] ∧ l ++ z = t)
theorem rText_bad (most : Int) (l : List UInt8) : (rText most l true).2 = ([], true) := by
  rw [rText, rNat]
  split
  · rw [rRaw, if_pos (.inl rfl)]
  · rw [rWord_bad, rRaw, if_pos (.inl rfl)]
theorem CutOk.step {s : ByteArray} {t l : List UInt8} {bad : Bool} (h : CutOk (natB s.size ++ bl s ++ t) l bad) (hs : s.size ≤ 2048) : CutOk t (rText 2048 l bad).2.1 (rText 2048 l bad).2.2 := by
  rcases h with ⟨rfl, rfl⟩ | ⟨rfl, z, hz, hl⟩
  · rw [rText_bad]; exact .inl ⟨rfl, rfl⟩
  · cases hw : wordOf l with
    | none =>
      have e : rText 2048 l false = ([], [], true) := by
        rw [rText, rNat, rWord_none hw]
        split <;> rw [rRaw, if_pos (.inl rfl)]
      rw [e]; exact .inl ⟨rfl, rfl⟩
    | some p =>
      obtain ⟨m, r⟩ := p
      obtain ⟨e1, e2⟩ := wordOf_eq hw
      rw [e1, List.append_assoc, List.append_assoc] at hl
      obtain ⟨e3, e4⟩ := natB_prefix _ _ _ _ hl
      have e5 : rNat 2048 l false = (m, r, false) := by rw [rNat, rWord_some hw, if_neg (by simp only; omega)]
      rw [rText, e5]
      simp only
      by_cases hr : r.length < m
      · rw [rRaw, if_pos (.inr (.inr (by omega)))]
        exact .inl ⟨rfl, rfl⟩
      · rw [rRaw, if_neg (by simp; omega)]
        refine .inr ⟨rfl, z, hz, ?_⟩
        have e6 := congrArg (List.drop m) e4
        rw [List.drop_append_of_le_length (by omega), e3, ← bl_length, List.drop_left] at e6
        rw [Int.toNat_natCast, e3, ← bl_length]
        exact e6

section
variable {B : RO} {h : Heap}
theorem StylusTexts_wp {a : Option Addr} {c : Nat} {cut : Int} {l : List ByteArray} {Q : Bool → Heap → Prop} (hr : Reads B h a 1 strC l) (hcut : -9223372036854775808 ≤ cut ∧ cut ≤ 9223372036854775807) (hQ : Q true h) : C_countermandlaw01_StylusTexts B a l.length c cut h Q := by
  refine C_countermandlaw01_StylusTexts.of ?_
  unfold S_countermandlaw01_StylusTexts
  refine alive_wp ⟨fun _ => ⟨fun _ => Fin.of hQ, fun h20 => ?_⟩, fun e => by cases e⟩
  intro k9 a9 b9 h10 e10
  obtain ⟨g10, l10, -⟩ := Heap.made a9 e10
  have e10' : h10.set k9 (stylO []) = h.set k9 (stylO []) := by rw [e10, Heap.set_set]
  have back : Ent B (h.set k9 (stylO [])) h := Ent.forget (Le.new a9)
  have read : ∀ {h' : Heap} (j : Nat) (hj : j < l.length), Le h h' → NewOver B h h' → ∃ A, a = some A ∧ A.block ≠ k9 ∧ cellH B h' (A.add (j * 1)) = some (.string l[j]) := by
    intro h' j hj hl hn
    obtain ⟨A, e1, e2, e3⟩ := (hr.over hl hn) j l[j] (List.getElem?_eq_getElem hj)
    obtain ⟨A', e1', e2', _⟩ := hr j l[j] (List.getElem?_eq_getElem hj)
    rw [e1] at e1'; cases e1'
    exact ⟨A, e1, fun e => by rw [e] at e2'; exact e2' a9 b9, e3.1⟩
  refine ⟨fun s i m h' => ∃ j : Nat, j ≤ l.length ∧ i = j ∧ m = l.length - j ∧ s = (((l.take j).map ByteArray.size).sum : Nat) ∧ ((l.take j).map ByteArray.size).sum ≤ 2048 ∧ (∀ x ∈ l.take j, x.size ≤ 2048) ∧ h' = h.set k9 (stylO []), l.length, Fin.ent (styl_new g10) (Fin.of ⟨0, by omega, rfl, by omega, rfl, by simp, by simp, e10'⟩), ?_⟩
  rintro _ _ _ _ ⟨j, hj, rfl, rfl, rfl, hs, hx, rfl⟩
  have lset : Le h (h.set k9 (stylO [])) := Le.new a9
  have nset : NewOver B h (h.set k9 (stylO [])) := (NewOver.refl B h).set b9
  refine ⟨fun hlt => ?_, fun hge => Fin.of ?_⟩
  · have hj' : j < l.length := by omega
    have hw : IntKind.wrap .i64 ((j : Int) + 1) = ((j + 1 : Nat) : Int) := by rw [w64 (by omega) (by omega)]; omega
    obtain ⟨A, e1, e2, e3⟩ := read j hj' lset nset
    refine ⟨A, e1, by omega, hlt, l[j], (by simpa using e3), fun _ => Fin.ent back (Fin.of hQ), fun hle => ⟨fun _ => Fin.ent back (Fin.of hQ), fun hle2 => Fin.of ?_⟩⟩
    have hsum : ((l.take (j + 1)).map ByteArray.size).sum = ((l.take j).map ByteArray.size).sum + l[j].size := by
      rw [List.take_succ_eq_append_getElem hj', List.map_append, List.sum_append]; rfl
    have hw2 : IntKind.wrap .i64 ((((l.take j).map ByteArray.size).sum : Nat) + ((ByteArray.size l[j] : Nat) : Int)) = ((((l.take (j + 1)).map ByteArray.size).sum : Nat) : Int) := by
      rw [hsum, w64 (by omega) (by omega)]; omega
    rw [hw2] at hle2 ⊢
    refine ⟨_, by omega, j + 1, by omega, hw, rfl, rfl, by omega, fun x hm => ?_, rfl⟩
    rw [List.take_succ_eq_append_getElem hj'] at hm
    rcases List.mem_append.1 hm with hm | hm
    · exact hx x hm
    · rw [List.mem_singleton] at hm; subst hm; omega
  · have : j = l.length := by omega
    subst this
    rw [List.take_length] at hs hx
    have hlen := textsRoom l
    unfold S_countermandlaw01_StylusTexts_J1
    refine text_wp (bs := []) (Heap.set_same _ _ _) (fun i s hi => ?_) (by simp only [List.length_nil]; omega) ?_
    · obtain ⟨hil, rfl⟩ := List.getElem?_eq_some_iff.1 hi
      obtain ⟨A, e1, e2, e3⟩ := read i hil lset nset
      exact ⟨A, e1, e2, by simpa using e3⟩
    rw [List.nil_append, Heap.set_set]
    have htb : (l.flatMap fun s => natB s.size ++ bl s) = textsB l := rfl
    rw [htb]
    have htl := textsB_length l hx
    refine bytes_wp (Heap.set_same _ _ _) (rof_wp (l := textsB l) rfl fun k a1 b1 => ?_)
    have hk9 : k ≠ k9 := Heap.ne_of a1 (Heap.set_same _ _ _)
    generalize e1 : h.set k9 (stylO (textsB l)) = h1 at a1 ⊢
    have l1 : Le h h1 := e1 ▸ Le.new a9
    have n1 : NewOver B h h1 := e1 ▸ (NewOver.refl B h).set b9
    refine ⟨fun i m h' => ∃ j : Nat, j ≤ l.length ∧ i = j ∧ m = l.length - j ∧ h' = h1.set k (rdO (textsB (l.drop j)) false), l.length, Fin.of ⟨0, by omega, rfl, by omega, by rw [List.drop_zero]⟩, ?_⟩
    rintro _ _ _ ⟨j, hj, rfl, rfl, rfl⟩
    have gs : (h1.set k (rdO (textsB (l.drop j)) false)) k = some (rdO (textsB (l.drop j)) false) := Heap.set_same _ _ _
    refine ⟨fun hlt => ?_, fun hge => Fin.of ?_⟩
    · have hj' : j < l.length := by omega
      have hw : IntKind.wrap .i64 ((j : Int) + 1) = ((j + 1 : Nat) : Int) := by rw [w64 (by omega) (by omega)]; omega
      obtain ⟨A, q1, q2, q3⟩ := read j hj' (l1.set (l1.none a1)) (n1.set b1)
      refine ⟨A, q1, by omega, hlt, l[j], (by simpa using q3), ?_⟩
      have hxj := hx l[j] (List.getElem_mem hj')
      refine rtext_wp (by decide) gs ?_
      have hd : textsB (l.drop j) = natB (bl l[j]).length ++ bl l[j] ++ textsB (l.drop (j + 1)) := by
        rw [List.drop_eq_getElem_cons hj', textsB_cons, bl_length]
      have hrd := rText_ok (x := bl l[j]) (most := 2048) (by rw [bl_length]; omega) (by rw [bl_length]; omega) (textsB (l.drop (j + 1)))
      rw [← hd] at hrd
      rw [hrd, Heap.set_set]
      exact ⟨fun _ => Fin.of ⟨_, by omega, j + 1, by omega, hw, rfl, rfl⟩, fun hne => absurd (ba_bl _) hne⟩
    · have : j = l.length := by omega
      subst this
      rw [List.drop_length] at gs ⊢
      have gs : (h1.set k (rdO (textsB []) false)) k = some (rdO [] false) := gs
      have back2 : Ent B (h1.set k (rdO (textsB []) false)) h := Ent.forget (l1.set (l1.none a1))
      unfold S_countermandlaw01_StylusTexts_J2
      refine rover_wp gs ⟨fun _ => ⟨fun h0 => rover_wp gs (Fin.ent back2 (Fin.of hQ)), fun hn0 => Fin.of ?_⟩, fun e => by simp at e⟩
      rw [ba_size] at hn0
      unfold S_countermandlaw01_StylusTexts_J3
      have hbs : IntKind.wrap .u64 ((ByteArray.size (ba (textsB l)) : Nat) : Int) = (((textsB l).length : Nat) : Int) := by rw [ba_size, wu64]; omega
      have hpos : 0 < (textsB l).length := by omega
      obtain ⟨u, hu, hul⟩ : ∃ u : Nat, IntKind.wrap .i64 (Int.tmod (IntKind.wrap .u64 cut) (((textsB l).length : Nat) : Int)) = (u : Int) ∧ u < (textsB l).length := by
        have h0 : 0 ≤ IntKind.wrap .u64 cut := by rw [wu64]; omega
        obtain ⟨v, hv⟩ := Int.eq_ofNat_of_zero_le h0
        have hm : v % (textsB l).length < (textsB l).length := Nat.mod_lt _ hpos
        refine ⟨v % (textsB l).length, ?_, hm⟩
        rw [hv, Int.tmod_eq_emod_of_nonneg (by omega), ← Int.natCast_emod, w64 (by omega) (by omega)]
      rw [hbs, hu]
      refine ⟨by omega, by omega, by omega, by rw [ba_size]; omega, rof_wp (l := (textsB l).take u) (by rw [Int.toNat_natCast]; exact extract_ba _ _) fun k2 a2 b2 => ?_⟩
      generalize e2 : h1.set k (rdO (textsB []) false) = h2 at a2 ⊢
      have l2 : Le h h2 := e2 ▸ l1.set (l1.none a1)
      refine ⟨fun i m h' => ∃ (j : Nat) (r : List UInt8) (bad : Bool), j ≤ l.length ∧ i = j ∧ m = l.length - j ∧ CutOk (textsB (l.drop j)) r bad ∧ h' = h2.set k2 (rdO r bad), l.length, Fin.of ⟨0, _, _, by omega, rfl, by omega, .inr ⟨rfl, (textsB l).drop u, fun e => ?_, by rw [List.take_append_drop, List.drop_zero]⟩, rfl⟩, ?_⟩
      · have := congrArg List.length e
        rw [List.length_drop, List.length_nil] at this; omega
      rintro _ _ _ ⟨j, r, bad, hj, rfl, rfl, hc, rfl⟩
      refine ⟨fun hlt => ?_, fun hge => Fin.of ?_⟩
      · have hj' : j < l.length := by omega
        have hw : IntKind.wrap .i64 ((j : Int) + 1) = ((j + 1 : Nat) : Int) := by rw [w64 (by omega) (by omega)]; omega
        refine rtext_wp (by decide) (Heap.set_same _ _ _) (Fin.of ⟨_, by omega, j + 1, _, _, by omega, hw, rfl, ?_, Heap.set_set _ _ _ _⟩)
        rw [List.drop_eq_getElem_cons hj', textsB_cons] at hc
        exact hc.step (hx l[j] (List.getElem_mem hj'))
      · have : j = l.length := by omega
        subst this
        rw [List.drop_length] at hc
        rcases hc with ⟨rfl, rfl⟩ | ⟨_, z, hz, hl⟩
        · unfold S_countermandlaw01_StylusTexts_J4
          exact rbad_wp (Heap.set_same _ _ _) ⟨fun _ => rleft_wp (Heap.set_same _ _ _) (Fin.ent (Ent.forget (l2.set (l2.none a2))) (Fin.of hQ)), fun e => by cases e⟩
        · have := congrArg List.length hl
          rw [List.length_append, show textsB [] = [] from rfl, List.length_nil] at this
          exact absurd (List.length_eq_zero_iff.1 (by omega)) hz
end
theorem StylusTexts_calls {H : Type} {enc : TypeId × Value → H} (W : World) {a : Option Addr} {len cap : Nat} {d : DataW H} {p : List MemPlace} (k : DataW.Trod enc PG W 0 (fun _ => true) true TY.s_string (.slice a len cap) d p) (n : Int) (wn : (Lit.int .i64 n).wf = true) :
    Calls PG FN.countermandlaw01_StylusTexts #[.slice a len cap, .int .i64 n] W fun e w' => e = .returned (.bool true) ∧ Below W.heap.size W w' := by
  obtain ⟨l, rfl, hr, hok⟩ := Str_arg k
  refine Spec.calls (Spec.mono (StylusTexts_wp (Q := fun b _ => b = true) hr (wf64 wn) rfl) ?_)
  rintro v h' ⟨b, rfl, rfl⟩
  rfl
end Go.Proofs.Ytoajfmmomgpjcaa.H
