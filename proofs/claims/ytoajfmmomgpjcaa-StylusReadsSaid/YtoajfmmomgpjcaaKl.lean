/- The law StylusReads: the whole. No condition. -/
import Derived.Test.YtoajfmmomgpjcaaKk
namespace Go.Proofs.Ytoajfmmomgpjcaa.H
open Go Go.RowKit
set_option linter.unusedVariables false
set_option maxRecDepth 100000

theorem fin3_bad (kind N : Int) (s : List UInt8) (num : Int) : fin3 kind N s true num = (0, [], [], true) := by
  unfold fin3
  split
  · rw [if_pos (.inl rfl)]
  · rw [if_pos rfl]
theorem rNat_true (N : Int) (l : List UInt8) : rNat N l true = (0, [], true) := by
  rw [rNat, rWord_bad]; split <;> rfl
theorem rRaw_true (k : Int) (l : List UInt8) : rRaw k l true = ([], [], true) := by rw [rRaw, if_pos (.inl rfl)]
theorem rText_true (N : Int) (l : List UInt8) : rText N l true = ([], [], true) := by rw [rText, rNat_true, rRaw_true]
theorem fin3_end (kind N : Int) (s : List UInt8) (bad : Bool) (num : Int) : (fin3 kind N s bad num).2.2.2 = true → (fin3 kind N s bad num).2.2.1 = [] := by
  unfold fin3
  split
  · split
    · intro _; rfl
    · intro e; cases e
  · split
    · intro _; rfl
    · intro e; cases e

section
variable {B : RO} {h : Heap}
theorem StylusReads_wp {a : Option Addr} {c : Nat} {s : ByteArray} {l : List Ask} {Q : Bool → Heap → Prop} (hr : Reads B h a 2 Ask.cells l) (hok : ∀ x ∈ l, x.ok) (hQ : Q true h) : C_countermandlaw01_StylusReads B s a l.length c h Q := by
  refine C_countermandlaw01_StylusReads.of ?_
  unfold S_countermandlaw01_StylusReads
  refine alive_wp ⟨fun _ => ⟨fun _ => Fin.of hQ, fun h50 => ⟨fun _ => Fin.of hQ, fun hsz => Fin.of ?_⟩⟩, fun e => by cases e⟩
  unfold S_countermandlaw01_StylusReads_J1
  refine rof_wp (l := bl s) (ba_bl s).symm fun k a1 b1 => ?_
  refine ⟨fun s' bad i m h' => ∃ (j : Nat) (t : List UInt8), j ≤ l.length ∧ i = j ∧ m = l.length - j ∧ s' = ba t ∧ t.length ≤ 2048 ∧ (bad = true → t = []) ∧ h' = h.set k (rdO t bad), l.length, Fin.of ⟨0, bl s, by omega, rfl, by omega, (ba_bl s).symm, by rw [bl_length]; omega, fun e => (by cases e), rfl⟩, ?_⟩
  rintro _ bad _ _ _ ⟨j, t, hj, rfl, rfl, rfl, htl, hbt, rfl⟩
  have gs : (h.set k (rdO t bad)) k = some (rdO t bad) := Heap.set_same _ _ _
  have back0 : Ent B (h.set k (rdO t bad)) h := Ent.forget (Le.new a1)
  refine ⟨fun hlt => ?_, fun hge => Fin.ent back0 (Fin.of (Reads2 hQ))⟩
  have hj' : j < l.length := by omega
  have hw : IntKind.wrap .i64 ((j : Int) + 1) = ((j + 1 : Nat) : Int) := by rw [w64 (by omega) (by omega)]; omega
  have hokk := hok l[j] (List.getElem_mem hj')
  obtain ⟨A, e1, e3, e4⟩ := hr j l[j] (List.getElem?_eq_getElem hj')
  have hAk : A.block ≠ k := fun e => by rw [e] at e3; exact e3 a1 b1
  refine ⟨A, e1, by omega, hlt, l[j].kind, l[j].n, ?_, fun k46 a46 b46 h47 e47 => ?_⟩
  · have e5 := CellsAt.set (o := rdO t bad) (b := k) (by rw [Addr.add_block']; exact hAk) e4
    simpa [Ask.cells] using e5
  obtain ⟨g47, l47, f47⟩ := Heap.made a46 e47
  obtain ⟨n46, g47'⟩ := f47 _ _ gs
  refine ⟨_, stores_whole g47 rfl (by simp) (by simp [isOne]) (by simp), ?_⟩
  generalize e48 : h47.set k46 _ = h48
  obtain ⟨g48, f48, -⟩ := Heap.put e48
  have g48' : h48 k = _ := f48 _ (Ne.symm n46)
  rw [g47'] at g48'
  have q48 : ∀ c o, c ≠ k → h c = some o → h48 c = some o := by
    intro c o hc hh
    have h1 : (h.set k (rdO t bad)) c = some o := Heap.get_set hc hh
    rw [f48 c (fun e => by rw [e, a46] at h1; cases h1)]
    exact l47 _ _ h1
  have l48 : Le h h48 := fun c o hh => q48 c o (fun e => by rw [e, a1] at hh; cases hh) hh
  -- what is shown of a way: which triple comes out, and that the reader tells the same
  have way : ∀ (t' : List UInt8) (bad' : Bool) (num : Int), t'.length ≤ 2048 →
      (l[j].kind = 0 → (fin3 l[j].kind l[j].n t' bad' num).1 = ((rNat l[j].n t bad).1 : Nat) ∧ (rNat l[j].n t bad).2 = ((fin3 l[j].kind l[j].n t' bad' num).2.2.1, (fin3 l[j].kind l[j].n t' bad' num).2.2.2)) →
      (l[j].kind = 1 → (fin3 l[j].kind l[j].n t' bad' num).1 = ((rWord t bad).1 : Nat) ∧ (rWord t bad).2 = ((fin3 l[j].kind l[j].n t' bad' num).2.2.1, (fin3 l[j].kind l[j].n t' bad' num).2.2.2)) →
      (l[j].kind = 2 → rRaw l[j].n t bad = (fin3 l[j].kind l[j].n t' bad' num).2) →
      (l[j].kind = 3 → rText l[j].n t bad = (fin3 l[j].kind l[j].n t' bad' num).2) →
      S_countermandlaw01_StylusReads_J3 B a l.length c (some ⟨k, 0, none⟩) ((j : Nat) : Int) (l.length - j) (fun s' bad i m h' => ∃ (j : Nat) (t : List UInt8), j ≤ l.length ∧ i = j ∧ m = l.length - j ∧ s' = ba t ∧ t.length ≤ 2048 ∧ (bad = true → t = []) ∧ h' = h.set k (rdO t bad)) k46 (ba t') bad' num h48 Q := by
    intro t' bad' num htl' w0 w1 w2 w3
    refine Reads3 g48 (Reads6 hokk.2 g48 g48' w0 w1 w2 w3 (fin3_end _ _ _ _ _) (Fin.ent (Ent.forget l48) (Fin.of hQ)) ?_)
    have hlen : (fin3 l[j].kind l[j].n t' bad' num).2.2.1.length ≤ 2048 := by
      unfold fin3
      split
      · split
        · simp
        · simp only [List.length_drop]; omega
      · split
        · simp
        · exact htl'
    refine Fin.ent (Ent.forget (h' := h.set k (rdO (fin3 l[j].kind l[j].n t' bad' num).2.2.1 (fin3 l[j].kind l[j].n t' bad' num).2.2.2)) ?_) (Fin.of ⟨_, by omega, j + 1, _, by omega, hw, rfl, rfl, hlen, fin3_end _ _ _ _ _, rfl⟩)
    intro c o hc
    by_cases hck : c = k
    · subst hck; rw [Heap.set_same] at hc ⊢; exact hc
    · rw [Heap.set_ne _ _ _ _ hck] at hc ⊢; exact q48 c o hck hc
  have k2 : ∀ {x y : Int}, x = y → x ≠ y → False := fun e n => n e
  refine ⟨l[j].kind, cellH_vec g48 rfl, fun hk2 => Fin.of (way t bad 0 htl (fun e => by omega) (fun e => by omega) (fun _ => ?_) (fun e => by omega)), fun hk2 => taken_wp (by rw [ba_size]; omega) ?_⟩
  · rw [fin3, if_pos (by omega), takeOf, if_neg (by omega : ¬ l[j].kind = 3), rRaw]
    split <;> rfl
  · rw [bl_ba]
    -- the ways in which nothing is read
    have bd : (bad = true ∨ wordOf t = none ∨ (l[j].kind ≠ 1 ∧ (l[j].n < 0 ∨ ∃ n r, wordOf t = some (n, r) ∧ l[j].n < (n : Int)))) → ∀ u v : Int, S_countermandlaw01_StylusReads_J9 B a l.length c (some ⟨k, 0, none⟩) (ba t) ((j : Nat) : Int) (l.length - j) (fun s' bad i m h' => ∃ (j : Nat) (t : List UInt8), j ≤ l.length ∧ i = j ∧ m = l.length - j ∧ s' = ba t ∧ t.length ≤ 2048 ∧ (bad = true → t = []) ∧ h' = h.set k (rdO t bad)) k46 u v true h48 Q := by
      intro hb u v
      unfold S_countermandlaw01_StylusReads_J9
      refine ⟨fun _ => Fin.of ?_, fun e => by cases e⟩
      have rn : l[j].kind ≠ 1 → rNat l[j].n t bad = (0, [], true) := by
        intro n1
        rcases hb with rfl | hb | ⟨_, hb | ⟨n, r, hb, hlt⟩⟩
        · exact rNat_true _ _
        · rw [rNat, rWord_none hb]; split <;> rfl
        · rw [rNat, if_pos (.inl hb)]
        · cases bad with
          | true => exact rNat_true _ _
          | false => rw [rNat, rWord_some hb, if_pos (.inr hlt)]
      refine way t true 0 htl (fun e => ?_) (fun e => ?_) (fun e => absurd e hk2) (fun e => ?_)
      · rw [rn (by omega), fin3_bad]; exact ⟨rfl, rfl⟩
      · have : rWord t bad = (0, [], true) := by
          rcases hb with rfl | hb | ⟨n1, _⟩
          · exact rWord_bad _
          · exact rWord_none hb _
          · exact absurd e n1
        rw [this, fin3_bad]; exact ⟨rfl, rfl⟩
      · rw [rText, rn (by omega), rRaw_true, fin3_bad]
    refine ⟨fun e => Fin.of (bd (.inl e) _ _), fun e => ⟨fun e0 => Fin.of (bd (.inr (.inl ?_)) _ _), fun e0 => ?_⟩⟩
    · cases hwo : wordOf t with
      | none => rfl
      | some p =>
        obtain ⟨n, r⟩ := p
        have h1 := congrArg List.length (wordOf_eq hwo).1
        rw [List.length_append] at h1
        have h2 := natB_pos n
        rw [takenOf, hwo] at e0
        simp only at e0
        omega
    · cases hwo : wordOf t with
      | none => rw [takenOf, hwo] at e0; exact absurd rfl e0
      | some p =>
        obtain ⟨n, r⟩ := p
        obtain ⟨w1, w2⟩ := wordOf_eq hwo
        have h1 := congrArg List.length w1
        rw [List.length_append] at h1
        have htk : takenOf t = (n, t.length - r.length) := by rw [takenOf, hwo]
        rw [htk]
        have hdrop : t.drop (t.length - r.length) = r := by
          conv => lhs; rw [w1]
          rw [List.length_append, Nat.add_sub_cancel, List.drop_left]
        subst e
        have ok : (l[j].kind = 1 ∨ (0 ≤ l[j].n ∧ (n : Int) ≤ l[j].n)) → S_countermandlaw01_StylusReads_J9 B a l.length c (some ⟨k, 0, none⟩) (ba t) ((j : Nat) : Int) (l.length - j) (fun s' bad i m h' => ∃ (j : Nat) (t : List UInt8), j ≤ l.length ∧ i = j ∧ m = l.length - j ∧ s' = ba t ∧ t.length ≤ 2048 ∧ (bad = true → t = []) ∧ h' = h.set k (rdO t bad)) k46 ((n : Nat) : Int) ((t.length - r.length : Nat) : Int) false h48 Q := by
          intro hor
          unfold S_countermandlaw01_StylusReads_J9
          refine ⟨fun e => (by cases e), fun _ => ⟨by omega, by rw [ba_size]; omega, by omega, Fin.of ?_⟩⟩
          have x2 : (ba t).extract (Int.toNat ((t.length - r.length : Nat) : Int)) (Int.toNat (((ba t).size : Nat) : Int)) = ba r := by
            rw [ba_size, Int.toNat_natCast, Int.toNat_natCast, extract_ba_end, hdrop]
          rw [x2]
          have rn : l[j].kind ≠ 1 → rNat l[j].n t false = (n, r, false) := by
            intro n1
            rw [rNat, rWord_some hwo, if_neg (by simp only; omega)]
          refine way r false n (by omega) (fun e => ?_) (fun e => ?_) (fun e => absurd e hk2) (fun e => ?_)
          · rw [rn (by omega), fin3, if_neg (by omega), if_neg (by simp)]; exact ⟨rfl, rfl⟩
          · rw [rWord_some hwo, fin3, if_neg (by omega), if_neg (by simp)]; exact ⟨rfl, rfl⟩
          · have hwn : IntKind.wrap .i64 ((n : Nat) : Int) = ((n : Nat) : Int) := by
              have := hokk.2
              rw [w64 (by omega) (by omega)]
            rw [rText, rn (by omega), fin3, if_pos (by omega), takeOf, if_pos e, hwn, rRaw]
            simp only
            split <;> rfl
        refine ⟨l[j].kind, cellH_vec g48 rfl, fun k1 => Fin.of (ok (.inl k1)), fun k1 => ⟨l[j].n, cellH_vec g48 rfl, fun hneg => Fin.of (bd (.inr (.inr ⟨k1, .inl hneg⟩)) _ _), fun hpos => ⟨l[j].n, cellH_vec g48 rfl, fun hgt => Fin.of (bd (.inr (.inr ⟨k1, .inr ⟨n, r, hwo, ?_⟩⟩)) _ _), fun hle => Fin.of (ok (.inr ⟨by omega, ?_⟩))⟩⟩⟩
        · rw [wu64] at hgt; have := hokk.2; simp only at hgt; omega
        · rw [wu64] at hle; have := hokk.2; simp only at hle; omega
end
theorem StylusReads_calls {H : Type} {enc : TypeId × Value → H} (W : World) (s : ByteArray) (_ : s.size ≤ 140737488351232) {a : Option Addr} {len cap : Nat} {d : DataW H} {p : List MemPlace} (k : DataW.Trod enc PG W 0 (fun _ => true) true TY.s_countermandlaw01_Ask (.slice a len cap) d p) :
    Calls PG FN.countermandlaw01_StylusReads #[.string s, .slice a len cap] W fun e w' => e = .returned (.bool true) ∧ Below W.heap.size W w' := by
  obtain ⟨l, rfl, hr, hok⟩ := Ask_arg k
  refine Spec.calls (Spec.mono (StylusReads_wp (Q := fun b _ => b = true) hr hok rfl) ?_)
  rintro v h' ⟨b, rfl, rfl⟩
  rfl
end Go.Proofs.Ytoajfmmomgpjcaa.H
