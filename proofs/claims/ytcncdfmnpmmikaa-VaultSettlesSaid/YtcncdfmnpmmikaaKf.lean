/- What a reader's functions do: contracts; and Taken. No condition. -/
import Derived.Test.YtcncdfmnpmmikaaKc
import Derived.Test.YtcncdfmnpmmikaaMb
namespace Go.Proofs.Ytcncdfmnpmmikaa.H
open Go
set_option linter.unusedVariables false
set_option maxRecDepth 100000

section
variable {B : RO} {h : Heap}

/-- A reader with these bytes left. -/
def rdO (l : List UInt8) (bad : Bool) : AObj := readO (ba l) bad

theorem spoil_wp {b : Nat} {l : List UInt8} {bad : Bool} {Q : Heap → Prop} (hb : h b = some (rdO l bad)) (hQ : Q (h.set b (rdO [] true))) : C_stylus_Reader_Spoil B (some ⟨b, 0, none⟩) h Q := by
  refine C_stylus_Reader_Spoil.of ?_
  unfold S_stylus_Reader_Spoil
  refine ⟨(fun e => by cases e), fun _ => ⟨_, rfl, _, storeH_vec hb rfl, _, rfl, _, storeH_vec (Heap.set_same _ _ _) rfl, Fin.of ?_⟩⟩
  rw [Heap.set_set]
  exact hQ
theorem spoil_nil {Q : Heap → Prop} (hQ : Q h) : C_stylus_Reader_Spoil B none h Q := by
  refine C_stylus_Reader_Spoil.of ?_
  unfold S_stylus_Reader_Spoil
  exact ⟨fun _ => Fin.of hQ, fun e => absurd rfl e⟩

def rRaw (k : Int) (l : List UInt8) (bad : Bool) : List UInt8 × List UInt8 × Bool := if bad = true ∨ k < 0 ∨ (l.length : Int) < k then ([], [], true) else (l.take k.toNat, l.drop k.toNat, false)

theorem rraw_wp {b : Nat} {l : List UInt8} {bad : Bool} {k : Int} {Q : ByteArray → Heap → Prop} (hb : h b = some (rdO l bad)) (hQ : Q (ba (rRaw k l bad).1) (h.set b (rdO (rRaw k l bad).2.1 (rRaw k l bad).2.2))) : C_stylus_Reader_Raw B (some ⟨b, 0, none⟩) k h Q := by
  refine C_stylus_Reader_Raw.of ?_
  unfold S_stylus_Reader_Raw
  refine ⟨(fun e => by cases e), fun _ => ⟨_, rfl, bad, cellH_vec hb rfl, fun e => ?_, fun e => ⟨fun hk => ?_, fun hk => ⟨_, rfl, _, cellH_vec hb rfl, fun hgt => ?_, fun hgt => Fin.of ?_⟩⟩⟩⟩
  · rw [rRaw, if_pos (.inl e)] at hQ
    exact spoil_wp hb (Fin.of hQ)
  · rw [rRaw, if_pos (.inr (.inl hk))] at hQ
    exact spoil_wp hb (Fin.of hQ)
  · rw [ba_size] at hgt
    rw [rRaw, if_pos (.inr (.inr (by omega)))] at hQ
    exact spoil_wp hb (Fin.of hQ)
  · rw [ba_size] at hgt
    rw [rRaw, if_neg (by rw [e]; simp; omega)] at hQ
    unfold S_stylus_Reader_Raw_J1
    refine ⟨_, rfl, _, cellH_vec hb rfl, by omega, by omega, by rw [ba_size]; omega, _, rfl, _, cellH_vec hb rfl, by omega, by rw [ba_size]; omega, by omega, _, rfl, _, storeH_vec hb rfl, Fin.of ?_⟩
    have e1 : (ba l).extract (Int.toNat 0) (Int.toNat k) = ba (l.take k.toNat) := extract_ba l _
    have e2 : (ba l).extract (Int.toNat k) (Int.toNat (((ba l).size : Nat) : Int)) = ba (l.drop k.toNat) := by
      rw [ba_size, Int.toNat_natCast]; exact extract_ba_end l _
    rw [e1, e2]
    rw [← e] at hQ
    exact hQ
theorem rraw_nil {k : Int} {Q : ByteArray → Heap → Prop} (hQ : Q (ByteArray.mk #[]) h) : C_stylus_Reader_Raw B none k h Q := by
  refine C_stylus_Reader_Raw.of ?_
  unfold S_stylus_Reader_Raw
  exact ⟨fun _ => spoil_nil (Fin.of hQ), fun e => absurd rfl e⟩

noncomputable def rWord (l : List UInt8) (bad : Bool) : Nat × List UInt8 × Bool := if bad = true then (0, [], true) else match wordOf l with
  | some (n, r) => (n, r, false)
  | none => (0, [], true)
theorem rWord_bad (l : List UInt8) : rWord l true = (0, [], true) := by rw [rWord, if_pos rfl]
theorem rWord_none {l : List UInt8} (h : wordOf l = none) (bad : Bool) : rWord l bad = (0, [], true) := by
  cases bad
  · rw [rWord, if_neg (by simp), h]
  · exact rWord_bad l
theorem rWord_some {l r : List UInt8} {n : Nat} (h : wordOf l = some (n, r)) : rWord l false = (n, r, false) := by rw [rWord, if_neg (by simp), h]

theorem word_wp {b : Nat} {l : List UInt8} {bad : Bool} {Q : Int → Heap → Prop} (hb : h b = some (rdO l bad)) (hQ : Q ((rWord l bad).1 : Nat) (h.set b (rdO (rWord l bad).2.1 (rWord l bad).2.2))) : C_stylus_Reader_word B (some ⟨b, 0, none⟩) h Q := by
  refine C_stylus_Reader_word.of ?_
  unfold S_stylus_Reader_word
  cases bad with
  | true =>
    rw [rWord_bad] at hQ
    refine ⟨fun u i m h' => u = 0 ∧ i = 0 ∧ h' = h, 0, Fin.of ⟨rfl, rfl, rfl⟩, ?_⟩
    rintro _ _ m _ ⟨rfl, rfl, rfl⟩
    refine ⟨fun _ => rraw_wp hb ?_, fun hn => absurd hn (by decide)⟩
    have e : rRaw 1 l true = ([], [], true) := by rw [rRaw, if_pos (.inl rfl)]
    rw [e]
    refine ⟨fun _ => spoil_wp (Heap.set_same _ _ _) (Fin.of ?_), fun hn => absurd ba_nil hn⟩
    rw [Heap.set_set]; exact hQ
  | false =>
    refine ⟨fun u i m h' => ∃ (k acc : Nat) (rest : List UInt8), k ≤ 9 ∧ u = acc ∧ i = ((7 * k : Nat) : Int) ∧ m = 10 - k ∧ Half l k acc rest ∧ h' = h.set b (rdO rest false), 10, Fin.of ⟨0, 0, l, by omega, rfl, rfl, rfl, Half.zero l, (Heap.set_self _ _ _ hb).symm⟩, ?_⟩
    rintro _ _ _ _ ⟨k, acc, rest, hk, rfl, rfl, rfl, hH, rfl⟩
    have gs : (h.set b (rdO rest false)) b = some (rdO rest false) := Heap.set_same _ _ _
    refine ⟨fun _ => ?_, fun hn => by omega⟩
    have fail : wordOf l = none → ∀ h', (∃ l' b', h' = h.set b (rdO l' b')) → C_stylus_Reader_Spoil B (some ⟨b, 0, none⟩) h' (fun h17 => Fin B h17 (Q 0)) := by
      rintro hno h' ⟨l', b', rfl⟩
      rw [rWord_none hno] at hQ
      refine spoil_wp (Heap.set_same _ _ _) (Fin.of ?_)
      rw [Heap.set_set]; exact hQ
    cases rest with
    | nil =>
      refine rraw_wp gs ?_
      have e : rRaw 1 [] false = ([], [], true) := by rw [rRaw, if_pos (.inr (.inr (by simp)))]
      rw [e]
      exact ⟨fun _ => fail hH.empty _ ⟨_, _, by rw [Heap.set_set]⟩, fun hn => absurd ba_nil hn⟩
    | cons c t =>
      refine rraw_wp gs ?_
      have e : rRaw 1 (c :: t) false = ([c], t, false) := by rw [rRaw, if_neg (by simp; omega)]; rfl
      rw [e]
      have hx := c.toNat_lt
      have hb0 : byteAt (ba [c]) (Int.toNat 0) = ((c.toNat : Nat) : Int) := rfl
      have hsz : (ba [c]).size = 1 := rfl
      have hne : ¬ ba [c] = ByteArray.mk #[] := fun e => by have := ba_inj (e.trans ba_nil.symm); cases this
      refine ⟨fun e => absurd e hne, fun _ => ?_⟩
      simp only [Heap.set_set, hb0, hsz]
      -- what is done with a byte that is let through
      have go : (0 < k → c.toNat ≠ 0) → (k = 9 → c.toNat ≤ 1) → S_stylus_Reader_word_J1 B (some ⟨b, 0, none⟩) ((acc : Nat) : Int) ((7 * k : Nat) : Int) (10 - k) (fun u i m h' => ∃ (k acc : Nat) (rest : List UInt8), k ≤ 9 ∧ u = acc ∧ i = ((7 * k : Nat) : Int) ∧ m = 10 - k ∧ Half l k acc rest ∧ h' = h.set b (rdO rest false)) (ba [c]) (h.set b (rdO t false)) Q := by
        intro q0 q9
        unfold S_stylus_Reader_word_J1
        simp only [hb0, hsz]
        refine ⟨by omega, by omega, by omega, by omega, by omega, fun hlt => Fin.of ?_, fun hge => Fin.of ?_⟩
        · have hlt' : c.toNat < 128 := by omega
          have hbd := hH.bound hk hlt' q9
          rw [orShift hH.1 hk hx (by rw [Nat.mod_eq_of_lt hlt']; exact hbd), Nat.mod_eq_of_lt hlt']
          rw [rWord_some (wordOf_some (hH.done hlt' q0) hbd)] at hQ
          exact hQ
        · have hge' : 128 ≤ c.toNat := by omega
          have hk8 : k < 9 := by
            by_cases h9 : k = 9
            · have := q9 h9; omega
            · omega
          have hsu := hH.succ hge'
          have hp : 2 ^ (7 * (k + 1)) ≤ 2 ^ 63 := Nat.pow_le_pow_right (by omega) (by omega)
          have := hsu.1
          rw [orShift hH.1 hk hx (by omega)]
          refine ⟨9 - k, by omega, k + 1, _, t, by omega, rfl, ?_, by omega, hsu, rfl⟩
          rw [w64 (by omega) (by omega)]; omega
      refine ⟨fun h63 => ⟨by omega, by omega, fun hgt => ?_, fun hle => ?_⟩, fun h63 => ?_⟩
      · have : k = 9 := by omega
        subst this
        exact fail (hH.great (by omega)) _ ⟨_, _, rfl⟩
      · refine ⟨fun hpos => ⟨by omega, by omega, fun h0 => fail (hH.zeroByte (by omega) (by omega)) _ ⟨_, _, rfl⟩, fun h0 => Fin.of (go (fun _ => by omega) (fun _ => by omega))⟩, fun hpos => Fin.of (go (fun _ => by omega) (fun _ => by omega))⟩
      · refine ⟨fun hpos => ⟨by omega, by omega, fun h0 => fail (hH.zeroByte (by omega) (by omega)) _ ⟨_, _, rfl⟩, fun h0 => Fin.of (go (fun _ => by omega) (fun _ => by omega))⟩, fun hpos => Fin.of (go (fun _ => by omega) (fun _ => by omega))⟩
theorem word_nil {Q : Int → Heap → Prop} (hQ : Q 0 h) : C_stylus_Reader_word B none h Q := by
  refine C_stylus_Reader_word.of ?_
  unfold S_stylus_Reader_word
  refine ⟨fun u i m h' => u = 0 ∧ i = 0 ∧ h' = h, 0, Fin.of ⟨rfl, rfl, rfl⟩, ?_⟩
  rintro _ _ m _ ⟨rfl, rfl, rfl⟩
  exact ⟨fun _ => rraw_nil ⟨fun _ => spoil_nil (Fin.of hQ), fun hn => absurd rfl hn⟩, fun hn => absurd hn (by decide)⟩

noncomputable def rNat (most : Int) (l : List UInt8) (bad : Bool) : Nat × List UInt8 × Bool := if most < 0 ∨ most < ((rWord l bad).1 : Nat) then (0, [], true) else rWord l bad
theorem rWord_lt (l : List UInt8) (bad : Bool) : (rWord l bad).1 < 18446744073709551616 := by
  cases bad with
  | true => rw [rWord_bad]; decide
  | false =>
    cases hw : wordOf l with
    | none => rw [rWord_none hw]; decide
    | some p => rw [rWord_some (n := p.1) (r := p.2) hw]; exact (wordOf_eq (n := p.1) (r := p.2) hw).2
theorem rnat_wp {b : Nat} {l : List UInt8} {bad : Bool} {most : Int} {Q : Int → Heap → Prop} (hm : most ≤ 9223372036854775807) (hb : h b = some (rdO l bad)) (hQ : Q ((rNat most l bad).1 : Nat) (h.set b (rdO (rNat most l bad).2.1 (rNat most l bad).2.2))) : C_stylus_Reader_Nat B (some ⟨b, 0, none⟩) most h Q := by
  refine C_stylus_Reader_Nat.of ?_
  unfold S_stylus_Reader_Nat
  refine word_wp hb ⟨fun hn => ?_, fun hn => ⟨fun hgt => ?_, fun hle => Fin.of ?_⟩⟩
  · rw [rNat, if_pos (.inl hn)] at hQ
    exact spoil_wp (Heap.set_same _ _ _) (Fin.of (by rw [Heap.set_set]; exact hQ))
  · have e : IntKind.wrap .u64 most = most := by rw [wu64]; omega
    rw [e] at hgt
    rw [rNat, if_pos (.inr hgt)] at hQ
    exact spoil_wp (Heap.set_same _ _ _) (Fin.of (by rw [Heap.set_set]; exact hQ))
  · have e : IntKind.wrap .u64 most = most := by rw [wu64]; omega
    rw [e] at hle
    rw [rNat, if_neg (by omega)] at hQ
    rw [w64 (by omega) (by omega)]
    exact hQ
theorem rnat_nil {most : Int} {Q : Int → Heap → Prop} (hm : most ≤ 9223372036854775807) (hQ : Q 0 h) : C_stylus_Reader_Nat B none most h Q := by
  refine C_stylus_Reader_Nat.of ?_
  unfold S_stylus_Reader_Nat
  refine word_nil ⟨fun hn => spoil_nil (Fin.of hQ), fun hn => ⟨fun hgt => spoil_nil (Fin.of hQ), fun _ => Fin.of ?_⟩⟩
  rw [w64 (by omega) (by omega)]; exact hQ
theorem rbad_wp {b : Nat} {l : List UInt8} {bad : Bool} {Q : Bool → Heap → Prop} (hb : h b = some (rdO l bad)) (hQ : Q bad h) : C_stylus_Reader_Bad B (some ⟨b, 0, none⟩) h Q := by
  refine C_stylus_Reader_Bad.of ?_
  unfold S_stylus_Reader_Bad
  exact ⟨(fun e => by cases e), fun _ => ⟨_, rfl, bad, cellH_vec hb rfl, Fin.of hQ⟩⟩
theorem rbad_nil {Q : Bool → Heap → Prop} (hQ : Q true h) : C_stylus_Reader_Bad B none h Q := by
  refine C_stylus_Reader_Bad.of ?_
  unfold S_stylus_Reader_Bad
  exact ⟨fun _ => Fin.of hQ, fun e => absurd rfl e⟩
theorem rleft_wp {b : Nat} {l : List UInt8} {bad : Bool} {Q : Int → Heap → Prop} (hb : h b = some (rdO l bad)) (hQ : Q (l.length : Nat) h) : C_stylus_Reader_Left B (some ⟨b, 0, none⟩) h Q := by
  refine C_stylus_Reader_Left.of ?_
  unfold S_stylus_Reader_Left
  refine ⟨(fun e => by cases e), fun _ => ⟨_, rfl, ba l, cellH_vec hb rfl, Fin.of ?_⟩⟩
  rw [ba_size]; exact hQ
theorem rleft_nil {Q : Int → Heap → Prop} (hQ : Q 0 h) : C_stylus_Reader_Left B none h Q := by
  refine C_stylus_Reader_Left.of ?_
  unfold S_stylus_Reader_Left
  exact ⟨fun _ => Fin.of hQ, fun e => absurd rfl e⟩

/-! Taken -/
def valB : List UInt8 → Nat
  | [] => 0
  | b :: l => b.toNat % 128 + 128 * valB l
theorem valB_natB : ∀ n, valB (natB n) = n
  | n => by
    by_cases hn : n < 128
    · rw [natB_lo hn]; simp only [valB, UInt8.toNat_ofNat']; omega
    · rw [natB_hi hn]
      simp only [valB, UInt8.toNat_ofNat']
      rw [valB_natB (n / 128)]; omega
termination_by n => n
decreasing_by omega
/-- All bytes of a number but the last one have their highest bit. -/
theorem natB_byte : ∀ (n i : Nat) (b : UInt8), (natB n)[i]? = some b → (b.toNat < 128 ↔ i + 1 = (natB n).length)
  | n, i, b, h => by
    by_cases hn : n < 128
    · rw [natB_lo hn] at h ⊢
      cases i with
      | zero =>
        cases h
        refine ⟨fun _ => rfl, fun _ => ?_⟩
        rw [UInt8.toNat_ofNat']; omega
      | succ i => cases h
    · rw [natB_hi hn] at h ⊢
      cases i with
      | zero =>
        cases h
        have := natB_pos (n / 128)
        simp only [UInt8.toNat_ofNat', List.length_cons]; omega
      | succ i =>
        have := natB_byte (n / 128) i b (by simpa using h)
        simp only [List.length_cons]; omega
termination_by n => n
decreasing_by omega
noncomputable def takenOf (l : List UInt8) : Nat × Nat := match wordOf l with
  | some (n, r) => (n, l.length - r.length)
  | none => (0, 0)
theorem byteAt_bl {s : ByteArray} {i : Nat} (h : i < s.size) : ∃ b, (bl s)[i]? = some b ∧ byteAt s i = ((b.toNat : Nat) : Int) := by
  refine ⟨s[i], ?_, by unfold byteAt; rw [dif_pos h]⟩
  unfold bl
  have : i < s.data.toList.length := by simpa using h
  rw [List.getElem?_eq_getElem this]
  simp [ByteArray.getElem_eq_getElem_data]

theorem taken_wp {s : ByteArray} {Q : Int → Int → Heap → Prop} (hs : s.size ≤ 1099511627776) (hQ : Q ((takenOf (bl s)).1 : Nat) ((takenOf (bl s)).2 : Nat) h) : C_countermandref01_Taken B s h Q := by
  refine C_countermandref01_Taken.of ?_
  unfold S_countermandref01_Taken
  have hbl := bl_length s
  refine ⟨fun i m h' => ∃ k : Nat, i = ((k + 1 : Nat) : Int) ∧ k ≤ 10 ∧ m = 10 - k ∧ (∀ j b, j < k → (bl s)[j]? = some b → 128 ≤ b.toNat) ∧ k ≤ s.size ∧ h = h', 10, Fin.of ⟨0, rfl, by omega, by omega, fun j b hj => by omega, by omega, rfl⟩, ?_⟩
  rintro _ _ _ ⟨k, rfl, hk, rfl, hall, hks, rfl⟩
  -- where nothing is found
  have none_of : (k = 10 ∨ s.size ≤ k) → Q 0 0 h := by
    intro hor
    have : wordOf (bl s) = none := by
      refine wordOf_none fun n r e hn => ?_
      have h1 := natB_length hn
      have h2 := natB_pos n
      have h3 := congrArg List.length e
      rw [List.length_append] at h3
      have h4 : (natB n).length - 1 < (natB n).length := by omega
      have h5 : (bl s)[(natB n).length - 1]? = (natB n)[(natB n).length - 1]? := by rw [e, List.getElem?_append_left h4]
      have h6 := natB_byte n _ _ (List.getElem?_eq_getElem h4)
      rw [List.getElem?_eq_getElem h4] at h5
      have := hall _ _ (by omega) h5
      omega
    rw [takenOf, this] at hQ
    exact hQ
  refine ⟨fun hle => ⟨fun hle2 => Fin.of ?_, fun hgt2 => Fin.of (none_of (.inr (by omega)))⟩, fun hgt => Fin.of (none_of (.inl (by omega)))⟩
  unfold S_countermandref01_Taken_J1
  have hw1 : IntKind.wrap .i64 (((k + 1 : Nat) : Int) - 1) = ((k : Nat) : Int) := by rw [w64 (by omega) (by omega)]; omega
  have hw2 : IntKind.wrap .i64 (((k + 1 : Nat) : Int) + 1) = ((k + 1 + 1 : Nat) : Int) := by rw [w64 (by omega) (by omega)]; omega
  rw [hw1, hw2]
  obtain ⟨b, hb1, hb2⟩ := byteAt_bl (s := s) (i := k) (by omega)
  rw [Int.toNat_natCast, hb2]
  refine ⟨by omega, by omega, fun hgt => ?_, fun hle3 => ?_⟩
  · refine Fin.of ⟨10 - (k + 1), by omega, k + 1, rfl, by omega, rfl, fun j c hj hc => ?_, by omega, rfl⟩
    by_cases hjk : j = k
    · subst hjk; rw [hb1] at hc; cases hc; omega
    · exact hall j c (by omega) hc
  · refine ⟨fun v i m h' => ∃ j : Nat, j ≤ k + 1 ∧ i = ((j : Nat) : Int) - 1 ∧ j = m ∧ v = ((valB (((bl s).take (k + 1)).drop j) % 18446744073709551616 : Nat) : Int) ∧ h = h', k + 1, Fin.of ⟨k + 1, by omega, by omega, rfl, ?_, rfl⟩, ?_⟩
    · rw [List.drop_of_length_le (by rw [List.length_take]; omega)]; rfl
    rintro _ _ _ _ ⟨j, hj, rfl, rfl, rfl, rfl⟩
    refine ⟨fun hge => ?_, fun hlt => Fin.of ?_⟩
    · obtain ⟨j, rfl⟩ : ∃ i, j = i + 1 := ⟨j - 1, by omega⟩
      have e1 : ((j + 1 : Nat) : Int) - 1 = ((j : Nat) : Int) := by omega
      obtain ⟨c, hc1, hc2⟩ := byteAt_bl (s := s) (i := j) (by omega)
      rw [e1, Int.toNat_natCast, hc2]
      refine ⟨by omega, by omega, by decide, Fin.of ⟨j, by omega, j, by omega, by rw [w64 (by omega) (by omega)], rfl, ?_, rfl⟩⟩
      have hd : ((bl s).take (k + 1)).drop j = c :: ((bl s).take (k + 1)).drop (j + 1) := by
        have hjl : j < ((bl s).take (k + 1)).length := by rw [List.length_take]; omega
        rw [List.drop_eq_getElem_cons hjl]
        congr 1
        have : ((bl s).take (k + 1))[j]? = some c := by rw [List.getElem?_take_of_lt (by omega)]; exact hc1
        rw [List.getElem?_eq_getElem hjl] at this
        exact Option.some.inj this
      rw [hd]
      simp only [valB]
      have hx := c.toNat_lt
      rw [Int.tmod_eq_emod_of_nonneg (by rw [wu64]; omega), wu64, wu64, wu64]
      omega
    · obtain rfl : j = 0 := by omega
      rw [List.drop_zero]
      unfold S_countermandref01_Taken_J2
      have hvlt : valB ((bl s).take (k + 1)) % 18446744073709551616 < 18446744073709551616 := Nat.mod_lt _ (by omega)
      refine ⟨by omega, by omega, by omega, wide_wp hvlt ?_⟩
      have hex : s.extract (Int.toNat 0) (Int.toNat ((k + 1 : Nat) : Int)) = ba ((bl s).take (k + 1)) := by
        have := extract_ba (bl s) (k + 1)
        rw [ba_bl] at this; exact this
      rw [hex]
      refine ⟨fun e => Fin.of ?_, fun ne => Fin.of ?_⟩
      · have e2 := ba_inj e
        have e3 : bl s = natB (valB ((bl s).take (k + 1)) % 18446744073709551616) ++ (bl s).drop (k + 1) := by rw [e2, List.take_append_drop]
        rw [takenOf, wordOf_some e3 hvlt] at hQ
        have : (bl s).length - ((bl s).drop (k + 1)).length = k + 1 := by rw [List.length_drop]; omega
        simp only [this] at hQ
        exact hQ
      · have : wordOf (bl s) = none := by
          refine wordOf_none fun n r e hn => ne ?_
          have h2 := natB_pos n
          have h3 : (natB n).length = k + 1 := by
            have hlt1 : ¬ (natB n).length ≤ k := fun hle => by
              have h4 : (natB n).length - 1 < (natB n).length := by omega
              have h5 : (bl s)[(natB n).length - 1]? = (natB n)[(natB n).length - 1]? := by rw [e, List.getElem?_append_left h4]
              rw [List.getElem?_eq_getElem h4] at h5
              have := hall _ _ (by omega) h5
              have h6 := natB_byte n _ _ (List.getElem?_eq_getElem h4)
              omega
            have h4 : k < (natB n).length := by omega
            have h5 : (natB n)[k]? = some b := by rw [← hb1, e, List.getElem?_append_left h4]
            have := natB_byte n k b h5
            omega
          have h7 : (bl s).take (k + 1) = natB n := by rw [e, ← h3, List.take_left]
          rw [h7, valB_natB, Nat.mod_eq_of_lt hn]
        rw [takenOf, this] at hQ
        exact hQ
end
end Go.Proofs.Ytcncdfmnpmmikaa.H
