/- Records: reading one, and all of them: contracts. No condition. -/
import Derived.Test.YtcncdfmnpmmikaaWb
namespace Go.Proofs.Ytcncdfmnpmmikaa.H
open Go
set_option linter.unusedVariables false
set_option maxRecDepth 100000

theorem orBytes (b0 b1 : UInt8) : IntKind.wrap .i64 (((BitVec.ofInt (IntKind.bits .i64) (IntKind.wrap .i64 ((IntKind.wrap .i64 ((b0.toNat : Nat) : Int)) * 2 ^ (min (Int.toNat (8)) (IntKind.bits .i64)))) ||| BitVec.ofInt (IntKind.bits .i64) (IntKind.wrap .i64 ((b1.toNat : Nat) : Int))).toNat : Nat) : Int) = ((b0.toNat * 256 + b1.toNat : Nat) : Int) := by
  have h0 := b0.toNat_lt
  have h1 := b1.toNat_lt
  have a1 : (2 : Int) ^ (min (Int.toNat (8)) (IntKind.bits .i64)) = 256 := by decide
  rw [a1, w64 (n := ((b0.toNat : Nat) : Int)) (by omega) (by omega), w64 (n := ((b1.toNat : Nat) : Int)) (by omega) (by omega), w64 (n := ((b0.toNat : Nat) : Int) * 256) (by omega) (by omega)]
  show IntKind.wrap .i64 (((BitVec.ofInt 64 (((b0.toNat : Nat) : Int) * 256) ||| BitVec.ofInt 64 ((b1.toNat : Nat) : Int)).toNat : Nat) : Int) = _
  have e : (BitVec.ofInt 64 (((b0.toNat : Nat) : Int) * 256) ||| BitVec.ofInt 64 ((b1.toNat : Nat) : Int)).toNat = b0.toNat * 256 + b1.toNat := by
    have e0 : (((b0.toNat : Nat) : Int) * 256) = ((b0.toNat * 256 : Nat) : Int) := by omega
    rw [e0, BitVec.ofInt_natCast, BitVec.ofInt_natCast, BitVec.toNat_or, BitVec.toNat_ofNat, BitVec.toNat_ofNat, Nat.mod_eq_of_lt (by omega), Nat.mod_eq_of_lt (by omega)]
    have := Nat.two_pow_add_eq_or_of_lt (i := 8) (b := b1.toNat) (by omega) b0.toNat
    rw [show b0.toNat * 256 = 2 ^ 8 * b0.toNat by omega, ← this]
  rw [e, w64 (by omega) (by omega)]
theorem two_bytes {s : ByteArray} (h : 2 ≤ s.size) : ∃ b0 b1 t, bl s = b0 :: b1 :: t ∧ byteAt s (Int.toNat 0) = ((b0.toNat : Nat) : Int) ∧ byteAt s (Int.toNat 1) = ((b1.toNat : Nat) : Int) ∧ t.length + 2 = s.size := by
  obtain ⟨b0, h0, e0⟩ := byteAt_w (s := s) (i := 0) (by omega)
  obtain ⟨b1, h1, e1⟩ := byteAt_w (s := s) (i := 1) (by omega)
  match hb : bl s, h0, h1 with
  | x :: y :: t, h0, h1 =>
    simp at h0 h1
    subst h0 h1
    refine ⟨_, _, t, rfl, e0, e1, ?_⟩
    rw [← bl_length, hb]; rfl
theorem openL_short {s : ByteArray} (h : s.size < 6) : openL (bl s) = none := by
  have hl := bl_length s
  unfold openL
  split
  · rename_i b0 b1 t e
    rw [e] at hl
    simp at hl
    simp only
    rw [if_pos (by omega)]
  · rfl
theorem openL_cons {b0 b1 : UInt8} {t : List UInt8} : openL (b0 :: b1 :: t) = if 1024 < b0.toNat * 256 + b1.toNat ∨ t.length < b0.toNat * 256 + b1.toNat + 4 then none
    else if le4 (crcL (b0 :: b1 :: t.take (b0.toNat * 256 + b1.toNat))) = (t.drop (b0.toNat * 256 + b1.toNat)).take 4 then some (t.take (b0.toNat * 256 + b1.toNat)) else none := rfl
theorem bl_cut {s : ByteArray} {b0 b1 : UInt8} {t : List UInt8} (e : bl s = b0 :: b1 :: t) (n : Nat) : bl (s.extract 2 (2 + n)) = t.take n ∧ bl (s.extract 0 (2 + n)) = b0 :: b1 :: t.take n ∧ bl (s.extract (2 + n) (2 + n + 4)) = (t.drop n).take 4 := by
  refine ⟨?_, ?_, ?_⟩
  · rw [bl_extract, e, Nat.add_sub_cancel_left]; rfl
  · rw [bl_extract, e, Nat.add_comm 2 n]; rfl
  · rw [bl_extract, e, Nat.add_sub_cancel_left, Nat.add_comm 2 n]; rfl

section
variable {B : RO} {h h0 : Heap} {L : List (Option (Nat × AObj))}
theorem wopen_wp {s : ByteArray} {Q : ByteArray → Int → Heap → Prop} (hs : s.size ≤ 1000000000) (hN : openL (bl s) = none → Q (ByteArray.mk #[]) 0 h) (hS : ∀ l : List UInt8, openL (bl s) = some l → Q (ba l) ((l.length + 6 : Nat) : Int) h) : C_wafer_Open B s h Q := by
  refine C_wafer_Open.of ?_
  unfold S_wafer_Open
  refine ⟨fun h2 => Fin.of (hN (openL_short (by omega))), fun h2 => ?_⟩
  obtain ⟨b0, b1, t, e, e0, e1, hl⟩ := two_bytes (s := s) (by omega)
  have g0 := b0.toNat_lt
  have g1 := b1.toNat_lt
  rw [e, openL_cons] at hN hS
  rw [e0, e1, orBytes]
  unfold S_wafer_Open_J1
  rw [e0, e1, orBytes]
  generalize hn : b0.toNat * 256 + b1.toNat = n at *
  have hw1 : IntKind.wrap .i64 (2 + (n : Int)) = ((2 + n : Nat) : Int) := by rw [w64 (by omega) (by omega)]; omega
  have hw2 : IntKind.wrap .i64 (((2 + n : Nat) : Int) + 4) = ((2 + n + 4 : Nat) : Int) := by rw [w64 (by omega) (by omega)]; omega
  rw [hw1, hw2]
  refine ⟨by omega, by omega, by decide, by omega, by omega, fun h1024 => Fin.of (hN (if_pos (.inl (by omega)))), fun h1024 => ⟨fun hsh => Fin.of (hN (if_pos (.inr (by omega)))), fun hlo => Fin.of ⟨by omega, by omega, by omega, by omega, by omega, by omega, ?_⟩⟩⟩
  have z0 : Int.toNat 0 = 0 := rfl
  have z2 : Int.toNat 2 = 2 := rfl
  rw [Int.toNat_natCast, Int.toNat_natCast, z0, z2]
  obtain ⟨c1, c2, c3⟩ := bl_cut e n
  have hz2 : (s.extract 0 (2 + n)).size = n + 2 := by
    rw [← bl_length, c2, List.length_cons, List.length_cons, List.length_take]; omega
  refine wsum_wp (by rw [hz2]; omega) (foots_wp (crcL_lt _) ?_)
  rw [if_neg (by omega)] at hN hS
  have ex : ∀ i j, s.extract i j = ba (bl (s.extract i j)) := fun i j => (ba_bl _).symm
  rw [c2, ex (2 + n) (2 + n + 4), c3, ex 2 (2 + n), c1]
  refine ⟨fun he => ⟨by omega, by omega, by omega, Fin.of ?_⟩, fun he => Fin.of ?_⟩
  · have := hS (t.take n) (if_pos (ba_inj he))
    rw [List.length_take, Nat.min_eq_left (by omega)] at this
    rw [show 2 + n + 4 = n + 6 by omega]; exact this
  · exact hN (if_neg fun z => he (by rw [z]))
theorem ropen_wp {s : ByteArray} {Q : ByteArray → Int → Heap → Prop} (hs : s.size ≤ 1000000000) (hN : openL (bl s) = none → Q (ByteArray.mk #[]) 0 h) (hS : ∀ l : List UInt8, openL (bl s) = some l → Q (ba l) ((l.length + 6 : Nat) : Int) h) : C_countermandref02_Open B s h Q := by
  refine C_countermandref02_Open.of ?_
  unfold S_countermandref02_Open
  refine ⟨fun h2 => Fin.of (hN (openL_short (by omega))), fun h2 => ?_⟩
  obtain ⟨b0, b1, t, e, e0, e1, hl⟩ := two_bytes (s := s) (by omega)
  have g0 := b0.toNat_lt
  have g1 := b1.toNat_lt
  have e01 : IntKind.wrap .i64 ((IntKind.wrap .i64 ((256) * (IntKind.wrap .i64 ((b0.toNat : Nat) : Int)))) + (IntKind.wrap .i64 ((b1.toNat : Nat) : Int))) = ((b0.toNat * 256 + b1.toNat : Nat) : Int) := by
    rw [w64 (n := ((b0.toNat : Nat) : Int)) (by omega) (by omega), w64 (n := ((b1.toNat : Nat) : Int)) (by omega) (by omega), w64 (n := 256 * ((b0.toNat : Nat) : Int)) (by omega) (by omega), w64 (by omega) (by omega)]; omega
  have hcl : ∀ l : List UInt8, l.length ≤ 1024 → closeL l = (bl s).take (6 + l.length) → openL (bl s) = some l := fun l h1 h2 => by
    rw [← List.take_append_drop (6 + l.length) (bl s), ← h2]; exact openL_close h1
  have hcl' : ∀ l : List UInt8, openL (bl s) = some l → closeL l = (bl s).take (6 + l.length) := fun l h1 => by
    obtain ⟨f1, f2, f3⟩ := openL_some h1
    have : (closeL l ++ (bl s).drop (l.length + 6)).take (6 + l.length) = closeL l := List.take_left' (by rw [closeL_len f2]; omega)
    rw [← this, ← f1]
  have hN' := hN
  rw [e, openL_cons] at hN
  rw [e0, e1, e01]
  unfold S_countermandref02_Open_J1
  rw [e0, e1, e01]
  have hnt : ∀ l, openL (bl s) = some l → l = t.take (b0.toNat * 256 + b1.toNat) := fun l h1 => by
    rw [e, openL_cons] at h1
    split at h1
    · cases h1
    · split at h1
      · simpa using h1.symm
      · cases h1
  generalize hn : b0.toNat * 256 + b1.toNat = n at *
  have hw1 : IntKind.wrap .i64 (2 + (n : Int)) = ((2 + n : Nat) : Int) := by rw [w64 (by omega) (by omega)]; omega
  have hw2 : IntKind.wrap .i64 (6 + (n : Int)) = ((6 + n : Nat) : Int) := by rw [w64 (by omega) (by omega)]; omega
  rw [hw1, hw2]
  refine ⟨by omega, by omega, by omega, by omega, fun h1024 => Fin.of (hN (if_pos (.inl (by omega)))), fun h1024 => ⟨fun hsh => Fin.of (hN (if_pos (.inr (by omega)))), fun hlo => Fin.of ⟨by omega, by omega, by omega, by omega, by omega, by omega, ?_⟩⟩⟩
  have z0 : Int.toNat 0 = 0 := rfl
  have z2 : Int.toNat 2 = 2 := rfl
  rw [Int.toNat_natCast, Int.toNat_natCast, z0, z2]
  obtain ⟨c1, c2, c3⟩ := bl_cut e n
  have ex : ∀ i j, s.extract i j = ba (bl (s.extract i j)) := fun i j => (ba_bl _).symm
  have tl : (t.take n).length = n := by rw [List.length_take]; omega
  rw [ex 2 (2 + n), c1, ex 0 (6 + n), bl_extract, List.drop_zero, Nat.sub_zero]
  refine rclose_wp (by rw [ba_size, tl]; omega) ?_
  rw [bl_ba]
  refine ⟨fun he => Fin.of ?_, fun he => Fin.of ?_⟩
  · have := hS (t.take n) (hcl _ (by omega) (by rw [tl]; exact ba_inj he))
    rw [tl] at this
    rw [show 6 + n = n + 6 by omega]; exact this
  · refine hN' ?_
    cases ho : openL (bl s) with
    | none => rfl
    | some l =>
      have hl := hnt l ho
      have := hcl' l ho
      rw [hl, tl] at this
      exact absurd (by rw [this]) he

/-! All loads, ranged over -/
def wallF (k3 : Nat) : Value := Value.func (.func FN.wafer_All_1) #[] #[(Value.pointer (some ⟨k3, 0, none⟩))]
def wG (k3 : Nat) (s : ByteArray) (h : Heap) : Prop := h k3 = some (.vec TY.string [.plain (.string s)] 1)
theorem wG_ins {k3 : Nat} {s : ByteArray} : Ins (wG k3 s) := Ins.blk
theorem wall_wp {s : ByteArray} {Q : Value → Heap → Prop} (hQ : ∀ k, h k = none → B k = none → Q (wallF k) (h.set k (.vec TY.string [.plain (.string s)] 1))) : C_wafer_All B s h Q := by
  refine C_wafer_All.of ?_
  unfold S_wafer_All
  intro k a1 b1 h4 e4
  subst e4
  exact Fin.of (hQ k a1 b1)
def encS (l : List UInt8) : List Value := [.string (ba l)]
theorem wall_iter {k3 : Nat} {s : ByteArray} (hs : s.size ≤ 1000000000) : Iter PG B (wallF k3) ((allL (bl s)).map encS) (wG k3 s) := by
  refine ⟨_, _, _, rfl, TG.wafer_All_1, fun y J X h hy hG h0 hcall => ?_⟩
  have main : C_wafer_All_1 B y ⟨k3, 0, none⟩ h (fun h' => Fin B h' (fun h'' => J ((allL (bl s)).map encS).length h'' ∨ X h'')) := by
    refine C_wafer_All_1.of ?_
    unfold S_wafer_All_1
    refine ⟨s, cellH_vec (hG 0 h h0) rfl, fun rest m h' => ∃ q : Nat, q ≤ (allL (bl s)).length ∧ (allL (bl s)).drop q = allL (bl rest) ∧ rest.size ≤ s.size ∧ m = rest.size ∧ J q h', s.size, Fin.of ⟨0, by omega, rfl, Nat.le_refl _, rfl, h0⟩, ?_⟩
    rintro rest _ h5 ⟨q, hq, hd, hz, rfl, hJ⟩
    refine wopen_wp (by omega) (fun hN => ⟨fun _ => Fin.of (Fin.of (.inl ?_)), fun hn => absurd rfl hn⟩) (fun l hS => ⟨fun hn => absurd hn (by omega), fun _ => ?_⟩)
    · rw [allL_none hN] at hd
      have := congrArg List.length hd
      rw [List.length_drop] at this
      have hq2 : q = (allL (bl s)).length := by simp at this; omega
      rw [List.length_map, ← hq2]; exact hJ
    · obtain ⟨f1, f2, f3⟩ := openL_some hS
      rw [bl_length] at f3
      rw [allL_some hS] at hd
      have hg : (allL (bl s))[q]? = some l := by
        have := congrArg (fun x => x[0]?) hd
        simpa [List.getElem?_drop] using this
      have hlt := (List.getElem?_eq_some_iff.1 hg).1
      refine CallV.mono ?_ (hcall q h5 (encS l) (by rw [List.getElem?_map, hg]; rfl) hJ)
      rintro v h27 ⟨h28, t1, hor⟩
      rcases hor with ⟨rfl, hJ'⟩ | ⟨rfl, hX⟩
      · refine ⟨true, rfl, fun _ => ⟨by omega, by omega, by omega, h28, t1, ?_⟩, fun e => by cases e⟩
        rw [Int.toNat_natCast, Int.toNat_natCast]
        have hbe : bl (rest.extract (l.length + 6) rest.size) = (bl rest).drop (l.length + 6) := by
          rw [bl_extract, List.take_of_length_le (by rw [List.length_drop, bl_length]; omega)]
        have hsz : (rest.extract (l.length + 6) rest.size).size = rest.size - (l.length + 6) := by rw [← bl_length, hbe, List.length_drop, bl_length]
        refine ⟨(rest.extract (l.length + 6) rest.size).size, by omega, q + 1, by omega, ?_, by omega, rfl, hJ'⟩
        rw [hbe, ← List.drop_drop, hd]; rfl
      · exact ⟨false, rfl, fun e => (by cases e), fun _ => ⟨h28, t1, Fin.of (.inr hX)⟩⟩
  exact Spec.mono main fun v h' q => q.2
theorem Short.take {ls : List (List UInt8)} (h : Short ls) (n : Nat) : Short (ls.take n) := fun l hl => h l (List.mem_of_mem_take hl)
theorem rowL_take (ls : List (List UInt8)) (q : Nat) (hq : q < ls.length) : rowL (ls.take (q + 1)) = rowL (ls.take q) ++ closeL ls[q] := by
  rw [List.take_succ_eq_append_getElem hq, rowL_append, rowL_one]
theorem rowL_take_le (ls : List (List UInt8)) (q : Nat) : (rowL (ls.take q)).length ≤ (rowL ls).length := by
  have : rowL ls = rowL (ls.take q) ++ rowL (ls.drop q) := by rw [← rowL_append, List.take_append_drop]
  rw [this, List.length_append]; omega
theorem whole_wp {s : ByteArray} {Q : Int → Heap → Prop} (hs : s.size ≤ 1000000000) (hQ : Q ((wholeL (bl s) : Nat) : Int) h) : C_wafer_Whole B s h Q := by
  refine C_wafer_Whole.of ?_
  unfold S_wafer_Whole
  intro k3 a3 b3 h4 e4
  have E := (Keep.nil B h).made a3 b3 e4
  obtain ⟨es, E1⟩ := E.store 0 0 (.int .i64 0) rfl rfl
  refine ⟨_, es, wall_wp fun k1 a1 b1 => ?_⟩
  have E2 := E1.new (o := .vec TY.string [.plain (.string s)] 1) a1 b1
  obtain ⟨hsh, r, hr, _⟩ := allL_spec (bl s)
  have hle := wholeL_le (bl s)
  rw [bl_length] at hle
  refine ⟨(allL (bl s)).map ba, wG k1 s, fun q h' => Keep B h [some (k3, .vec TY.int (plains [.int .i64 ((rowL ((allL (bl s)).take q)).length : Nat)]) 1), some (k1, .vec TY.string [.plain (.string s)] 1)] h', ?_, wG_ins, fun q h' E => E.at 1 rfl, Fin.of E2, ?_, ?_⟩
  · have := wall_iter (B := B) (k3 := k1) (s := s) hs
    rw [List.map_map]; exact this
  · rintro q h10 s8 hg E
    rw [List.getElem?_map] at hg
    obtain ⟨l, hl, rfl⟩ := Option.map_eq_some_iff.1 hg
    obtain ⟨hq, rfl⟩ := List.getElem?_eq_some_iff.1 hl
    have hc := closeL_len (hsh _ (List.getElem_mem hq))
    have ht := rowL_take _ q hq
    have htl := rowL_take_le (allL (bl s)) (q + 1)
    have hh : (rowL (allL (bl s))).length = wholeL (bl s) := rfl
    have hlen := congrArg List.length ht
    rw [List.length_append, hc] at hlen
    rw [ba_size]
    have hw : IntKind.wrap .i64 ((((rowL ((allL (bl s)).take q)).length : Nat) : Int) + (IntKind.wrap .i64 ((IntKind.wrap .i64 ((2) + (((allL (bl s))[q].length : Nat) : Int))) + (4)))) = (((rowL ((allL (bl s)).take (q + 1))).length : Nat) : Int) := by
      rw [w64 (n := 2 + (((allL (bl s))[q].length : Nat) : Int)) (by omega) (by omega), w64 (n := 2 + (((allL (bl s))[q].length : Nat) : Int) + 4) (by omega) (by omega), w64 (by omega) (by omega)]; omega
    obtain ⟨es, E1⟩ := E.store 0 0 (.int .i64 (((rowL ((allL (bl s)).take (q + 1))).length : Nat) : Int)) rfl rfl
    refine ⟨_, E.cell 0 rfl rfl, _, ?_, Fin.of E1⟩
    rw [hw]; exact es
  · rintro h10 E
    rw [List.length_map, List.take_length] at E
    exact ⟨_, E.cell 0 rfl rfl, Fin.ent E.back (Fin.of hQ)⟩
/-- A row of texts that is new. -/
def SRow (r : Option (Nat × AObj)) (v : Value) (ls : List (List UInt8)) : Prop := Row r v TY.string 1 (ls.flatMap strC)
theorem rall_wp {s : ByteArray} {Q : Option Addr → Nat → Nat → Heap → Prop} (hs : s.size ≤ 1000000000) (hQ : ∀ a c r h', SRow r (.slice a (allL (bl s)).length c) (allL (bl s)) → Keep B h [r] h' → Q a (allL (bl s)).length c h') : C_countermandref02_All B s h Q := by
  refine C_countermandref02_All.of ?_
  unfold S_countermandref02_All
  let J : ByteArray → Option Addr → Nat → Nat → ByteArray → Int → Nat → Heap → Prop := fun rest a n c load i m h' => ∃ (q : Nat) (r : Option (Nat × AObj)), q ≤ (allL (bl s)).length ∧ (allL (bl s)).drop q = allL (bl rest) ∧ rest.size ≤ s.size ∧ m = rest.size ∧ ((openL (bl rest) = none ∧ i = 0) ∨ ∃ l, openL (bl rest) = some l ∧ load = ba l ∧ i = ((l.length + 6 : Nat) : Int)) ∧ SRow r (.slice a n c) ((allL (bl s)).take q) ∧ Keep B h [r] h'
  have hle := wholeL_le (bl s)
  obtain ⟨hsh, _⟩ := allL_spec (bl s)
  have hln : (allL (bl s)).length ≤ s.size := by
    have h1 := rowL_len hsh
    have h2 : (rowL (allL (bl s))).length = wholeL (bl s) := rfl
    have h3 : ∀ ls : List (List UInt8), ls.length ≤ (ls.map fun l => l.length + 6).sum := fun ls => by
      induction ls with
      | nil => simp
      | cons l ls ih => simp only [List.length_cons, List.map_cons, List.sum_cons]; omega
    have := h3 (allL (bl s))
    rw [bl_length] at hle; omega
  have loop : ∀ (s8 : ByteArray) (a9 : Option Addr) (n10 : Nat) (c11 : Nat) (s12 : ByteArray) (i13 : Int) (m15 : Nat) (h14 : Heap), J s8 a9 n10 c11 s12 i13 m15 h14 → _ := fun s8 a9 n10 c11 s12 i13 m15 h14 hJ => hJ
  refine ropen_wp hs (fun hN => ?_) (fun l hS => ?_)
  all_goals refine ⟨J, s.size, Fin.of ⟨0, none, by omega, rfl, Nat.le_refl _, rfl, ?_, Row.nil _ _, (Keep.nil B h).gap⟩, ?_⟩
  · exact .inl ⟨hN, rfl⟩
  rotate_left
  · exact .inr ⟨l, hS, rfl, rfl⟩
  all_goals
    rintro rest a n c load i _ h14 ⟨q, r, hq, hd, hz, rfl, hor, R, E⟩
    refine ⟨fun hgt => ?_, fun hle0 => Fin.of ?_⟩
    · rcases hor with ⟨_, rfl⟩ | ⟨l, hS, rfl, rfl⟩
      · omega
      obtain ⟨f1, f2, f3⟩ := openL_some hS
      rw [bl_length] at f3
      rw [allL_some hS] at hd
      have hg : (allL (bl s))[q]? = some l := by
        have := congrArg (fun x => x[0]?) hd
        simpa [List.getElem?_drop] using this
      have hlt := (List.getElem?_eq_some_iff.1 hg).1
      intro k20 a20 b20 h21 e21
      have hfl := flatMap_length strC_len ((allL (bl s)).take q)
      rw [List.length_take, Nat.min_eq_left (by omega)] at hfl
      refine E.push1 0 rfl R TK.slc_strs TK.zero_str rfl (by omega) (by omega) TK.sl_strs rfl (by simp [isOne]) (by rw [hfl]; simp; omega) a20 b20 e21 fun a' m' c' r' h' R' E' => ?_
      have hbe : bl (rest.extract (l.length + 6) rest.size) = (bl rest).drop (l.length + 6) := by
        rw [bl_extract, List.take_of_length_le (by rw [List.length_drop, bl_length]; omega)]
      have hsz : (rest.extract (l.length + 6) rest.size).size = rest.size - (l.length + 6) := by rw [← bl_length, hbe, List.length_drop, bl_length]
      have hd' : (allL (bl s)).drop (q + 1) = allL (bl (rest.extract (l.length + 6) rest.size)) := by rw [hbe, ← List.drop_drop, hd]; rfl
      have R2 : SRow r' (.slice a' m' c') ((allL (bl s)).take (q + 1)) := by
        unfold SRow
        obtain ⟨hq', rfl⟩ := List.getElem?_eq_some_iff.1 hg
        rw [List.take_succ_eq_append_getElem hq', List.flatMap_append, List.flatMap_cons, List.flatMap_nil, List.append_nil]
        exact R'
      refine ⟨a', m', c', rfl, by omega, by omega, by omega, ?_⟩
      rw [Int.toNat_natCast, Int.toNat_natCast]
      refine ropen_wp (by omega) (fun hN => Fin.of ⟨_, ?_, q + 1, r', by omega, hd', by omega, rfl, .inl ⟨hN, rfl⟩, R2, E'⟩) (fun l2 hS2 => Fin.of ⟨_, ?_, q + 1, r', by omega, hd', by omega, rfl, .inr ⟨l2, hS2, rfl, rfl⟩, R2, E'⟩) <;> omega
    · rcases hor with ⟨hN, rfl⟩ | ⟨l, hS, rfl, rfl⟩
      · rw [allL_none hN] at hd
        have := congrArg List.length hd
        rw [List.length_drop] at this
        have hq2 : q = (allL (bl s)).length := by simp at this; omega
        subst hq2
        rw [List.take_length] at R
        obtain ⟨hm, -⟩ := Row.rd (B := B) R strC_len (by omega)
        subst hm
        exact hQ _ _ r _ R E
      · omega
end
end Go.Proofs.Ytcncdfmnpmmikaa.H
