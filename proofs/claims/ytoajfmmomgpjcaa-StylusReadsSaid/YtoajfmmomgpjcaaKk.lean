/- The law StylusReads. No condition. -/
import Derived.Test.YtoajfmmomgpjcaaKh
namespace Go.Proofs.Ytoajfmmomgpjcaa.H
open Go Go.RowKit
set_option linter.unusedVariables false
set_option maxRecDepth 100000

structure Ask where
  kind : Int
  n : Int
def Ask.cells (x : Ask) : List Value := [.int .i64 x.kind, .int .i64 x.n]
def Ask.ok (x : Ask) : Prop := -9223372036854775808 ≤ x.n ∧ x.n ≤ 9223372036854775807
theorem TK.asks_sl : PG.underlying TY.s_countermandlaw01_Ask = some (.slice TY.countermandlaw01_Ask) := by kernel_rfl
theorem TK.ask_kd : leafB PG 5 TY.countermandlaw01_Ask = some [.int .i64, .int .i64] := by kernel_rfl
theorem Ask_key {H : Type} {enc : TypeId × Value → H} {P : Program} {w : World} {base : Nat} {spare : Nat → Bool} {held : Bool} (vs : List Value) (h : KdsOk enc P w base spare held [.int .i64, .int .i64] vs) : ∃ x : Ask, vs = x.cells ∧ x.ok := by
  obtain ⟨z1, v1, rfl, _, h⟩ := h.int
  obtain ⟨z2, v2, rfl, w2, h⟩ := h.int
  obtain rfl := h.nil
  exact ⟨⟨z1, z2⟩, rfl, wf64 w2⟩
theorem Ask_arg {H : Type} {enc : TypeId × Value → H} {w : World} {base : Nat} {spare : Nat → Bool} {held : Bool} {a : Option Addr} {len cap : Nat} {d : DataW H} {p : List MemPlace} (h : DataW.Trod enc PG w base spare held TY.s_countermandlaw01_Ask (.slice a len cap) d p) :
    ∃ l : List Ask, len = l.length ∧ Reads (roOf w) noHeap a 2 Ask.cells l ∧ ∀ x ∈ l, x.ok :=
  arg_rows Ask.cells Ask.ok TK.asks_sl TK.ask_kd rfl (by omega) Ask_key h

def takeOf (kind N num : Int) : Int := if kind = 3 then IntKind.wrap .i64 num else N
def fin3 (kind N : Int) (s : List UInt8) (bad : Bool) (num : Int) : Int × List UInt8 × List UInt8 × Bool :=
  if 1 < kind then
    if bad = true ∨ takeOf kind N num < 0 ∨ (s.length : Int) < takeOf kind N num then (0, [], [], true)
    else (num, s.take (takeOf kind N num).toNat, s.drop (takeOf kind N num).toNat, false)
  else if bad = true then (0, [], [], true) else (num, [], s, false)

section
variable {B : RO} {h : Heap}
theorem signed_wp {u : Nat} {Q : Int → Heap → Prop} (hu : u < 18446744073709551616) (hQ : Q (unzig u) h) : C_countermandref01_Signed B ((u : Nat) : Int) h Q := by
  refine C_countermandref01_Signed.of ?_
  unfold S_countermandref01_Signed
  have e1 : Int.tmod ((u : Nat) : Int) 2 = ((u % 2 : Nat) : Int) := by rw [Int.tmod_eq_emod_of_nonneg (by omega)]; omega
  have e2 : IntKind.wrap .u64 (Int.tdiv ((u : Nat) : Int) 2) = ((u / 2 : Nat) : Int) := by rw [Int.tdiv_eq_ediv_of_nonneg (by omega), wu64]; omega
  rw [e1, e2]
  refine ⟨by decide, fun h1 => ⟨by decide, Fin.of ?_⟩, fun h1 => ⟨by decide, Fin.of ?_⟩⟩
  · rw [unzig, if_pos (by omega)] at hQ
    have e3 : IntKind.wrap .i64 ((u / 2 : Nat) : Int) = ((u / 2 : Nat) : Int) := w64 (by omega) (by omega)
    have e4 : IntKind.wrap .i64 (0 - ((u / 2 : Nat) : Int)) = -((u / 2 : Nat) : Int) := by rw [w64 (by omega) (by omega)]; omega
    rw [e3, e4, w64 (by omega) (by omega)]
    exact hQ
  · rw [unzig, if_neg (by omega)] at hQ
    rw [w64 (by omega) (by omega)]
    exact hQ

section
variable {a2 : Option Addr} {n3 c4 k k46 : Nat} {i35 : Int} {m37 : Nat} {J : ByteArray → Bool → Int → Nat → Heap → Prop} {Q : Bool → Heap → Prop}
theorem Reads7 {l : List UInt8} {bad : Bool} (hb : h k = some (rdO l bad)) (hl : bad = true → l = []) (hJ : Fin B h (fun h' => ∃ m', m' < m37 ∧ J (ba l) bad (IntKind.wrap .i64 (i35 + 1)) m' h')) : S_countermandlaw01_StylusReads_J7 B a2 n3 c4 (some ⟨k, 0, none⟩) i35 m37 J bad (ba l) true h Q := by
  unfold S_countermandlaw01_StylusReads_J7
  refine ⟨fun _ => rbad_wp hb ⟨fun _ => rleft_wp hb ⟨fun _ => rover_wp hb ⟨fun e => ?_, fun e => ?_⟩, fun hn => absurd (by rw [ba_size]) hn⟩, fun hn => absurd rfl hn⟩, fun e => by cases e⟩
  · subst e
    exact ⟨fun _ => hJ, fun hn => absurd rfl hn⟩
  · subst e
    refine ⟨fun _ => hJ, fun hn => absurd ?_ hn⟩
    have : ba l = ByteArray.mk #[] ↔ l = [] := ⟨fun e => ba_inj (e.trans ba_nil.symm), fun e => by rw [e, ba_nil]⟩
    simp only [this, Bool.not_false, Bool.true_and]

theorem Reads6 {kind N num : Int} {l want rest : List UInt8} {bad bad' : Bool} {tt : TypeId} (hN : N ≤ 9223372036854775807) (hk : h k46 = some (.vec tt (plains [.int .i64 kind, .int .i64 N]) 2)) (hb : h k = some (rdO l bad))
    (h0 : kind = 0 → num = ((rNat N l bad).1 : Nat) ∧ (rNat N l bad).2 = (rest, bad')) (h1 : kind = 1 → num = ((rWord l bad).1 : Nat) ∧ (rWord l bad).2 = (rest, bad'))
    (h2 : kind = 2 → rRaw N l bad = (want, rest, bad')) (h3 : kind = 3 → rText N l bad = (want, rest, bad')) (hr : bad' = true → rest = []) (hQ : Fin B h (Q true))
    (hJ : Fin B (h.set k (rdO rest bad')) (fun h' => ∃ m', m' < m37 ∧ J (ba rest) bad' (IntKind.wrap .i64 (i35 + 1)) m' h')) :
    S_countermandlaw01_StylusReads_J6 B a2 n3 c4 (some ⟨k, 0, none⟩) i35 m37 J k46 bad' (ba want) (ba rest) num h Q := by
  unfold S_countermandlaw01_StylusReads_J6
  have go := Reads7 (Q := Q) (B := B) (a2 := a2) (n3 := n3) (c4 := c4) (J := J) (i35 := i35) (m37 := m37) (h := h.set k (rdO rest bad')) (k := k) (Heap.set_same _ _ _) hr hJ
  refine ⟨kind, cellH_vec hk rfl, fun e0 => ⟨N, cellH_vec hk rfl, rnat_wp hN hb ?_⟩, fun n0 => ⟨fun e1 => rint_wp hb ?_, fun n1 => ⟨fun e2 => ⟨N, cellH_vec hk rfl, rraw_wp hb ?_⟩, fun n2 => ⟨fun e3 => ⟨N, cellH_vec hk rfl, rtext_wp hN hb ?_⟩, fun n3 => hQ⟩⟩⟩⟩
  · obtain ⟨q1, q2⟩ := h0 e0
    rw [q2, q1]
    refine ⟨fun _ => Fin.of go, fun hn => absurd ?_ hn⟩
    have hlt : ((rNat N l bad).1 : Int) ≤ 9223372036854775807 := by
      unfold rNat
      split
      · simp
      · omega
    rw [w64 (by omega) hlt]
  · obtain ⟨q1, q2⟩ := h1 e1
    rw [q2, q1]
    refine signed_wp (rWord_lt l bad) ⟨fun _ => Fin.of go, fun hn => absurd rfl hn⟩
  · rw [h2 e2]
    exact ⟨fun _ => Fin.of go, fun hn => absurd rfl hn⟩
  · rw [h3 e3]
    exact ⟨fun _ => Fin.of go, fun hn => absurd rfl hn⟩

theorem Reads3 {kind N num : Int} {s : List UInt8} {bad : Bool} {p : Option Addr} {tt : TypeId} (hk : h k46 = some (.vec tt (plains [.int .i64 kind, .int .i64 N]) 2))
    (h6 : S_countermandlaw01_StylusReads_J6 B a2 n3 c4 p i35 m37 J k46 (fin3 kind N s bad num).2.2.2 (ba (fin3 kind N s bad num).2.1) (ba (fin3 kind N s bad num).2.2.1) (fin3 kind N s bad num).1 h Q) :
    S_countermandlaw01_StylusReads_J3 B a2 n3 c4 p i35 m37 J k46 (ba s) bad num h Q := by
  have j4 : ∀ take : Int, take = takeOf kind N num → S_countermandlaw01_StylusReads_J4 B a2 n3 c4 p i35 m37 J k46 (ba s) bad num take h Q := by
    intro take ht
    unfold S_countermandlaw01_StylusReads_J4
    unfold fin3 at h6
    rw [← ht] at h6
    refine ⟨kind, cellH_vec hk rfl, fun h1 => ?_, fun h1 => Fin.of ?_⟩
    · rw [if_pos (by omega)] at h6
      have bd : (bad = true ∨ take < 0 ∨ (s.length : Int) < take) → S_countermandlaw01_StylusReads_J8 B a2 n3 c4 p i35 m37 J k46 (ba s) num take true h Q := by
        intro hb
        rw [if_pos hb] at h6
        unfold S_countermandlaw01_StylusReads_J8
        refine ⟨fun _ => Fin.of ?_, fun e => by cases e⟩
        unfold S_countermandlaw01_StylusReads_J5
        exact ⟨fun _ => Fin.of h6, fun e => by cases e⟩
      refine ⟨fun e => Fin.of (bd (.inl e)), fun e => ⟨fun e1 => Fin.of (bd (.inr (.inl e1))), fun e1 => ⟨fun e2 => Fin.of (bd (.inr (.inr (by rw [ba_size] at e2; omega)))), fun e2 => Fin.of ?_⟩⟩⟩
      rw [ba_size] at e2
      rw [if_neg (by rw [e]; simp; omega)] at h6
      unfold S_countermandlaw01_StylusReads_J8
      refine ⟨fun e => (by cases e), fun _ => ⟨by omega, by omega, by rw [ba_size]; omega, by omega, by rw [ba_size]; omega, by omega, Fin.of ?_⟩⟩
      have x1 : (ba s).extract (Int.toNat 0) (Int.toNat take) = ba (s.take take.toNat) := extract_ba s _
      have x2 : (ba s).extract (Int.toNat take) (Int.toNat (((ba s).size : Nat) : Int)) = ba (s.drop take.toNat) := by
        rw [ba_size, Int.toNat_natCast]; exact extract_ba_end s _
      rw [x1, x2]
      unfold S_countermandlaw01_StylusReads_J5
      exact ⟨fun e => (by cases e), fun _ => Fin.of h6⟩
    · rw [if_neg (by omega)] at h6
      unfold S_countermandlaw01_StylusReads_J5
      refine ⟨fun e => Fin.of ?_, fun e => Fin.of ?_⟩
      · rw [if_pos e] at h6; rw [e]; exact h6
      · rw [if_neg (by rw [e]; simp)] at h6; rw [e]; exact h6
  unfold S_countermandlaw01_StylusReads_J3
  refine ⟨N, cellH_vec hk rfl, kind, cellH_vec hk rfl, fun e => Fin.of (j4 _ (by rw [takeOf, if_pos e])), fun e => Fin.of (j4 _ (by rw [takeOf, if_neg e]))⟩
end

theorem Reads2 {Q : Bool → Heap → Prop} (hQ : Q true h) : S_countermandlaw01_StylusReads_J2 B h Q := by
  unfold S_countermandlaw01_StylusReads_J2
  refine spoil_nil (rraw_nil ⟨fun _ => rnat_nil (by decide) ⟨fun _ => rint_nil ⟨fun _ => rtext_nil (by decide) ⟨fun _ => rbad_nil ⟨fun _ => rover_nil ⟨fun e => (by cases e), fun _ => rleft_nil (Fin.of hQ)⟩, fun e => by cases e⟩, fun e => absurd rfl e⟩, fun e => absurd rfl e⟩, fun e => absurd rfl e⟩, fun e => absurd rfl e⟩)
end
end Go.Proofs.Ytoajfmmomgpjcaa.H
