/- A log and the document's, side by side; what is played; arguments. No condition. -/
import Derived.Test.YthloobpjkeodgaaWg
namespace Go.Proofs.Ythloobpjkeodgaa.H
open Go Go.RowKit
set_option linter.unusedVariables false
set_option maxRecDepth 100000

/-! Calls -/
structure CallR where
  kind : Int
  s : ByteArray
  keep : Int
  part : Int
def CallR.cells (c : CallR) : List Value := [.int .i64 c.kind, .string c.s, .int .i64 c.keep, .int .i64 c.part]
theorem TK.calls_sl : PG.underlying TY.s_countermandlaw04_Call = some (.slice TY.countermandlaw04_Call) := by kernel_rfl
theorem TK.call_kd : leafB PG 5 TY.countermandlaw04_Call = some [.int .i64, .str, .int .i64, .int .i64] := by kernel_rfl
theorem CallR_arg {H : Type} {enc : TypeId × Value → H} {w : World} {base : Nat} {spare : Nat → Bool} {held : Bool} {a : Option Addr} {len cap : Nat} {d : DataW H} {p : List MemPlace} (h : DataW.Trod enc PG w base spare held TY.s_countermandlaw04_Call (.slice a len cap) d p) :
    ∃ l : List CallR, len = l.length ∧ Reads (roOf w) noHeap a 4 CallR.cells l ∧ ∀ x ∈ l, x.s.size ≤ maxLen :=
  arg_rows CallR.cells (fun x => x.s.size ≤ maxLen) TK.calls_sl TK.call_kd rfl (by omega) (fun vs h => by
    obtain ⟨z1, v1, rfl, _, h1⟩ := h.int
    obtain ⟨s, v3, rfl, hs, h3⟩ := h1.str
    obtain ⟨z2, v4, rfl, _, h4⟩ := h3.int
    obtain ⟨z3, v5, rfl, _, h5⟩ := h4.int
    obtain rfl := h5.nil
    exact ⟨⟨z1, s, z2, z3⟩, rfl, hs⟩) h
def strP (s : ByteArray) : List Value := [.string s]
theorem TK.strs_sl : PG.underlying TY.s_string = some (.slice TY.string) := by kernel_rfl
theorem TK.str_kd : leafB PG 5 TY.string = some [.str] := by kernel_rfl
theorem strP_arg {H : Type} {enc : TypeId × Value → H} {w : World} {base : Nat} {spare : Nat → Bool} {held : Bool} {a : Option Addr} {len cap : Nat} {d : DataW H} {p : List MemPlace} (h : DataW.Trod enc PG w base spare held TY.s_string (.slice a len cap) d p) :
    ∃ l : List ByteArray, len = l.length ∧ Reads (roOf w) noHeap a 1 strP l ∧ ∀ x ∈ l, x.size ≤ maxLen :=
  arg_rows strP (fun x => x.size ≤ maxLen) TK.strs_sl TK.str_kd rfl (by omega) (fun vs h => by
    obtain ⟨s, v3, rfl, hs, h3⟩ := h.str
    obtain rfl := h3.nil
    exact ⟨s, rfl, hs⟩) h

/-! What an append comes to -/
theorem torn_false {b : List UInt8} (h : tornOf b = false) : b = rowL (allL b) := whole_eq (by simpa [tornOf] using h)
theorem app_torn {b l : List UInt8} (h : tornOf b = false) (hl : l.length ≤ 1024) : tornOf (b ++ closeL l) = false ∧ wholeL (b ++ closeL l) = wholeL b + (closeL l).length ∧ allL (b ++ closeL l) = allL b ++ [l] := by
  have hb := torn_false h
  have hs := (allL_spec b).1
  have hs' : Short (allL b ++ [l]) := fun x hx => by
    rcases List.mem_append.1 hx with hx | hx
    · exact hs x hx
    · rw [List.mem_singleton] at hx; subst hx; exact hl
  have e : b ++ closeL l = rowL (allL b ++ [l]) := by rw [rowL_append, rowL_one, ← hb]
  have ew := whole_rows hs'
  rw [← e] at ew
  have ewb : wholeL b = b.length := by
    have := whole_rows hs
    rwa [← hb] at this
  refine ⟨?_, by rw [ew, ewb, List.length_append], by rw [e, allL_rows hs']⟩
  unfold tornOf
  rw [ew]; simp
theorem textD_app (area : Int) (cs : List Chg) (s : ByteArray) : textD area (cs ++ [Chg.mk area false s]) = textD area cs ++ s := by
  rw [textD_one, chgD, if_pos rfl, if_neg (by simp)]
theorem textD_reset (area : Int) (cs : List Chg) (s : ByteArray) : textD area (cs ++ [Chg.mk area true s]) = ByteArray.mk #[] := by
  rw [textD_one, chgD, if_pos rfl, if_pos rfl]
theorem textD_other {a area : Int} (cs : List Chg) (c : Chg) (h : c.a ≠ area) : textD area (cs ++ [c]) = textD area cs := by
  rw [textD_one, chgD, if_neg h]
theorem wholeL_nil : wholeL [] = 0 := by
  unfold wholeL; rw [allL_none openL_nil]; rfl
theorem tornOf_nil : tornOf [] = false := rfl

/-! Both -/
structure WX where
  kD : Nat
  kl : Nat
  kR : Nat
  kg : Nat
  kb : Nat
  v : Value
  v2 : Value
  r : Option (Nat × AObj)
  r2 : Option (Nat × AObj)
def bothO (kD kl kg : Nat) : AObj := .vec TY.countermandlaw04_both (plains [.pointer (some ⟨kD, 0, none⟩), .pointer (some ⟨kl, 0, none⟩), .pointer (some ⟨kg, 0, none⟩)]) 3
def WX.l (x : WX) (area : Int) (cs : List Chg) (k sz : Nat) (torn : Bool) : List (Option (Nat × AObj)) :=
  [some (x.kD, dskO cs k x.v), x.r, some (x.kl, walO x.kD area sz torn), some (x.kR, rdO k x.v2), x.r2, some (x.kg, rlO x.kR area torn), some (x.kb, bothO x.kD x.kl x.kg)]
def WX.e (x : WX) (area : Int) (cs : List Chg) (k : Nat) : List (Option (Nat × AObj)) := x.l area cs k (wholeL (bl (textD area cs))) (tornOf (bl (textD area cs)))
structure WX.Ok (x : WX) (cs : List Chg) (k : Nat) : Prop where
  c : CRow x.r x.v (cs.drop k)
  d : RRow x.r2 x.v2 cs
  hk : k ≤ cs.length
  ok : DOk cs
/-- What a call does. -/
def doesS (area : Int) (c : CallR) (cs : List Chg) (k : Nat) : List Chg × Nat :=
  if c.kind = 0 then (if c.s.size ≤ 1024 ∧ tornOf (bl (textD area cs)) = false ∧ (textD area cs).size + (closeL (bl c.s)).length ≤ 16384 then (cs ++ [Chg.mk area false (ba (closeL (bl c.s)))], k) else (cs, k))
  else if c.kind = 1 then (cs, cs.length)
  else if c.kind = 2 then (cs ++ [Chg.mk area true ByteArray.empty], k)
  else if c.kind = 3 then (crashD cs k c.keep c.part, (crashD cs k c.keep c.part).length)
  else if c.kind = 4 then (if (textD area cs).size + c.s.size ≤ 16384 then (cs ++ [Chg.mk area false c.s], k) else (cs, k))
  else (cs, k)
theorem doesS_len (area : Int) (c : CallR) (cs : List Chg) (k : Nat) : (doesS area c cs k).1.length ≤ cs.length + 1 := by
  unfold doesS
  have := crashD_len cs k c.keep c.part
  repeat' split
  all_goals simp
  omega
def callO (c : CallR) : AObj := .vec TY.countermandlaw04_Call (plains c.cells) 4

section
variable {B : RO} {h0 h h' : Heap} {x : WX} {area : Int} {cs : List Chg} {k sz : Nat} {torn : Bool} {c : CallR} {k7 : Nat}
theorem does_J1 {Q : Bool → Heap → Prop} (E : Keep B h0 (x.l area cs k sz torn ++ [some (k7, callO c)]) h) (O : x.Ok cs k) (ha : area = 0 ∨ area = 1) (hl : cs.length ≤ 1000) (hsame : ¬ c.kind > 2 → sz = wholeL (bl (textD area cs)) ∧ torn = tornOf (bl (textD area cs)))
    (hQ : ∀ (x' : WX) h', x'.Ok cs k → x'.kb = x.kb → Keep B h0 (x'.e area cs k) h' → Q true h') : S_countermandlaw04_both_does_J1 B (some ⟨x.kb, 0, none⟩) k7 area h Q := by
  unfold S_countermandlaw04_both_does_J1
  refine ⟨c.kind, E.cell 7 rfl rfl, fun hgt => ?_, fun hle => Fin.of ?_⟩
  · refine ⟨_, rfl, _, E.cell 6 rfl rfl, walopen_wp (i := 0) E ⟨rfl, rfl⟩ ha O.ok fun kl' h22 E1 => ?_⟩
    obtain ⟨es, E2⟩ := E1.storeA 6 0 1 (.pointer (some ⟨kl', 0, none⟩)) rfl rfl
    refine ⟨_, rfl, _, es, _, rfl, _, E2.cellA 6 (m := 0) rfl rfl, _, rfl, _, E2.cell 5 rfl rfl, ?_⟩
    refine rlopen_wp (i := 3) E2 ⟨rfl, rfl⟩ O.d O.ok (by omega) fun kg' h34 E3 => ?_
    obtain ⟨es3, E4⟩ := E3.storeA 6 0 2 (.pointer (some ⟨kg', 0, none⟩)) rfl rfl
    exact ⟨_, rfl, _, es3, Fin.of (hQ ⟨x.kD, kl', x.kR, kg', x.kb, x.v, x.v2, x.r, x.r2⟩ _ ⟨O.c, O.d, O.hk, O.ok⟩ rfl (E4.picks [0, 1, 8, 3, 4, 9, 6] (by decide)))⟩
  · obtain ⟨rfl, rfl⟩ := hsame hle
    exact hQ x h O rfl (E.take 7)
theorem does_wp {Q : Bool → Heap → Prop} (E : Keep B h0 (x.e area cs k) h) (O : x.Ok cs k) (ha : area = 0 ∨ area = 1) (hl : cs.length ≤ 900) (hs : c.s.size ≤ 1000000000)
    (hQ : ∀ (x' : WX) h', x'.Ok (doesS area c cs k).1 (doesS area c cs k).2 → x'.kb = x.kb → Keep B h0 (x'.e area (doesS area c cs k).1 (doesS area c cs k).2) h' → Q true h') : C_countermandlaw04_both_does B (some ⟨x.kb, 0, none⟩) c.kind c.s c.keep c.part h Q := by
  refine C_countermandlaw04_both_does.of ?_
  unfold S_countermandlaw04_both_does
  intro k7 a7 b7 h8 e8
  have E1 : Keep B h0 (x.e area cs k ++ [some (k7, callO c)]) h8 := E.made a7 b7 e8
  have hz := O.ok.size area
  have hwl := wholeL_le (bl (textD area cs))
  rw [bl_length] at hwl
  refine ⟨_, rfl, _, E1.cellA 6 (m := 0) rfl rfl, _, rfl, area, E1.cellA 5 (m := 0) rfl rfl, c.kind, E1.cell 7 rfl rfl, fun h0' => ?_, fun n0 => ⟨fun h1' => ?_, fun n1 => ⟨fun h2' => ?_, fun n2 => ⟨fun h3' => ?_, fun n3 => ⟨fun h4' => ?_, fun n4 => Fin.of ?_⟩⟩⟩⟩⟩
  · have e : doesS area c cs k = if c.s.size ≤ 1024 ∧ tornOf (bl (textD area cs)) = false ∧ (textD area cs).size + (closeL (bl c.s)).length ≤ 16384 then (cs ++ [Chg.mk area false (ba (closeL (bl c.s)))], k) else (cs, k) := by
      unfold doesS; rw [if_pos h0']
    rw [e] at hQ
    refine ⟨_, rfl, _, E1.cellA 6 (m := 0) rfl rfl, _, E1.cell 7 rfl rfl, _, rfl, _, E1.cellA 6 (m := 0) rfl rfl, _, E1.cell 7 rfl rfl, ?_⟩
    have fails : ∀ n : Int, ¬ (c.s.size ≤ 1024 ∧ tornOf (bl (textD area cs)) = false ∧ (textD area cs).size + (closeL (bl c.s)).length ≤ 16384) → Fin B h8 (Q ((n : Int) == n)) := fun n hn => by
      rw [if_neg hn] at hQ
      have : ((n : Int) == n) = true := by simp
      rw [this]
      exact Fin.of (hQ x h8 O rfl (E1.take 7))
    refine walappend_wp (i := 0) (j := 2) E1 ⟨rfl, rfl⟩ rfl (by decide) (by decide) O.c O.hk O.ok (by omega) hs (by omega) ha (fun hL => ?_) (fun hL hT => ?_) (fun hL hT hF => ?_) (fun hL hT hF v' r' h' R' E2 => ?_)
    · refine ⟨E1.cellA 6 (m := 0) rfl rfl, E1.cell 7 rfl rfl, E1.cellA 6 (m := 0) rfl rfl, E1.cell 7 rfl rfl, rlappend_wp (i := 3) (j := 5) E1 ⟨rfl, rfl⟩ rfl (by decide) (by decide) O.d O.ok (by omega) hs ha (fun _ => ⟨E1.cellA 6 (m := 0) rfl rfl, E1.cell 7 rfl rfl, E1.cellA 6 (m := 0) rfl rfl, E1.cell 7 rfl rfl, fails 3 (by omega)⟩) (fun q _ => absurd hL (by omega)) (fun q _ _ => absurd hL (by omega)) (fun q _ _ _ _ _ _ _ => absurd hL (by omega))⟩
    · refine ⟨E1.cellA 6 (m := 0) rfl rfl, E1.cell 7 rfl rfl, E1.cellA 6 (m := 0) rfl rfl, E1.cell 7 rfl rfl, rlappend_wp (i := 3) (j := 5) E1 ⟨rfl, rfl⟩ rfl (by decide) (by decide) O.d O.ok (by omega) hs ha (fun q => absurd hL (by omega)) (fun _ _ => ⟨E1.cellA 6 (m := 0) rfl rfl, E1.cell 7 rfl rfl, E1.cellA 6 (m := 0) rfl rfl, E1.cell 7 rfl rfl, fails 9 (fun q => by rw [q.2.1] at hT; cases hT)⟩) (fun _ q _ => by rw [q] at hT; cases hT) (fun _ q _ _ _ _ _ _ => by rw [q] at hT; cases hT)⟩
    · refine ⟨E1.cellA 6 (m := 0) rfl rfl, E1.cell 7 rfl rfl, E1.cellA 6 (m := 0) rfl rfl, E1.cell 7 rfl rfl, rlappend_wp (i := 3) (j := 5) E1 ⟨rfl, rfl⟩ rfl (by decide) (by decide) O.d O.ok (by omega) hs ha (fun q => absurd hL (by omega)) (fun _ q => by rw [q] at hT; cases hT) (fun _ _ _ => ⟨E1.cellA 6 (m := 0) rfl rfl, E1.cell 7 rfl rfl, E1.cellA 6 (m := 0) rfl rfl, E1.cell 7 rfl rfl, fails 6 (by omega)⟩) (fun _ _ q _ _ _ _ _ => absurd q (by omega))⟩
    · refine ⟨E2.cellA 6 (m := 0) rfl rfl, E2.cell 7 rfl rfl, E2.cellA 6 (m := 0) rfl rfl, E2.cell 7 rfl rfl, rlappend_wp (i := 3) (j := 5) E2 ⟨rfl, rfl⟩ rfl (by decide) (by decide) O.d O.ok (by omega) hs ha (fun q => absurd hL (by omega)) (fun _ q => by rw [q] at hT; cases hT) (fun _ _ q => absurd q (by omega)) (fun _ _ _ v2 r2 h2 R2 E3 => ?_)⟩
      refine ⟨E3.cellA 6 (m := 0) rfl rfl, E3.cell 7 rfl rfl, E3.cellA 6 (m := 0) rfl rfl, E3.cell 7 rfl rfl, Fin.of ?_⟩
      rw [if_pos ⟨hL, hT, hF⟩] at hQ
      obtain ⟨t1, t2, t3⟩ := app_torn hT (l := bl c.s) (by rw [bl_length]; omega)
      have et : bl (textD area (cs ++ [Chg.mk area false (ba (closeL (bl c.s)))])) = bl (textD area cs) ++ closeL (bl c.s) := by rw [textD_app, bl_append, bl_ba]
      refine hQ ⟨x.kD, x.kl, x.kR, x.kg, x.kb, v', v2, r', r2⟩ h2 ⟨R', R2, by simp; have := O.hk; omega, O.ok.snoc ha ?_⟩ rfl ?_
      · show (textD area (cs ++ [Chg.mk area false (ba (closeL (bl c.s)))])).size ≤ 16384
        rw [textD_app, ByteArray.size_append, ba_size]; exact hF
      · unfold WX.e
        rw [et, t1, t2]
        unfold WX.e at E3
        rw [hT] at E3
        exact E3.take 7
  · have e : doesS area c cs k = (cs, cs.length) := by unfold doesS; rw [if_neg n0, if_pos h1']
    rw [e] at hQ
    refine ⟨_, rfl, _, E1.cellA 6 (m := 0) rfl rfl, walforce_wp (i := 0) (j := 2) E1 ⟨rfl, rfl⟩ rfl O.c O.hk O.ok (by omega) fun h77 E2 => ?_⟩
    obtain ⟨a, m, cc, ev⟩ := Row.slice O.d
    have hm : m = cs.length := by have := O.d; rw [ev] at this; exact RRow.len this
    subst hm
    obtain ⟨es, E3⟩ := E2.storeA 3 0 1 (.int .i64 (cs.length : Nat)) rfl rfl
    refine ⟨_, rfl, _, E2.cellA 6 (m := 0) rfl rfl, _, rfl, _, E2.cell 5 rfl rfl, _, rfl, _, E2.cellA 6 (m := 0) rfl rfl, _, rfl, _, E2.cell 5 rfl rfl, _, rfl, a, _, cc, by rw [← ev]; exact E2.cell 3 rfl rfl, _, rfl, _, es, Fin.of ?_⟩
    exact does_J1 (x := ⟨x.kD, x.kl, x.kR, x.kg, x.kb, .slice none 0 0, x.v2, none, x.r2⟩) (k := cs.length) (k7 := k7) (c := c) E3 ⟨by rw [List.drop_length]; exact Row.nil _ _, O.d, Nat.le_refl _, O.ok⟩ ha (by omega) (fun _ => ⟨rfl, rfl⟩) (fun x' h' O' hb E' => hQ x' h' O' hb E')
  · have e : doesS area c cs k = (cs ++ [Chg.mk area true ByteArray.empty], k) := by unfold doesS; rw [if_neg n0, if_neg n1, if_pos h2']
    rw [e] at hQ
    have hok : DOk (cs ++ [Chg.mk area true ByteArray.empty]) := O.ok.snoc ha (by
      show (textD area (cs ++ [Chg.mk area true ByteArray.empty])).size ≤ 16384
      rw [textD_reset]; decide)
    refine ⟨_, rfl, _, E1.cellA 6 (m := 0) rfl rfl, walclear_wp (i := 0) (j := 2) E1 ⟨rfl, rfl⟩ rfl (by decide) (by decide) O.c O.hk (by omega) ha fun v' r' h102 R' E2 => ?_⟩
    refine ⟨_, rfl, _, E2.cellA 6 (m := 0) rfl rfl, rlclear_wp (i := 3) (j := 5) E2 ⟨rfl, rfl⟩ rfl (by decide) (by decide) O.d (by omega) ha fun v2 r2 h106 R2 E3 => Fin.of ?_⟩
    have et : bl (textD area (cs ++ [Chg.mk area true ByteArray.empty])) = [] := by rw [textD_reset]; rfl
    exact does_J1 (x := ⟨x.kD, x.kl, x.kR, x.kg, x.kb, v', v2, r', r2⟩) (cs := cs ++ [Chg.mk area true ByteArray.empty]) (k := k) (sz := 0) (torn := false) (k7 := k7) (c := c) E3 ⟨R', R2, by simp; have := O.hk; omega, hok⟩ ha (by simp; omega) (fun _ => by rw [et]; exact ⟨wholeL_nil.symm, rfl⟩) (fun x' h' O' hb E' => hQ x' h' O' hb E')
  · have e : doesS area c cs k = (crashD cs k c.keep c.part, (crashD cs k c.keep c.part).length) := by unfold doesS; rw [if_neg n0, if_neg n1, if_neg n2, if_pos h3']
    rw [e] at hQ
    refine ⟨_, rfl, _, E1.cell 6 rfl rfl, _, E1.cell 7 rfl rfl, _, E1.cell 7 rfl rfl, dcrash_wp (i := 0) E1 ⟨rfl, rfl⟩ O.c O.hk O.ok (by omega) fun h113 E2 => ?_⟩
    refine ⟨_, rfl, _, E2.cellA 6 (m := 0) rfl rfl, _, rfl, _, E2.cell 5 rfl rfl, _, E2.cell 7 rfl rfl, _, E2.cell 7 rfl rfl, rcrash_wp (i := 3) (keep := c.keep) (part := c.part) E2 ⟨rfl, rfl⟩ O.d O.hk (by omega) fun v2 r2 h122 R2 E3 => Fin.of ?_⟩
    have := crashD_len cs k c.keep c.part
    exact does_J1 (x := ⟨x.kD, x.kl, x.kR, x.kg, x.kb, .slice none 0 0, v2, none, r2⟩) (cs := crashD cs k c.keep c.part) (k := (crashD cs k c.keep c.part).length) (k7 := k7) (c := c) E3 ⟨by rw [List.drop_length]; exact Row.nil _ _, R2, Nat.le_refl _, crashD_ok O.ok _ _ _⟩ ha (by omega) (fun hn => absurd (show c.kind > 2 by omega) hn) (fun x' h' O' hb E' => hQ x' h' O' hb E')
  · have e : doesS area c cs k = if (textD area cs).size + c.s.size ≤ 16384 then (cs ++ [Chg.mk area false c.s], k) else (cs, k) := by
      unfold doesS; rw [if_neg n0, if_neg n1, if_neg n2, if_neg n3, if_pos h4']
    rw [e] at hQ
    refine ⟨_, rfl, _, E1.cell 6 rfl rfl, _, E1.cell 7 rfl rfl, ?_⟩
    refine dappend_wp (i := 0) E1 ⟨rfl, rfl⟩ O.c O.hk O.ok (by omega) hs (fun q => absurd ha q) (fun _ hF => ?_) (fun _ hF v' r' h' R' E2 => ?_)
    · refine ⟨_, rfl, _, E1.cellA 6 (m := 0) rfl rfl, _, rfl, _, E1.cell 5 rfl rfl, _, E1.cell 7 rfl rfl, rappend_wp (i := 3) E1 ⟨rfl, rfl⟩ O.d O.ok (by omega) hs (fun q => absurd ha q) (fun _ _ => Fin.of ?_) (fun _ q _ _ _ _ _ => absurd q (by omega))⟩
      rw [if_neg (by omega)] at hQ
      exact does_J1 (x := x) (k7 := k7) (c := c) E1 O ha (by omega) (fun _ => ⟨rfl, rfl⟩) (fun x' h' O' hb E' => hQ x' h' O' hb E')
    · refine ⟨_, rfl, _, E2.cellA 6 (m := 0) rfl rfl, _, rfl, _, E2.cell 5 rfl rfl, _, E2.cell 7 rfl rfl, rappend_wp (i := 3) (cs := cs) E2 ⟨rfl, rfl⟩ O.d O.ok (by omega) hs (fun q => absurd ha q) (fun _ q => absurd q (by omega)) (fun _ _ v2 r2 h2 R2 E3 => Fin.of ?_)⟩
      rw [if_pos hF] at hQ
      have hok : DOk (cs ++ [Chg.mk area false c.s]) := O.ok.snoc ha (by
        show (textD area (cs ++ [Chg.mk area false c.s])).size ≤ 16384
        rw [textD_app, ByteArray.size_append]; exact hF)
      exact does_J1 (x := ⟨x.kD, x.kl, x.kR, x.kg, x.kb, v', v2, r', r2⟩) (cs := cs ++ [Chg.mk area false c.s]) (k := k) (k7 := k7) (c := c) E3 ⟨R', R2, by simp; have := O.hk; omega, hok⟩ ha (by simp; omega) (fun hn => absurd (show c.kind > 2 by omega) hn) (fun x' h' O' hb E' => hQ x' h' O' hb E')
  · have e : doesS area c cs k = (cs, k) := by unfold doesS; rw [if_neg n0, if_neg n1, if_neg n2, if_neg n3, if_neg n4]
    rw [e] at hQ
    exact does_J1 (x := x) (k7 := k7) (c := c) E1 O ha (by omega) (fun _ => ⟨rfl, rfl⟩) (fun x' h' O' hb E' => hQ x' h' O' hb E')
theorem start_wp {Q : Option Addr → Heap → Prop} (ha : area = 0 ∨ area = 1) (hQ : ∀ (x : WX) h', x.Ok [] 0 → Keep B h (x.e area [] 0) h' → Q (some ⟨x.kb, 0, none⟩) h') : C_countermandlaw04_start B area h Q := by
  refine C_countermandlaw04_start.of ?_
  unfold S_countermandlaw04_start
  refine dnew_wp fun kD h3 E => fun k5 a5 b5 h6 e6 => ?_
  have E1 := E.made a5 b5 e6
  refine ⟨_, E1.cell 2 rfl rfl, walopen_wp (i := 0) E1 ⟨rfl, rfl⟩ ha DOk.nil fun kl h8 E2 => ?_⟩
  obtain ⟨es, E3⟩ := E2.store 2 1 (.pointer (some ⟨kl, 0, none⟩)) rfl rfl
  refine ⟨_, es, fun k12 a12 b12 h13 e13 => ?_⟩
  have E4 := (E3.made a12 b12 e13).gap
  refine rlopen_wp (i := 4) (kR := k12) (k := 0) (v := .slice none 0 0) (r := none) (cs := []) E4 ⟨rfl, rfl⟩ (Row.nil _ _) DOk.nil (by decide) fun kg h14 E5 => ?_
  obtain ⟨es2, E6⟩ := E5.store 2 2 (.pointer (some ⟨kg, 0, none⟩)) rfl rfl
  exact ⟨_, es2, Fin.of (hQ ⟨kD, kl, k12, kg, k5, .slice none 0 0, .slice none 0 0, none, none⟩ _ ⟨Row.nil _ _, Row.nil _ _, Nat.le_refl _, DOk.nil⟩ (E6.picks [0, 1, 3, 4, 5, 6, 2] (by decide)))⟩
end
end Go.Proofs.Ythloobpjkeodgaa.H
