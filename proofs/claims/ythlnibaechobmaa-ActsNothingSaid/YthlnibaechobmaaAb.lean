/- The law ActsNothing. No condition. -/
import Derived.Test.YthlnibaechobmaaAa
import Derived.Test.YthlnibaechobmaaHl
namespace Go.Proofs.Ythlnibaechobmaa.H
open Go Go.RowKit
set_option linter.unusedVariables false
set_option maxRecDepth 100000

def nilS : Value := .slice none 0 0
section
variable {B : RO} {h0 h h' : Heap} {L : List (Option (Nat × AObj))} {r : Option (Nat × AObj)} {a : Option Addr} {m c k : Nat} {l : List (Int × Int)} {Q : Bool → Heap → Prop}
theorem alive16_wp (hQ : Q true h) : C_countermandlaw16_alive B h Q := by
  refine C_countermandlaw16_alive.of ?_
  unfold S_countermandlaw16_alive
  intro k2 a2 b2 h3 e3
  have E : Keep B h [some (k2, actO nilS nilS nilS nilS), none] h3 := ((Keep.nil B h).made a2 b2 e3).gap
  refine opened_wp (l := []) (i := 0) (q := 1) E rfl rfl (by decide) (Row.nil _ _) (by simp) (fun hn => absurd (by decide) hn) fun _ _ v' r' h4 R' E4 => ⟨fun _ => ?_, fun e => by cases e⟩
  refine opened_wp (l := [(1, 5)]) (i := 0) (q := 1) E4 rfl rfl (by decide) R' (by simp) (fun hn => absurd (by decide) hn) fun _ _ v' r' h4 R' E4 => ⟨fun _ => Fin.of ?_, fun e => by cases e⟩
  unfold S_countermandlaw16_alive_J1
  refine undos_wp (l := [(1, 5), (2, 3)]) (i := 0) (q := 1) E4 rfl rfl R' (by simp) fun a7 n8 c9 r'' h6 R'' E6 => ?_
  obtain ⟨hm, hrd⟩ := R''.rd (B := B) OpenC_len (by omega)
  have hu : undoL [(1, 5), (2, 3)] = [(2, -3), (1, -5)] := by decide
  rw [hu] at hm hrd
  simp only [List.length_cons, List.length_nil] at hm
  subst hm
  refine ⟨fun _ => ?_, fun hn => absurd rfl hn⟩
  obtain ⟨A, e1, _, e2⟩ := hrd h6 (fun k o e => E6.at 2 (by rw [← e]; rfl)) 0 (2, -3) rfl
  refine ⟨A, e1, by decide, by decide, 2, -3, e2, Fin.ent E6.back (Fin.of ?_)⟩
  have e : decide (eqL [(Value.int .i64 2), (Value.int .i64 (-3))] [(Value.int .i64 2), (Value.int .i64 (-3))] = true) = true := by decide
  rw [e]; exact hQ
end

/-- The sum of what was opened at a tally. -/
def sumT (l : List (Int × Int)) (t : Int) : Int := (l.map fun o => if o.1 = t then o.2 else 0).sum
def OpensOk (l : List (Int × Int)) : Prop := ∀ o ∈ l, 0 ≤ o.1 ∧ o.1 < 4 ∧ -1099511627776 ≤ o.2 ∧ o.2 ≤ 1099511627776
theorem sumT_append (l : List (Int × Int)) (o : Int × Int) (t : Int) : sumT (l ++ [o]) t = sumT l t + (if t = o.1 then o.2 else 0) := by
  unfold sumT
  rw [List.map_append, List.sum_append]
  by_cases h : o.1 = t
  · simp [h]
  · simp [h, Ne.symm h]
theorem sumT_bound : ∀ (l : List (Int × Int)) (t : Int), OpensOk l → -(l.length * 1099511627776 : Int) ≤ sumT l t ∧ sumT l t ≤ l.length * 1099511627776
  | [], t, _ => by simp [sumT]
  | o :: l, t, h => by
    have ih := sumT_bound l t (fun x hx => h x (by simp [hx]))
    have ho := h o (by simp)
    have e : sumT (o :: l) t = (if o.1 = t then o.2 else 0) + sumT l t := by simp [sumT]
    rw [e, List.length_cons]
    split <;> omega
def sumV (l : List (Int × Int)) : List Value := [.int .i64 (sumT l 0), .int .i64 (sumT l 1), .int .i64 (sumT l 2), .int .i64 (sumT l 3)]
theorem sumV_get (l : List (Int × Int)) {t : Int} (h0 : 0 ≤ t) (h1 : t < 4) : (plains (sumV l))[t.toNat]? = some (.plain (.int .i64 (sumT l t))) := by
  have : t = 0 ∨ t = 1 ∨ t = 2 ∨ t = 3 := by omega
  rcases this with rfl | rfl | rfl | rfl <;> rfl
theorem sumV_set {l l' : List (Int × Int)} {t x : Int} (h0 : 0 ≤ t) (h1 : t < 4) (hs : ∀ s, sumT l' s = sumT l s + (if s = t then x else 0)) : (plains (sumV l)).set t.toNat (.plain (.int .i64 (sumT l t + x))) = plains (sumV l') := by
  have : t = 0 ∨ t = 1 ∨ t = 2 ∨ t = 3 := by omega
  unfold sumV
  rcases this with rfl | rfl | rfl | rfl <;> simp [hs, plains]
theorem OpensOk.take {l : List (Int × Int)} (h : OpensOk l) (n : Nat) : OpensOk (l.take n) := fun o ho => h o (List.mem_of_mem_take ho)
theorem undoL_get (ol : List (Int × Int)) (n j : Nat) (hj : j < (undoL (ol.drop n)).length) : ∃ h : ol.length - 1 - j < ol.length, (undoL (ol.drop n))[j]? = some (negD ol[ol.length - 1 - j]) := by
  unfold undoL at hj ⊢
  rw [List.length_map, List.length_reverse, List.length_drop] at hj
  refine ⟨by omega, ?_⟩
  rw [List.getElem?_map, List.getElem?_reverse (by rw [List.length_drop]; omega), List.getElem?_drop, List.length_drop, List.getElem?_eq_getElem (by omega)]
  simp only [Option.map_some, Option.some.injEq]
  congr 2
  omega
theorem sumT_less (ol : List (Int × Int)) (p : Nat) (hp : p < ol.length) (s : Int) : sumT (ol.take p) s = sumT (ol.take (p + 1)) s + (if s = ol[p].1 then - ol[p].2 else 0) := by
  rw [List.take_succ_eq_append_getElem hp, sumT_append]
  split <;> omega

section
variable {B : RO} {h0 h h' : Heap} {kA k14 : Nat} {r3 : Option (Nat × AObj)} {v3 : Value} {a a4 : Option Addr} {m c c6 : Nat} {ol list : List (Int × Int)} {marks : List Int} {Q : Bool → Heap → Prop}
def anL (kA k14 : Nat) (v3 : Value) (r3 : Option (Nat × AObj)) (ol : List (Int × Int)) : List (Option (Nat × AObj)) :=
  [some (kA, actO nilS nilS nilS v3), r3, some (k14, .vec TY.a_4_int (plains (sumV ol)) 4)]
/-- One that makes up for an open is added. -/
theorem an_less {L : List (Option (Nat × AObj))} {kx : Nat} {nn : Nat} {p : Nat} (hp : p < ol.length) (hok : OpensOk ol) (hl : ol.length ≤ 80) (E : Keep B h0 L h) (h14 : L[2]? = some (some (k14, .vec TY.a_4_int (plains (sumV (ol.take (p + 1)))) 4))) :
    0 ≤ ol[p].1 ∧ ol[p].1 < 4 ∧ cellH B h (Addr.add ⟨k14, 0, none⟩ (ol[p].1.toNat * 1)) = some (.int .i64 (sumT (ol.take (p + 1)) ol[p].1)) ∧
    ∃ h', storeH h (Addr.add ⟨k14, 0, none⟩ (ol[p].1.toNat * 1)) (.int .i64 (IntKind.wrap .i64 (sumT (ol.take (p + 1)) ol[p].1 + (negD ol[p]).2))) = some h' ∧ Keep B h0 (L.set 2 (some (k14, .vec TY.a_4_int (plains (sumV (ol.take p))) 4))) h' := by
  have ho := hok ol[p] (List.getElem_mem hp)
  have hb := sumT_bound (ol.take (p + 1)) ol[p].1 (hok.take _)
  have hb' := sumT_bound (ol.take p) ol[p].1 (hok.take _)
  have hlen : (ol.take (p + 1)).length ≤ 80 := by rw [List.length_take]; omega
  have hlen' : (ol.take p).length ≤ 80 := by rw [List.length_take]; omega
  have hs := sumT_less ol p hp
  have e1 : (negD ol[p]).2 = - ol[p].2 := by unfold negD; simp only; rw [w64 (by omega) (by omega)]; omega
  have hs0 := hs ol[p].1
  rw [if_pos rfl] at hs0
  have e2 : IntKind.wrap .i64 (sumT (ol.take (p + 1)) ol[p].1 + (negD ol[p]).2) = sumT (ol.take (p + 1)) ol[p].1 + - ol[p].2 := by
    rw [e1, w64 (by omega) (by omega)]
  refine ⟨ho.1, ho.2.1, ?_, ?_⟩
  · rw [addr_more, Nat.mul_one, Nat.zero_add]
    exact E.cell 2 h14 (sumV_get _ ho.1 ho.2.1)
  · rw [e2, addr_more, Nat.mul_one, Nat.zero_add]
    obtain ⟨es, E2⟩ := E.store 2 ol[p].1.toNat (.int .i64 (sumT (ol.take (p + 1)) ol[p].1 + - ol[p].2)) h14 (sumV_get _ ho.1 ho.2.1)
    refine ⟨_, es, ?_⟩
    rw [sumV_set ho.1 ho.2.1 hs] at E2 ⊢
    exact E2
theorem ActsNothing_J2 (E : Keep B h0 (anL kA k14 v3 r3 ol) h) (R : Row r3 v3 TY.acts_Open 2 (ol.flatMap OpenC)) (hok : OpensOk ol) (hl : ol.length ≤ 80) (hQ : Q true h0) : S_countermandlaw16_ActsNothing_J2 B kA k14 h Q := by
  unfold S_countermandlaw16_ActsNothing_J2
  refine undos_wp (i := 0) (q := 1) E rfl rfl R (by omega) fun a19 n20 c21 r' h18 R' E' => ?_
  obtain ⟨rfl, hrd⟩ := R'.rd (B := B) OpenC_len (by omega)
  have hul : (undoL ol).length = ol.length := by simp [undoL]
  refine ⟨fun i m' h' => ∃ j : Nat, j ≤ ol.length ∧ i = j ∧ m' = ol.length - j ∧ Keep B h0 (anL kA k14 v3 r3 (ol.take (ol.length - j)) ++ [r']) h', ol.length, Fin.of ⟨0, by omega, rfl, by omega, ?_⟩, ?_⟩
  · rw [Nat.sub_zero, List.take_length]; exact E'
  clear E E'
  rintro _ _ h23 ⟨j, hj, rfl, rfl, E⟩
  refine ⟨fun hlt => ?_, fun hge => ?_⟩
  · have hj' : j < ol.length := by omega
    have hw : IntKind.wrap .i64 ((j : Int) + 1) = ((j + 1 : Nat) : Int) := by rw [w64 (by omega) (by omega)]; omega
    obtain ⟨hp, hg⟩ := undoL_get ol 0 j (by rw [List.drop_zero]; omega)
    rw [List.drop_zero] at hg
    obtain ⟨A, e1, _, e4⟩ := hrd h23 (fun k o e => E.at 3 (by rw [← e]; rfl)) j _ hg
    refine ⟨A, e1, by omega, hlt, _, _, e4, fun k33 a33 b33 h34 e34 => ?_⟩
    have E1 := E.made a33 b33 e34
    refine ⟨_, stores_whole (E1.at 4 rfl) rfl (by simp) (by simp [isOne]) (by simp), ?_⟩
    have E2 := E1.put (o' := .vec TY.acts_Open (plains [.int .i64 (negD ol[ol.length - 1 - j]).1, .int .i64 (negD ol[ol.length - 1 - j]).2]) 2) 4 rfl
    have hep : ol.length - j = (ol.length - 1 - j) + 1 := by omega
    rw [hep] at E2
    obtain ⟨t0, t1, tc, h'', ts, E3⟩ := an_less (kx := 0) (nn := 0) hp hok hl E2 rfl
    refine ⟨_, E2.cell 4 rfl rfl, fun hlt0 => absurd (show (ol[ol.length - 1 - j]).1 < 0 from hlt0) (by omega), fun _ => ⟨_, E2.cell 4 rfl rfl, fun hgt => absurd (show (ol[ol.length - 1 - j]).1 > 3 from hgt) (by omega), fun _ => Fin.of ?_⟩⟩
    unfold S_countermandlaw16_ActsNothing_J3
    refine ⟨_, E2.cell 4 rfl rfl, t0, t1, _, tc, _, E2.cell 4 rfl rfl, t0, t1, _, ts, Fin.of ⟨ol.length - (j + 1), by omega, j + 1, by omega, hw, rfl, ?_⟩⟩
    have : ol.length - (j + 1) = ol.length - 1 - j := by omega
    rw [this]
    exact E3.take 4
  · have : j = ol.length := by omega
    subst this
    rw [Nat.sub_self, List.take_zero] at E
    refine ⟨_, _, _, _, ⟨E.cell 2 rfl rfl, E.cell 2 rfl rfl, E.cell 2 rfl rfl, E.cell 2 rfl rfl, trivial⟩, Fin.ent E.back (Fin.of ?_)⟩
    have e : decide (eqL [Value.int .i64 (sumT [] 0), Value.int .i64 (sumT [] 1), Value.int .i64 (sumT [] 2), Value.int .i64 (sumT [] 3)] [Value.int .i64 0, Value.int .i64 0, Value.int .i64 0, Value.int .i64 0] = true) = true := by decide
    rw [e]; exact hQ
theorem an_cut (R : Row r3 v3 TY.acts_Open 2 (ol.flatMap OpenC)) {a3 : Option Addr} {m3 c3 : Nat} (e : v3 = .slice a3 m3 c3) (i : Int) : Row r3 (cutV a3 m3 i) TY.acts_Open 2 ((ol.take (min m3 i.toNat)).flatMap OpenC) := by
  subst e
  have := R.first (n := min m3 i.toNat) (by omega)
  rw [take_flatMap OpenC_len] at this
  exact this
theorem cut_nil (i : Int) : cutV none 0 i = nilS := by unfold cutV; rw [Nat.zero_min]; rfl
theorem ActsNothing_J6 {j : Nat} {m54 : Nat} {J57 : Int → Nat → Heap → Prop} (E : Keep B h0 (anL kA k14 v3 r3 ol) h) (R : Row r3 v3 TY.acts_Open 2 (ol.flatMap OpenC)) (hok : OpensOk ol) (hl : ol.length ≤ 80)
    (hr4 : Reads B h0 a4 1 NoteC marks) (b : Bool) (hb : b = true → ∃ h : j < marks.length, 0 ≤ marks[j])
    (hJ : ∀ {h' v3 r3 ol'}, ol'.length ≤ ol.length → OpensOk ol' → Row r3 v3 TY.acts_Open 2 (ol'.flatMap OpenC) → Keep B h0 (anL kA k14 v3 r3 ol') h' → Fin B h' (fun h'' => ∃ m', m' < m54 ∧ J57 (IntKind.wrap .i64 ((j : Int) + 1)) m' h'')) :
    S_countermandlaw16_ActsNothing_J6 B a m c a4 marks.length c6 kA k14 (j : Int) m54 J57 b h Q := by
  unfold S_countermandlaw16_ActsNothing_J6
  refine ⟨fun hT => ?_, fun _ => hJ (Nat.le_refl _) hok R E⟩
  obtain ⟨hj, hm0⟩ := hb hT
  obtain ⟨a3, m3, c3, rfl⟩ := R.slice
  obtain ⟨rfl, -⟩ := R.rd (B := B) OpenC_len (by omega)
  refine marks_wp (i := 0) E rfl fun h73 E73 => ?_
  intro k78 a78 b78 h79 e79
  have E1 := E73.made a78 b78 e79
  refine ⟨_, stores_whole (E1.at 3 rfl) rfl (by simp) (by simp [isOne]) (by simp), ?_⟩
  have E2 := E1.put (o' := .vec TY.acts_Mark (plains [.int .i64 (0 : Nat), .int .i64 (0 : Nat), .int .i64 (0 : Nat), .int .i64 (ol.length : Nat)]) 4) 3 rfl
  obtain ⟨A, f1, _, f4⟩ := (hr4.over E2.le E2.nw) j marks[j] (List.getElem?_eq_getElem hj)
  refine ⟨A, f1, by omega, by omega, marks[j], f4.1, by decide, by decide, _, E2.cell 3 rfl rfl, by decide, by decide, ?_⟩
  obtain ⟨e3, E3⟩ := E2.store 3 3 (.int .i64 (if ((ol.length : Nat) : Int) < marks[j] then ((ol.length : Nat) : Int) else marks[j])) rfl rfl
  refine ⟨_, e3, _, _, _, _, ⟨E3.cell 3 rfl rfl, E3.cell 3 rfl rfl, E3.cell 3 rfl rfl, E3.cell 3 rfl rfl, trivial⟩, ?_⟩
  refine back_wp (i := 0) (q := 1) E3 rfl rfl (by decide) (Nat.le_refl _) (Nat.le_refl _) (Nat.le_refl _) R (by omega) fun a91 n92 c93 r' h90 R' E' => ?_
  generalize hcut : min ol.length (Int.toNat (if ((ol.length : Nat) : Int) < marks[j] then ((ol.length : Nat) : Int) else marks[j])) = cut at R'
  have hcl : cut ≤ ol.length := by omega
  have Rc := an_cut R rfl (if ((ol.length : Nat) : Int) < marks[j] then ((ol.length : Nat) : Int) else marks[j])
  rw [hcut] at Rc
  generalize cutV a3 ol.length (if ((ol.length : Nat) : Int) < marks[j] then ((ol.length : Nat) : Int) else marks[j]) = v3' at Rc E'
  have E4 : Keep B h0 (anL kA k14 v3' r3 ol ++ [none, r']) h90 := E'.lose 3
  clear E' E3 e3 E2 E1 e79
  obtain ⟨rfl, hrd⟩ := R'.rd (B := B) OpenC_len (by omega)
  have hul : (undoL (ol.drop cut)).length = ol.length - cut := by simp [undoL]
  refine ⟨fun i m' h' => ∃ q : Nat, q ≤ ol.length - cut ∧ i = q ∧ m' = ol.length - cut - q ∧ Keep B h0 (anL kA k14 v3' r3 (ol.take (ol.length - q)) ++ [none, r']) h', ol.length - cut, Fin.of ⟨0, by omega, rfl, by omega, ?_⟩, ?_⟩
  · rw [Nat.sub_zero, List.take_length]; exact E4
  clear E4 E
  rintro _ _ h95 ⟨q, hq, rfl, rfl, E⟩
  refine ⟨fun hlt => ?_, fun hge => ?_⟩
  · have hq' : q < ol.length - cut := by omega
    have hw : IntKind.wrap .i64 ((q : Int) + 1) = ((q + 1 : Nat) : Int) := by rw [w64 (by omega) (by omega)]; omega
    obtain ⟨hp, hg⟩ := undoL_get ol cut q (by omega)
    obtain ⟨A, e1, _, e4⟩ := hrd h95 (fun k o e => E.at 4 (by rw [← e]; rfl)) q _ hg
    refine ⟨A, e1, by omega, hlt, _, _, e4, fun k33 a33 b33 h34 e34 => ?_⟩
    have E1 := E.made a33 b33 e34
    refine ⟨_, stores_whole (E1.at 5 rfl) rfl (by simp) (by simp [isOne]) (by simp), ?_⟩
    have E2 := E1.put (o' := .vec TY.acts_Open (plains [.int .i64 (negD ol[ol.length - 1 - q]).1, .int .i64 (negD ol[ol.length - 1 - q]).2]) 2) 5 rfl
    have hep : ol.length - q = (ol.length - 1 - q) + 1 := by omega
    rw [hep] at E2
    obtain ⟨t0, t1, tc, h'', ts, E3⟩ := an_less (kx := 0) (nn := 0) hp hok hl E2 rfl
    refine ⟨_, E2.cell 5 rfl rfl, fun hlt0 => absurd (show (ol[ol.length - 1 - q]).1 < 0 from hlt0) (by omega), fun _ => ⟨_, E2.cell 5 rfl rfl, fun hgt => absurd (show (ol[ol.length - 1 - q]).1 > 3 from hgt) (by omega), fun _ => Fin.of ?_⟩⟩
    unfold S_countermandlaw16_ActsNothing_J7
    refine ⟨_, E2.cell 5 rfl rfl, t0, t1, _, tc, _, E2.cell 5 rfl rfl, t0, t1, _, ts, Fin.of ⟨ol.length - cut - (q + 1), by omega, q + 1, by omega, hw, rfl, ?_⟩⟩
    have : ol.length - (q + 1) = ol.length - 1 - q := by omega
    rw [this]
    exact E3.take 5
  · have : q = ol.length - cut := by omega
    subst this
    have : ol.length - (ol.length - cut) = cut := by omega
    rw [this] at E
    exact hJ (by rw [List.length_take]; omega) (hok.take _) Rc (E.take 3)
theorem ActsNothing_J5 {j : Nat} {m54 : Nat} {J57 : Int → Nat → Heap → Prop} (E : Keep B h0 (anL kA k14 v3 r3 ol) h) (R : Row r3 v3 TY.acts_Open 2 (ol.flatMap OpenC)) (hok : OpensOk ol) (hl : ol.length ≤ 80)
    (hr4 : Reads B h0 a4 1 NoteC marks)
    (hJ : ∀ {h' v3 r3 ol'}, ol'.length ≤ ol.length → OpensOk ol' → Row r3 v3 TY.acts_Open 2 (ol'.flatMap OpenC) → Keep B h0 (anL kA k14 v3 r3 ol') h' → Fin B h' (fun h'' => ∃ m', m' < m54 ∧ J57 (IntKind.wrap .i64 ((j : Int) + 1)) m' h'')) :
    S_countermandlaw16_ActsNothing_J5 B a m c a4 marks.length c6 kA k14 (j : Int) m54 J57 h Q := by
  unfold S_countermandlaw16_ActsNothing_J5
  refine ⟨fun hlt => ?_, fun _ => Fin.of (ActsNothing_J6 E R hok hl hr4 false (by simp) hJ)⟩
  have hj : j < marks.length := by omega
  obtain ⟨A, f1, _, f4⟩ := (hr4.over E.le E.nw) j marks[j] (List.getElem?_eq_getElem hj)
  exact ⟨A, f1, by omega, hlt, marks[j], f4.1, fun hge => Fin.of (ActsNothing_J6 E R hok hl hr4 true (fun _ => ⟨hj, hge⟩) hJ), fun _ => Fin.of (ActsNothing_J6 E R hok hl hr4 false (by simp) hJ)⟩
theorem ActsNothing_J4 {j : Nat} {m54 k63 : Nat} {o : Int × Int} {J57 : Int → Nat → Heap → Prop} (E : Keep B h0 (anL kA k14 v3 r3 ol ++ [some (k63, .vec TY.acts_Open (plains (OpenC o)) 2)]) h) (R : Row r3 v3 TY.acts_Open 2 (ol.flatMap OpenC)) (hok : OpensOk ol) (hl : ol.length < 80)
    (hd : -1099511627776 ≤ o.2 ∧ o.2 ≤ 1099511627776) (hr4 : Reads B h0 a4 1 NoteC marks)
    (hJ : ∀ {h' v3 r3 ol'}, ol'.length ≤ ol.length + 1 → OpensOk ol' → Row r3 v3 TY.acts_Open 2 (ol'.flatMap OpenC) → Keep B h0 (anL kA k14 v3 r3 ol') h' → Fin B h' (fun h'' => ∃ m', m' < m54 ∧ J57 (IntKind.wrap .i64 ((j : Int) + 1)) m' h'')) :
    S_countermandlaw16_ActsNothing_J4 B a m c a4 marks.length c6 kA k14 (j : Int) m54 J57 k63 h Q := by
  unfold S_countermandlaw16_ActsNothing_J4
  refine ⟨_, E.cell 3 rfl rfl, _, E.cell 3 rfl rfl, opened_wp (i := 0) (q := 1) E rfl rfl (by decide) R (by omega) (fun _ => ⟨fun e => (by cases e), fun _ => Fin.of (ActsNothing_J5 (E.take 3) R hok (by omega) hr4 fun h1 => hJ (by omega))⟩) fun t0 t1 v' r' h' R' E' => ⟨fun _ => ?_, fun e => by cases e⟩⟩
  have E1 : Keep B h0 ([some (kA, actO nilS nilS nilS v'), r', some (k14, .vec TY.a_4_int (plains (sumV ol)) 4), some (k63, .vec TY.acts_Open (plains (OpenC o)) 2)]) h' := E'
  refine ⟨_, E1.cell 3 rfl rfl, fun hlt => absurd (show o.1 < 0 from hlt) (by omega), fun _ => ⟨_, E1.cell 3 rfl rfl, fun hgt => absurd (show o.1 > 3 from hgt) (by omega), fun _ => Fin.of ?_⟩⟩
  unfold S_countermandlaw16_ActsNothing_J8
  have hb := sumT_bound ol o.1 hok
  have hs : ∀ s, sumT (ol ++ [o]) s = sumT ol s + (if s = o.1 then o.2 else 0) := sumT_append ol o
  have ew : IntKind.wrap .i64 (sumT ol o.1 + o.2) = sumT ol o.1 + o.2 := by rw [w64 (by omega) (by omega)]
  refine ⟨_, E1.cell 3 rfl rfl, t0, t1, sumT ol o.1, ?_, _, E1.cell 3 rfl rfl, t0, t1, ?_⟩
  · rw [addr_more, Nat.mul_one, Nat.zero_add]
    exact E1.cell 2 rfl (sumV_get _ t0 t1)
  rw [addr_more, Nat.mul_one, Nat.zero_add, ew]
  obtain ⟨es, E2⟩ := E1.store 2 o.1.toNat (.int .i64 (sumT ol o.1 + o.2)) rfl (sumV_get _ t0 t1)
  rw [sumV_set t0 t1 hs] at E2 es
  refine ⟨_, es, Fin.of (ActsNothing_J5 (E2.take 3) R' ?_ (by simp; omega) hr4 fun h1 => hJ (by simpa using h1))⟩
  intro x hx
  rcases List.mem_append.1 hx with h1 | h1
  · exact hok x h1
  · simp only [List.mem_singleton] at h1
    subst h1
    exact ⟨t0, t1, hd⟩
theorem ActsNothing_wp (hr : Reads B h a 2 OpenC list) (hr4 : Reads B h a4 1 NoteC marks) (hQ : Q true h) : C_countermandlaw16_ActsNothing B a list.length c a4 marks.length c6 h Q := by
  refine C_countermandlaw16_ActsNothing.of ?_
  unfold S_countermandlaw16_ActsNothing
  refine alive16_wp ⟨fun _ => ⟨fun _ => Fin.of hQ, fun hl1 => ⟨fun _ => Fin.of hQ, fun hl2 => Fin.of ?_⟩⟩, fun e => by cases e⟩
  unfold S_countermandlaw16_ActsNothing_J1
  intro k12 a12 b12 h13 e13 k14 a14 b14 h15 e15
  have E0 : Keep B h (anL k12 k14 nilS none []) h15 := ((Keep.nil B h).made a12 b12 e13).gap.made a14 b14 e15
  refine ⟨fun i m h' => ∃ (j : Nat) (v3 : Value) (r3 : Option (Nat × AObj)) (ol : List (Int × Int)), j ≤ list.length ∧ i = j ∧ m = list.length - j ∧ ol.length ≤ j ∧ OpensOk ol ∧ Row r3 v3 TY.acts_Open 2 (ol.flatMap OpenC) ∧ Keep B h (anL k12 k14 v3 r3 ol) h', list.length, Fin.of ⟨0, nilS, none, [], by omega, rfl, by omega, by simp, (fun _ hx => by cases hx), Row.nil _ _, E0⟩, ?_⟩
  clear E0 e15 e13
  rintro _ _ h53 ⟨j, v3, r3, ol, hj, rfl, rfl, holj, hok, R, E⟩
  refine ⟨fun hlt => ?_, fun _ => Fin.of (ActsNothing_J2 E R hok (by omega) hQ)⟩
  have hj' : j < list.length := by omega
  have hw : IntKind.wrap .i64 ((j : Int) + 1) = ((j + 1 : Nat) : Int) := by rw [w64 (by omega) (by omega)]; omega
  obtain ⟨A, e1, e3, e4⟩ := (hr.over E.le E.nw) j list[j] (List.getElem?_eq_getElem hj')
  refine ⟨A, e1, by omega, hlt, list[j].1, list[j].2, e4, fun k63 a63 b63 h64 e64 => ?_⟩
  have E1 := E.made a63 b63 e64
  refine ⟨_, stores_whole (E1.at 3 rfl) rfl (by simp) (by simp [isOne]) (by simp), ?_⟩
  have E2 := E1.put (o' := .vec TY.acts_Open (plains (OpenC list[j])) 2) 3 rfl
  refine ⟨_, E2.cell 3 rfl rfl, fun _ => Fin.ent E2.back (Fin.of hQ), fun h1 => ⟨_, E2.cell 3 rfl rfl, fun _ => Fin.ent E2.back (Fin.of hQ), fun h2 => Fin.of ?_⟩⟩
  have h1' : ¬ (list[j].2 < -1099511627776) := h1
  have h2' : ¬ (list[j].2 > 1099511627776) := h2
  exact ActsNothing_J4 E2 R hok (by omega) (by omega) hr4 fun hl' hok' R' E' => Fin.of ⟨list.length - (j + 1), by omega, j + 1, _, _, _, by omega, hw, rfl, by omega, hok', R', E'⟩
end
theorem TK.opens_sl : PG.underlying TY.s_acts_Open = some (.slice TY.acts_Open) := by kernel_rfl
theorem TK.open_kd : leafB PG 5 TY.acts_Open = some [.int .i64, .int .i64] := by kernel_rfl
theorem TK.ints_sl : PG.underlying TY.s_int = some (.slice TY.int) := by kernel_rfl
theorem TK.int_kd : leafB PG 5 TY.int = some [.int .i64] := by kernel_rfl
theorem Open_arg {H : Type} {enc : TypeId × Value → H} {w : World} {base : Nat} {spare : Nat → Bool} {held : Bool} {a : Option Addr} {len cap : Nat} {d : DataW H} {p : List MemPlace} (h : DataW.Trod enc PG w base spare held TY.s_acts_Open (.slice a len cap) d p) :
    ∃ l : List (Int × Int), len = l.length ∧ Reads (roOf w) noHeap a 2 OpenC l ∧ ∀ x ∈ l, True :=
  arg_rows OpenC (fun _ => True) TK.opens_sl TK.open_kd rfl (by omega) (fun vs h => by
    obtain ⟨z1, v1, rfl, _, h⟩ := h.int
    obtain ⟨z2, v2, rfl, _, h⟩ := h.int
    obtain rfl := h.nil
    exact ⟨(z1, z2), rfl, trivial⟩) h
theorem Int_arg {H : Type} {enc : TypeId × Value → H} {w : World} {base : Nat} {spare : Nat → Bool} {held : Bool} {a : Option Addr} {len cap : Nat} {d : DataW H} {p : List MemPlace} (h : DataW.Trod enc PG w base spare held TY.s_int (.slice a len cap) d p) :
    ∃ l : List Int, len = l.length ∧ Reads (roOf w) noHeap a 1 NoteC l ∧ ∀ x ∈ l, (Lit.int .i64 x).wf = true :=
  arg_rows NoteC (fun x => (Lit.int .i64 x).wf = true) TK.ints_sl TK.int_kd rfl (by omega) (fun vs h => by
    obtain ⟨z1, v1, rfl, hz, h⟩ := h.int
    obtain rfl := h.nil
    exact ⟨z1, rfl, hz⟩) h
theorem ActsNothing_calls {H : Type} {enc : TypeId × Value → H} (W : World) {a : Option Addr} {len cap : Nat} {d : DataW H} {p : List MemPlace} (k : DataW.Trod enc PG W 0 (fun _ => true) true TY.s_acts_Open (.slice a len cap) d p)
    {a' : Option Addr} {len' cap' : Nat} {d' : DataW H} {p' : List MemPlace} (k' : DataW.Trod enc PG W 0 (fun _ => true) true TY.s_int (.slice a' len' cap') d' p') :
    Calls PG FN.countermandlaw16_ActsNothing #[.slice a len cap, .slice a' len' cap'] W fun e w' => e = .returned (.bool true) ∧ Below W.heap.size W w' := by
  obtain ⟨l, rfl, hr, hok⟩ := Open_arg k
  obtain ⟨l', rfl, hr', hok'⟩ := Int_arg k'
  refine Spec.calls (Spec.mono (ActsNothing_wp (Q := fun b _ => b = true) hr hr' rfl) ?_)
  rintro v h' ⟨b, rfl, rfl⟩
  rfl
end Go.Proofs.Ythlnibaechobmaa.H
