/- The law ActsDoes: the document's answer: plain, and contracts. No condition. -/
import Derived.Test.YthloobpjkeodgaaAe
import Derived.Test.YthloobpjkeodgaaHx
namespace Go.Proofs.Ythloobpjkeodgaa.H
open Go Go.RowKit
set_option linter.unusedVariables false
set_option maxRecDepth 100000

theorem ActR_len (x : ActR) : x.cells.length = 3 := rfl
theorem ActR_one (x : ActR) : ∀ y ∈ x.cells, isOne y = true := fun y hy => by simp [ActR.cells] at hy; rcases hy with rfl | rfl | rfl <;> rfl
theorem TK.slc_acts : slcB PG TY.s_countermandref16_Act = some (TY.countermandref16_Act, 3, 24) := by kernel_rfl
theorem TK.zero_act : zeroB PG TY.countermandref16_Act = some [.int .i64 0, .int .i64 0, .int .i64 0] := by kernel_rfl
theorem TK.sl_acts : slT PG TY.s_countermandref16_Act = true := by kernel_rfl
def ofA (l : List ActR) (k : Int) : List ActR := l.filter fun x => x.kind == k
theorem ofA_snoc (l : List ActR) (x : ActR) (k : Int) : ofA (l ++ [x]) k = ofA l k ++ (if x.kind = k then [x] else []) := by
  unfold ofA
  rw [List.filter_append]
  congr 1
  by_cases h : x.kind = k
  · simp [h]
  · simp [h]
theorem ofA_append (l m : List ActR) (k : Int) : ofA (l ++ m) k = ofA l k ++ ofA m k := by unfold ofA; rw [List.filter_append]
theorem ofA_len (l : List ActR) (k : Int) : (ofA l k).length ≤ l.length := List.length_filter_le _ _
theorem ofA_take {l : List ActR} {j : Nat} {x : ActR} (h : l[j]? = some x) (k : Int) : ofA (l.take (j + 1)) k = ofA (l.take j) k ++ (if x.kind = k then [x] else []) := by
  obtain ⟨hq, rfl⟩ := List.getElem?_eq_some_iff.1 h
  rw [List.take_succ_eq_append_getElem hq, ofA_snoc]
def GoodK (l : List ActR) : Prop := ∀ x ∈ l, 0 ≤ x.kind ∧ x.kind < 4
def outP (x : ActR) : Int × Int := (x.a, IntKind.wrap .u8 x.b)
def openP (x : ActR) : Int × Int := (x.a, x.b)
def toS (l : List ActR) : ActS := ⟨(ofA l 0).map outP, (ofA l 1).map outP, (ofA l 2).map (·.a), (ofA l 3).map openP⟩
theorem toS_do (l : List ActR) (x : ActR) (h0 : 0 ≤ x.kind) (h4 : x.kind < 4) : doA (toS l) x.kind x.a x.b = toS (if goodA x.kind x.a = true then l ++ [x] else l) := by
  unfold doA
  by_cases hg : goodA x.kind x.a = true
  · rw [if_pos hg, if_pos hg]
    unfold toS
    rw [ofA_snoc, ofA_snoc, ofA_snoc, ofA_snoc]
    have hk : x.kind = 0 ∨ x.kind = 1 ∨ x.kind = 2 ∨ x.kind = 3 := by omega
    rcases hk with h | h | h | h <;> simp [h, outP, openP]
  · rw [if_neg hg, if_neg hg]
def ud3 (x : ActR) : ActR := ⟨3, x.a, IntKind.wrap .i64 (0 - x.b)⟩
def undoA (l : List ActR) : List ActR := ((ofA l 3).reverse).map ud3
theorem undoA_openP (l : List ActR) : (undoA l).map openP = undoL ((ofA l 3).map openP) := by
  unfold undoA undoL
  rw [List.map_map, ← List.map_reverse, List.map_map]
  rfl
/-- The first ones of each kind, and the others. -/
structure SplA (m : Int → Int) (l s g : List ActR) : Prop where
  es : ∀ k, ofA s k = (ofA l k).take (m k).toNat
  eg : ∀ k, ofA g k = (ofA l k).drop (m k).toNat
  ls : s.length ≤ l.length
  lg : g.length ≤ l.length
  ms : ∀ x ∈ s, x ∈ l
  mg : ∀ x ∈ g, x ∈ l
theorem SplA.nil (m : Int → Int) : SplA m [] [] [] := ⟨fun k => by simp [ofA], fun k => by simp [ofA], Nat.le_refl _, Nat.le_refl _, fun x h => h, fun x h => h⟩
theorem SplA.stay {m : Int → Int} {l s g : List ActR} (S : SplA m l s g) {x : ActR} (h : ((ofA l x.kind).length : Int) < m x.kind) : SplA m (l ++ [x]) (s ++ [x]) g := by
  refine ⟨fun k => ?_, fun k => ?_, by simpa using S.ls, by have := S.lg; simp; omega, fun y hy => ?_, fun y hy => by have := S.mg y hy; simp [this]⟩
  · rw [ofA_snoc, ofA_snoc, S.es k]
    by_cases e : x.kind = k
    · subst e
      rw [if_pos rfl, List.take_of_length_le (by omega), List.take_of_length_le (by rw [List.length_append]; simp; omega)]
    · rw [if_neg e, List.append_nil, List.append_nil]
  · rw [ofA_snoc, S.eg k]
    by_cases e : x.kind = k
    · subst e
      rw [if_pos rfl, List.drop_of_length_le (by omega), List.drop_of_length_le (by rw [List.length_append]; simp; omega)]
    · rw [if_neg e, List.append_nil]
  · rcases List.mem_append.1 hy with h | h
    · have := S.ms y h; simp [this]
    · simp at h; simp [h]
theorem SplA.go {m : Int → Int} {l s g : List ActR} (S : SplA m l s g) {x : ActR} (h : ¬ ((ofA l x.kind).length : Int) < m x.kind) : SplA m (l ++ [x]) s (g ++ [x]) := by
  refine ⟨fun k => ?_, fun k => ?_, by have := S.ls; simp; omega, by simpa using S.lg, fun y hy => by have := S.ms y hy; simp [this], fun y hy => ?_⟩
  · rw [ofA_snoc, S.es k]
    by_cases e : x.kind = k
    · subst e
      rw [if_pos rfl, List.take_append_of_le_length (by omega)]
    · rw [if_neg e, List.append_nil]
  · rw [ofA_snoc, ofA_snoc, S.eg k]
    by_cases e : x.kind = k
    · subst e
      rw [if_pos rfl, List.drop_append_of_le_length (by omega)]
    · rw [if_neg e, List.append_nil, List.append_nil]
  · rcases List.mem_append.1 hy with h | h
    · have := S.mg y h; simp [this]
    · simp at h; simp [h]
def mk4 (a b c d : Int) (k : Int) : Int := if k = 0 then a else if k = 1 then b else if k = 2 then c else d
theorem toS_stay {a b c d : Int} {l s g : List ActR} (S : SplA (mk4 a b c d) l s g) : toS s = cutA (toS l) a b c d := by
  unfold toS cutA
  rw [S.es 0, S.es 1, S.es 2, S.es 3]
  simp only [mk4, List.map_take, if_true]
  simp
  refine ⟨?_, ?_, ?_, ?_⟩ <;> omega
theorem mk4_eq {a b c d k : Int} (h0 : 0 ≤ k) (h4 : k < 4) : [a, b, c, d][k.toNat]? = some (mk4 a b c d k) := by
  have hk : k = 0 ∨ k = 1 ∨ k = 2 ∨ k = 3 := by omega
  rcases hk with rfl | rfl | rfl | rfl <;> rfl

section
variable {B : RO} {h0 h h' : Heap} {L : List (Option (Nat × AObj))} {a a4 : Option Addr} {c c6 : Nat} {l la : List ActR} {lo : List (Int × Int)} {n : Int} {Q : Bool → Heap → Prop}
theorem good16_wp {k b x : Int} (h0' : 0 ≤ k) (h4 : k < 4) (hQ : Q (goodA k x) h) : C_countermandlaw16_good B k x b h Q := by
  refine C_countermandlaw16_good.of ?_
  unfold S_countermandlaw16_good
  intro k5 a5 b5 h6 e6
  have E := (Keep.nil B h).made a5 b5 e6
  unfold goodA at hQ
  have fin : ∀ {t : Bool}, Q t h → Fin B h6 (Q t) := fun q => Fin.ent E.back (Fin.of q)
  refine ⟨_, E.cell 0 rfl rfl, fun e => fin ?_, fun n2 => ⟨_, E.cell 0 rfl rfl, fun hx => ⟨_, E.cell 0 rfl rfl, fun hk => ⟨_, E.cell 0 rfl rfl, fun h2 => fin ?_, fun h2 => ⟨_, E.cell 0 rfl rfl, fun e3 => by omega, fun _ => fin ?_⟩⟩, fun hk => ⟨_, E.cell 0 rfl rfl, fun e3 => ⟨_, E.cell 0 rfl rfl, fin ?_⟩, fun n3 => by omega⟩⟩, fun hx => fin ?_⟩⟩
  · rw [if_neg (by omega), if_pos e] at hQ; exact hQ
  · rw [if_pos (by omega), decide_eq_true (by omega)] at hQ; exact hQ
  · rw [if_pos (by omega), decide_eq_false (by omega)] at hQ; exact hQ
  · rw [if_neg (by omega), if_neg n2] at hQ
    have : decide (0 ≤ x ∧ x < 4) = decide (x ≤ 3) := by rw [decide_eq_decide]; omega
    rw [this] at hQ; exact hQ
  · by_cases hk : k = 0 ∨ k = 1
    · rw [if_pos hk, decide_eq_false (by omega)] at hQ; exact hQ
    · rw [if_neg hk, if_neg n2, decide_eq_false (by omega)] at hQ; exact hQ
theorem of16_wp {Q : Option Addr → Nat → Nat → Heap → Prop} (hr : Reads B h a 3 ActR.cells l) (hl : l.length ≤ 100000) (hQ : ∀ a' m' c' r' h', Row r' (.slice a' m' c') TY.countermandref16_Act 3 ((ofA l n).flatMap ActR.cells) → Keep B h [r'] h' → Q a' m' c' h') : C_countermandref16_Of B a l.length c n h Q := by
  refine C_countermandref16_Of.of ?_
  unfold S_countermandref16_Of
  refine ⟨fun a' n' c' i m h' => ∃ (j : Nat) (r : Option (Nat × AObj)), j ≤ l.length ∧ i = j ∧ m = l.length - j ∧ Row r (.slice a' n' c') TY.countermandref16_Act 3 ((ofA (l.take j) n).flatMap ActR.cells) ∧ Keep B h [r] h', l.length, Fin.of ⟨0, none, by omega, rfl, by omega, Row.nil _ _, (Keep.nil B h).gap⟩, ?_⟩
  rintro a8 n9 c10 _ _ h12 ⟨j, r, hj, rfl, rfl, R, E⟩
  refine ⟨fun hlt => ?_, fun _ => Fin.of ?_⟩
  · have hj' : j < l.length := by omega
    have hw : IntKind.wrap .i64 ((j : Int) + 1) = ((j + 1 : Nat) : Int) := by rw [w64 (by omega) (by omega)]; omega
    have hx := List.getElem?_eq_getElem hj'
    generalize l[j] = x at hx
    have hof := ofA_take hx n
    have hol := ofA_len (l.take j) n
    rw [List.length_take] at hol
    obtain ⟨A, e1, _, e4⟩ := (hr.over E.le E.nw) j x hx
    refine ⟨A, e1, by omega, hlt, x.kind, x.a, x.b, e4, fun k23 a23 b23 h24 e24 => ?_⟩
    have E1 := E.made a23 b23 e24
    refine ⟨_, stores_whole (E1.at 1 rfl) rfl (by simp) (by simp [isOne]) (by simp), ?_⟩
    have E2 := E1.put (o' := .vec TY.countermandref16_Act (plains x.cells) 3) 1 rfl
    refine ⟨_, E2.cell 1 rfl rfl, fun he => ⟨_, _, _, ⟨E2.cell 1 rfl rfl, E2.cell 1 rfl rfl, E2.cell 1 rfl rfl, trivial⟩, fun k31 a31 b31 h32 e32 => ?_⟩, fun hne => Fin.of ⟨l.length - (j + 1), by omega, j + 1, r, by omega, hw, rfl, ?_, E2.take 1⟩⟩
    · have hfl := flatMap_length ActR_len (ofA (l.take j) n)
      refine E2.push1 0 rfl R TK.slc_acts TK.zero_act rfl (by omega) (by omega) TK.sl_acts rfl (by simp [isOne]) (by rw [hfl]; simp; omega) a31 b31 e32 fun a' m' c' r' h33 R' E3 => ⟨a', m', c', rfl, Fin.of ⟨l.length - (j + 1), by omega, j + 1, r', by omega, hw, rfl, ?_, E3.take 1⟩⟩
      rw [hof, if_pos he, List.flatMap_append]
      exact R'
    · rw [hof, if_neg hne, List.append_nil]; exact R
  · have : j = l.length := by omega
    subst this
    rw [List.take_length] at R
    exact hQ _ _ _ r h12 R E
theorem undo16_wp {Q : Option Addr → Nat → Nat → Heap → Prop} (hr : Reads B h a 3 ActR.cells l) (hl : l.length ≤ 10000) (hQ : ∀ a' m' c' r' h', Row r' (.slice a' m' c') TY.countermandref16_Act 3 ((undoA l).flatMap ActR.cells) → Keep B h [r'] h' → Q a' m' c' h') : C_countermandref16_Undo B a l.length c h Q := by
  refine C_countermandref16_Undo.of ?_
  unfold S_countermandref16_Undo
  refine of16_wp hr (by omega) fun a8 n9 c10 r8 h7 R8 E8 => ?_
  have hol := ofA_len l 3
  have hud : undoA l = ((ofA l 3).reverse).map ud3 := rfl
  generalize ofA l 3 = o at R8 hol hud
  obtain ⟨rfl, hrd⟩ := Row.rd (B := B) R8 ActR_len (by omega)
  refine ⟨fun a' n' c' i m h' => ∃ (j : Nat) (r : Option (Nat × AObj)), j ≤ o.length ∧ i = j ∧ m = o.length - j ∧ Row r (.slice a' n' c') TY.countermandref16_Act 3 ((((o.take j).reverse).map ud3).flatMap ActR.cells) ∧ Keep B h [r8, r] h', o.length, Fin.of ⟨0, none, by omega, rfl, by omega, Row.nil _ _, E8.gap⟩, ?_⟩
  rintro a11 n12 c13 _ _ h15 ⟨j, r, hj, rfl, rfl, R, E⟩
  refine ⟨fun hlt => ?_, fun _ => Fin.of ?_⟩
  · have hj' : j < o.length := by omega
    have hw : IntKind.wrap .i64 ((j : Int) + 1) = ((j + 1 : Nat) : Int) := by rw [w64 (by omega) (by omega)]; omega
    have hx := List.getElem?_eq_getElem hj'
    have htk := List.take_succ_eq_append_getElem hj'
    generalize o[j] = x at hx htk
    obtain ⟨A, e1, _, e4⟩ := hrd h15 (fun k o e => E.at 0 (by rw [← e]; rfl)) j x hx
    refine ⟨A, e1, by omega, hlt, x.kind, x.a, x.b, e4, fun k26 a26 b26 h27 e27 => ?_⟩
    have E1 := E.made a26 b26 e27
    refine ⟨_, stores_whole (E1.at 2 rfl) rfl (by simp) (by simp [isOne]) (by simp), ?_⟩
    have E2 := E1.put (o' := .vec TY.countermandref16_Act (plains x.cells) 3) 2 rfl
    refine ⟨_, E2.cell 2 rfl rfl, _, E2.cell 2 rfl rfl, fun k31 a31 b31 h32 e32 => ?_⟩
    have E3 : Keep B h [r8, r, some (k26, .vec TY.countermandref16_Act (plains x.cells) 3), some (k31, .vec TY.countermandref16_Act (plains ((ud3 x).cells ++ [])) 3)] h32 := E2.made a31 b31 e32
    have R1 : Row (some (k31, AObj.vec TY.countermandref16_Act (plains ((ud3 x).cells ++ [])) 3)) (.slice (some ⟨k31, 0, none⟩) 1 1) TY.countermandref16_Act 3 (ud3 x).cells := .inr ⟨k31, 1, 1, 3, [], rfl, rfl, rfl, Nat.le_refl _, Nat.le_refl _⟩
    have hsrc := Row.src (B := B) (h := h32) R (fun k o e => E3.at 1 (by rw [← e]; rfl)) ActR_len (by omega) ActR_one
    have hfl := flatMap_length ActR_len (((o.take j).reverse).map ud3)
    rw [List.length_map, List.length_reverse, List.length_take] at hfl
    refine E3.pushS 3 rfl R1 TK.slc_acts TK.zero_act rfl (by omega) (by omega) TK.sl_acts hsrc (by rw [hfl, ActR_len]; omega) fun a' m' c' r' h33 R' E4 => ⟨a', m', c', rfl, Fin.of ⟨o.length - (j + 1), by omega, j + 1, r', by omega, hw, rfl, ?_, E4.picks [0, 3] (by decide)⟩⟩
    rw [htk, List.reverse_append, List.map_append, List.flatMap_append]
    exact R'
  · have : j = o.length := by omega
    subst this
    rw [List.take_length, ← hud] at R
    exact hQ _ _ _ r h15 R (E.pick 1 rfl)
theorem first16_wp {i4 i5 i6 i7 : Int} {Q : Option Addr → Nat → Nat → Option Addr → Nat → Nat → Heap → Prop} (hr : Reads B h a 3 ActR.cells l) (hl : l.length ≤ 10000) (hg : GoodK l)
    (hQ : ∀ a1 m1 c1 r1 a2 m2 c2 r2 s g h', SplA (mk4 i4 i5 i6 i7) l s g → Row r1 (.slice a1 m1 c1) TY.countermandref16_Act 3 (s.flatMap ActR.cells) → Row r2 (.slice a2 m2 c2) TY.countermandref16_Act 3 (g.flatMap ActR.cells) → Keep B h [r1, r2] h' → Q a1 m1 c1 a2 m2 c2 h') : C_countermandref16_First B a l.length c i4 i5 i6 i7 h Q := by
  refine C_countermandref16_First.of ?_
  unfold S_countermandref16_First
  intro k14 a14 b14 h15 e15 k16 a16 b16 h17 e17
  let cn : List ActR → Nat → Nat → List (Option (Nat × AObj)) := fun z k14 k16 => [some (k14, .vec TY.a_4_int (plains [.int .i64 i4, .int .i64 i5, .int .i64 i6, .int .i64 i7]) 4), some (k16, .vec TY.a_4_int (plains [.int .i64 ((ofA z 0).length : Nat), .int .i64 ((ofA z 1).length : Nat), .int .i64 ((ofA z 2).length : Nat), .int .i64 ((ofA z 3).length : Nat)]) 4)]
  have E0 : Keep B h (cn [] k14 k16 ++ [none, none]) h17 := (((Keep.nil B h).made a14 b14 e15).made a16 b16 e17).gap.gap
  refine ⟨fun a1 m1 c1 a2 m2 c2 i m h' => ∃ (j : Nat) (r1 r2 : Option (Nat × AObj)) (s g : List ActR), j ≤ l.length ∧ i = j ∧ m = l.length - j ∧ SplA (mk4 i4 i5 i6 i7) (l.take j) s g ∧ Row r1 (.slice a1 m1 c1) TY.countermandref16_Act 3 (s.flatMap ActR.cells) ∧ Row r2 (.slice a2 m2 c2) TY.countermandref16_Act 3 (g.flatMap ActR.cells) ∧ Keep B h (cn (l.take j) k14 k16 ++ [r1, r2]) h', l.length, Fin.of ⟨0, none, none, [], [], by omega, rfl, by omega, SplA.nil _, Row.nil _ _, Row.nil _ _, E0⟩, ?_⟩
  clear E0
  rintro a18 n19 c20 a21 n22 c23 _ _ h25 ⟨j, r1, r2, s, g, hj, rfl, rfl, S, R1, R2, E⟩
  refine ⟨fun hlt => ?_, fun _ => Fin.of ?_⟩
  · have hj' : j < l.length := by omega
    have hw : IntKind.wrap .i64 ((j : Int) + 1) = ((j + 1 : Nat) : Int) := by rw [w64 (by omega) (by omega)]; omega
    have hx := List.getElem?_eq_getElem hj'
    have htk := List.take_succ_eq_append_getElem hj'
    have hgx := hg l[j] (List.getElem_mem hj')
    generalize l[j] = x at hx htk hgx
    have hof := fun k => ofA_take hx k
    have hol := fun k => ofA_len (l.take j) k
    have hls := S.ls
    have hlg := S.lg
    rw [List.length_take] at hls hlg
    simp only [List.length_take] at hol
    obtain ⟨A, e1, _, e4⟩ := (hr.over E.le E.nw) j x hx
    refine ⟨A, e1, by omega, hlt, x.kind, x.a, x.b, e4, fun k36 a36 b36 h37 e37 => ?_⟩
    have E1 := E.made a36 b36 e37
    refine ⟨_, stores_whole (E1.at 4 rfl) rfl (by simp) (by simp [isOne]) (by simp), ?_⟩
    have E2 := E1.put (o' := .vec TY.countermandref16_Act (plains x.cells) 3) 4 rfl
    have E2 : Keep B h (cn (l.take j) k14 k16 ++ [r1, r2, some (k36, .vec TY.countermandref16_Act (plains x.cells) 3)]) _ := E2
    obtain ⟨kn, hkn⟩ : ∃ kn : Nat, x.kind = kn := ⟨x.kind.toNat, by omega⟩
    have hkn4 : kn < 4 := by omega
    have cnt : ∀ (z : List ActR), (plains [Value.int .i64 ((ofA z 0).length : Nat), .int .i64 ((ofA z 1).length : Nat), .int .i64 ((ofA z 2).length : Nat), .int .i64 ((ofA z 3).length : Nat)])[kn]? = some (.plain (.int .i64 ((ofA z (kn : Nat)).length : Nat))) := fun z => by
      have hk : kn = 0 ∨ kn = 1 ∨ kn = 2 ∨ kn = 3 := by omega
      rcases hk with rfl | rfl | rfl | rfl <;> rfl
    have mrk : (plains [Value.int .i64 i4, .int .i64 i5, .int .i64 i6, .int .i64 i7])[kn]? = some (.plain (.int .i64 (mk4 i4 i5 i6 i7 (kn : Nat)))) := by
      have hk : kn = 0 ∨ kn = 1 ∨ kn = 2 ∨ kn = 3 := by omega
      rcases hk with rfl | rfl | rfl | rfl <;> rfl
    -- one more is counted
    have cntUp : ∀ {r1' r2' : Option (Nat × AObj)} {h2 : Heap}, Keep B h (cn (l.take j) k14 k16 ++ [r1', r2', some (k36, .vec TY.countermandref16_Act (plains x.cells) 3)]) h2 → ∃ i47 : Int, cellH B h2 ⟨k36, 0, none⟩ = some (Value.int .i64 (i47)) ∧ 0 ≤ (i47 : Int) ∧ (i47 : Int) < (4 : Nat) ∧ ∃ i48 : Int, cellH B h2 (Addr.add ⟨k16, 0, none⟩ (Int.toNat (i47) * 1)) = some (Value.int .i64 (i48)) ∧ 0 ≤ (i47 : Int) ∧ (i47 : Int) < (4 : Nat) ∧ ∃ h49 : Heap, storeH h2 (Addr.add ⟨k16, 0, none⟩ (Int.toNat (i47) * 1)) (Value.int .i64 (IntKind.wrap .i64 ((i48) + (1)))) = some h49 ∧ Keep B h (cn (l.take (j + 1)) k14 k16 ++ [r1', r2']) h49 := fun {r1' r2' h2} E3 => by
      refine ⟨(kn : Nat), by rw [← hkn]; exact E3.cell 4 rfl rfl, by omega, by omega, ?_⟩
      rw [Int.toNat_natCast, Nat.mul_one, addr_more, Nat.zero_add]
      have hc := ofA_len (l.take j) (kn : Nat)
      rw [List.length_take] at hc
      refine ⟨_, E3.cell 1 rfl (cnt _), by omega, by omega, ?_⟩
      obtain ⟨es, E4⟩ := E3.store 1 kn (.int .i64 (IntKind.wrap .i64 ((((ofA (l.take j) (kn : Nat)).length : Nat) : Int) + 1))) rfl (cnt _)
      have e5 : (plains [Value.int .i64 ((ofA (l.take j) 0).length : Nat), .int .i64 ((ofA (l.take j) 1).length : Nat), .int .i64 ((ofA (l.take j) 2).length : Nat), .int .i64 ((ofA (l.take j) 3).length : Nat)]).set kn (.plain (.int .i64 (IntKind.wrap .i64 ((((ofA (l.take j) (kn : Nat)).length : Nat) : Int) + 1)))) = plains [Value.int .i64 ((ofA (l.take (j + 1)) 0).length : Nat), .int .i64 ((ofA (l.take (j + 1)) 1).length : Nat), .int .i64 ((ofA (l.take (j + 1)) 2).length : Nat), .int .i64 ((ofA (l.take (j + 1)) 3).length : Nat)] := by
        rw [hof 0, hof 1, hof 2, hof 3, hkn, w64 (by omega) (by omega)]
        have hk : kn = 0 ∨ kn = 1 ∨ kn = 2 ∨ kn = 3 := by omega
        rcases hk with rfl | rfl | rfl | rfl <;> simp [plains]
      rw [e5] at es E4
      exact ⟨_, es, E4.take 4⟩
    refine ⟨(kn : Nat), by rw [← hkn]; exact E2.cell 4 rfl rfl, by omega, by omega, ?_⟩
    rw [Int.toNat_natCast, Nat.mul_one, addr_more, Nat.zero_add]
    refine ⟨_, E2.cell 1 rfl (cnt _), (kn : Nat), by rw [← hkn]; exact E2.cell 4 rfl rfl, by omega, by omega, ?_⟩
    rw [Int.toNat_natCast, Nat.mul_one, addr_more, Nat.zero_add]
    refine ⟨_, E2.cell 0 rfl mrk, fun hlt2 => ⟨_, _, _, ⟨E2.cell 4 rfl rfl, E2.cell 4 rfl rfl, E2.cell 4 rfl rfl, trivial⟩, fun k58 a58 b58 h59 e59 => ?_⟩, fun hge => ⟨_, _, _, ⟨E2.cell 4 rfl rfl, E2.cell 4 rfl rfl, E2.cell 4 rfl rfl, trivial⟩, fun k58 a58 b58 h59 e59 => ?_⟩⟩
    · have hfl := flatMap_length ActR_len s
      refine E2.push1 2 rfl R1 TK.slc_acts TK.zero_act rfl (by omega) (by omega) TK.sl_acts rfl (by simp [isOne]) (by rw [hfl]; simp; omega) a58 b58 e59 fun a' m' c' r' h60 R' E3 => ⟨a', m', c', rfl, Fin.of ?_⟩
      unfold S_countermandref16_First_J1
      obtain ⟨i47, q1, q2, q3, i48, q4, q5, q6, h49, q7, E4⟩ := cntUp (E3.take 5)
      refine ⟨i47, q1, q2, q3, i48, q4, q5, q6, h49, q7, Fin.of ⟨l.length - (j + 1), by omega, j + 1, r', r2, s ++ [x], g, by omega, hw, rfl, ?_, ?_, R2, E4⟩⟩
      · rw [htk]; exact S.stay (by rw [hkn]; exact hlt2)
      · rw [List.flatMap_append]; exact R'
    · have hfl := flatMap_length ActR_len g
      refine E2.push1 3 rfl R2 TK.slc_acts TK.zero_act rfl (by omega) (by omega) TK.sl_acts rfl (by simp [isOne]) (by rw [hfl]; simp; omega) a58 b58 e59 fun a' m' c' r' h60 R' E3 => ⟨a', m', c', rfl, Fin.of ?_⟩
      unfold S_countermandref16_First_J1
      obtain ⟨i47, q1, q2, q3, i48, q4, q5, q6, h49, q7, E4⟩ := cntUp (E3.take 5)
      refine ⟨i47, q1, q2, q3, i48, q4, q5, q6, h49, q7, Fin.of ⟨l.length - (j + 1), by omega, j + 1, r1, r', s, g ++ [x], by omega, hw, rfl, ?_, R1, ?_, E4⟩⟩
      · rw [htk]; exact S.go (by rw [hkn]; exact hge)
      · rw [List.flatMap_append]; exact R'
  · have : j = l.length := by omega
    subst this
    rw [List.take_length] at S
    exact hQ _ _ _ r1 _ _ _ r2 s g h25 S R1 R2 (E.picks [2, 3] (by decide))
theorem count16_wp {Q : Int → Int → Int → Int → Heap → Prop} (hr : Reads B h a 3 ActR.cells l) (hl : l.length ≤ 10000) (hg : GoodK l)
    (hQ : Q ((ofA l 0).length : Nat) ((ofA l 1).length : Nat) ((ofA l 2).length : Nat) ((ofA l 3).length : Nat) h) : C_countermandref16_Count B a l.length c h Q := by
  refine C_countermandref16_Count.of ?_
  unfold S_countermandref16_Count
  intro k8 a8 b8 h9 e9 k10 a10 b10 h11 e11
  let cn : List ActR → Nat → Nat → List (Option (Nat × AObj)) := fun z k8 k10 => [some (k8, .vec TY.a_4_int (plains [.int .i64 0, .int .i64 0, .int .i64 0, .int .i64 0]) 4), some (k10, .vec TY.a_4_int (plains [.int .i64 ((ofA z 0).length : Nat), .int .i64 ((ofA z 1).length : Nat), .int .i64 ((ofA z 2).length : Nat), .int .i64 ((ofA z 3).length : Nat)]) 4)]
  have E0 : Keep B h (cn [] k8 k10) h11 := ((Keep.nil B h).made a8 b8 e9).made a10 b10 e11
  refine ⟨fun i m h' => ∃ j : Nat, j ≤ l.length ∧ i = j ∧ m = l.length - j ∧ Keep B h (cn (l.take j) k8 k10) h', l.length, Fin.of ⟨0, by omega, rfl, by omega, E0⟩, ?_⟩
  clear E0
  rintro _ _ h13 ⟨j, hj, rfl, rfl, E⟩
  refine ⟨fun hlt => ?_, fun _ => ?_⟩
  · have hj' : j < l.length := by omega
    have hw : IntKind.wrap .i64 ((j : Int) + 1) = ((j + 1 : Nat) : Int) := by rw [w64 (by omega) (by omega)]; omega
    have hx := List.getElem?_eq_getElem hj'
    have hgx := hg l[j] (List.getElem_mem hj')
    generalize l[j] = x at hx hgx
    have hof := fun k => ofA_take hx k
    obtain ⟨A, e1, _, e4⟩ := (hr.over E.le E.nw) j x hx
    refine ⟨A, e1, by omega, hlt, x.kind, x.a, x.b, e4, fun k24 a24 b24 h25 e25 => ?_⟩
    have E1 := E.made a24 b24 e25
    refine ⟨_, stores_whole (E1.at 2 rfl) rfl (by simp) (by simp [isOne]) (by simp), ?_⟩
    have E2 := E1.put (o' := .vec TY.countermandref16_Act (plains x.cells) 3) 2 rfl
    obtain ⟨kn, hkn⟩ : ∃ kn : Nat, x.kind = kn := ⟨x.kind.toNat, by omega⟩
    have hkn4 : kn < 4 := by omega
    have cnt : ∀ (z : List ActR), (plains [Value.int .i64 ((ofA z 0).length : Nat), .int .i64 ((ofA z 1).length : Nat), .int .i64 ((ofA z 2).length : Nat), .int .i64 ((ofA z 3).length : Nat)])[kn]? = some (.plain (.int .i64 ((ofA z (kn : Nat)).length : Nat))) := fun z => by
      have hk : kn = 0 ∨ kn = 1 ∨ kn = 2 ∨ kn = 3 := by omega
      rcases hk with rfl | rfl | rfl | rfl <;> rfl
    refine ⟨(kn : Nat), by rw [← hkn]; exact E2.cell 2 rfl rfl, by omega, by omega, ?_⟩
    rw [Int.toNat_natCast, Nat.mul_one, addr_more, Nat.zero_add]
    have hc := ofA_len (l.take j) (kn : Nat)
    rw [List.length_take] at hc
    refine ⟨_, E2.cell 1 rfl (cnt _), by omega, by omega, ?_⟩
    obtain ⟨es, E4⟩ := E2.store 1 kn (.int .i64 (IntKind.wrap .i64 ((((ofA (l.take j) (kn : Nat)).length : Nat) : Int) + 1))) rfl (cnt _)
    have e5 : (plains [Value.int .i64 ((ofA (l.take j) 0).length : Nat), .int .i64 ((ofA (l.take j) 1).length : Nat), .int .i64 ((ofA (l.take j) 2).length : Nat), .int .i64 ((ofA (l.take j) 3).length : Nat)]).set kn (.plain (.int .i64 (IntKind.wrap .i64 ((((ofA (l.take j) (kn : Nat)).length : Nat) : Int) + 1)))) = plains [Value.int .i64 ((ofA (l.take (j + 1)) 0).length : Nat), .int .i64 ((ofA (l.take (j + 1)) 1).length : Nat), .int .i64 ((ofA (l.take (j + 1)) 2).length : Nat), .int .i64 ((ofA (l.take (j + 1)) 3).length : Nat)] := by
      rw [hof 0, hof 1, hof 2, hof 3, hkn, w64 (by omega) (by omega)]
      have hk : kn = 0 ∨ kn = 1 ∨ kn = 2 ∨ kn = 3 := by omega
      rcases hk with rfl | rfl | rfl | rfl <;> simp [plains]
    rw [e5] at es E4
    exact ⟨_, es, Fin.of ⟨l.length - (j + 1), by omega, j + 1, by omega, hw, rfl, E4.take 2⟩⟩
  · have : j = l.length := by omega
    subst this
    rw [List.take_length] at E
    refine ⟨_, _, _, _, ⟨E.cell 1 rfl rfl, E.cell 1 rfl rfl, E.cell 1 rfl rfl, E.cell 1 rfl rfl, trivial⟩, _, stores_whole (E.at 0 rfl) rfl (by simp) (by simp [isOne]) (by simp), ?_⟩
    have E2 := E.put (o' := .vec TY.a_4_int (plains [.int .i64 ((ofA l 0).length : Nat), .int .i64 ((ofA l 1).length : Nat), .int .i64 ((ofA l 2).length : Nat), .int .i64 ((ofA l 3).length : Nat)]) 4) 0 rfl
    exact ⟨_, _, _, _, ⟨E2.cell 0 rfl rfl, E2.cell 0 rfl rfl, E2.cell 0 rfl rfl, E2.cell 0 rfl rfl, trivial⟩, Fin.ent E2.back (Fin.of hQ)⟩
theorem outs16_wp {n1 n2 : Nat} (hr : Reads B h a 2 OutC lo) (hr4 : Reads B h a4 3 ActR.cells la) (e : la.map outP = lo) (h1 : n1 = lo.length) (h2 : n2 = la.length) (hl : la.length ≤ 100000) (hQ : Q true h) : C_countermandlaw16_outs B a n1 c a4 n2 c6 h Q := by
  subst h1 h2
  refine C_countermandlaw16_outs.of ?_
  unfold S_countermandlaw16_outs
  have hll : lo.length = la.length := by rw [← e, List.length_map]
  refine ⟨fun _ => ?_, fun hn => absurd (by rw [hll]) hn⟩
  refine ⟨fun i m h' => ∃ j : Nat, j ≤ lo.length ∧ i = j ∧ m = lo.length - j ∧ Keep B h [] h', lo.length, Fin.of ⟨0, by omega, rfl, by omega, Keep.nil B h⟩, ?_⟩
  rintro _ _ h10 ⟨j, hj, rfl, rfl, E⟩
  refine ⟨fun hlt => ?_, fun _ => Fin.ent E.back (Fin.of hQ)⟩
  have hj' : j < la.length := by omega
  have hw : IntKind.wrap .i64 ((j : Int) + 1) = ((j + 1 : Nat) : Int) := by rw [w64 (by omega) (by omega)]; omega
  have hx := List.getElem?_eq_getElem hj'
  generalize la[j] = x at hx
  have hy : lo[j]? = some (outP x) := by rw [← e, List.getElem?_map, hx]; rfl
  obtain ⟨A, e1, _, e4⟩ := (hr.over E.le E.nw) j _ hy
  refine ⟨A, e1, by omega, hlt, _, _, e4, fun k20 a20 b20 h21 e21 => ?_⟩
  have E1 := E.made a20 b20 e21
  refine ⟨_, stores_whole (E1.at 0 rfl) rfl (by simp) (by simp [isOne]) (by simp), ?_⟩
  have E2 := E1.put (o' := .vec TY.acts_Out (plains (OutC (outP x))) 2) 0 rfl
  obtain ⟨A', e1', _, q1, q2, q3, _⟩ := (hr4.over E2.le E2.nw) j x hx
  exact ⟨_, E2.cell 0 rfl rfl, A', e1', by omega, by omega, x.a, q2, fun _ => ⟨_, E2.cell 0 rfl rfl, A', e1', by omega, by omega, x.b, q3, fun _ => Fin.of ⟨lo.length - (j + 1), by omega, j + 1, by omega, hw, rfl, E2.take 0⟩, fun hn => absurd rfl hn⟩, fun hn => absurd rfl hn⟩
theorem opens16_wp {n1 n2 : Nat} (hr : Reads B h a 2 OpenC lo) (hr4 : Reads B h a4 3 ActR.cells la) (e : la.map openP = lo) (h1 : n1 = lo.length) (h2 : n2 = la.length) (hl : la.length ≤ 100000) (hQ : Q true h) : C_countermandlaw16_opens B a n1 c a4 n2 c6 h Q := by
  subst h1 h2
  refine C_countermandlaw16_opens.of ?_
  unfold S_countermandlaw16_opens
  have hll : lo.length = la.length := by rw [← e, List.length_map]
  refine ⟨fun _ => ?_, fun hn => absurd (by rw [hll]) hn⟩
  refine ⟨fun i m h' => ∃ j : Nat, j ≤ lo.length ∧ i = j ∧ m = lo.length - j ∧ Keep B h [] h', lo.length, Fin.of ⟨0, by omega, rfl, by omega, Keep.nil B h⟩, ?_⟩
  rintro _ _ h10 ⟨j, hj, rfl, rfl, E⟩
  refine ⟨fun hlt => ?_, fun _ => Fin.ent E.back (Fin.of hQ)⟩
  have hj' : j < la.length := by omega
  have hw : IntKind.wrap .i64 ((j : Int) + 1) = ((j + 1 : Nat) : Int) := by rw [w64 (by omega) (by omega)]; omega
  have hx := List.getElem?_eq_getElem hj'
  generalize la[j] = x at hx
  have hy : lo[j]? = some (openP x) := by rw [← e, List.getElem?_map, hx]; rfl
  obtain ⟨A, e1, _, e4⟩ := (hr.over E.le E.nw) j _ hy
  refine ⟨A, e1, by omega, hlt, _, _, e4, fun k20 a20 b20 h21 e21 => ?_⟩
  have E1 := E.made a20 b20 e21
  refine ⟨_, stores_whole (E1.at 0 rfl) rfl (by simp) (by simp [isOne]) (by simp), ?_⟩
  have E2 := E1.put (o' := .vec TY.acts_Open (plains (OpenC (openP x))) 2) 0 rfl
  obtain ⟨A', e1', _, q1, q2, q3, _⟩ := (hr4.over E2.le E2.nw) j x hx
  exact ⟨_, E2.cell 0 rfl rfl, A', e1', by omega, by omega, x.a, q2, fun _ => ⟨_, E2.cell 0 rfl rfl, A', e1', by omega, by omega, x.b, q3, fun _ => Fin.of ⟨lo.length - (j + 1), by omega, j + 1, by omega, hw, rfl, E2.take 0⟩, fun hn => absurd rfl hn⟩, fun hn => absurd rfl hn⟩
end
end Go.Proofs.Ythloobpjkeodgaa.H
