/- What the law's proof stands on, part 6. No condition. -/
import Derived.Test.YtlehephbflgblaaGreatG5
namespace Go.Proofs.YtlehephbflgblaaGreat.H
open Go Go.RowKit
set_option linter.unusedVariables false
set_option maxRecDepth 100000
def fBO (z : FL) : AObj := .vec TY.a_6_countermandref09_File (plains (filesC z)) 12
theorem fBO_cells {h : Heap} {B : RO} {k : Nat} {z : FL} (g : h k = some (fBO z)) : CellsAt B h ⟨k, 0, none⟩ 0 (filesC z) := CellsAt.of_vec _ 0 g fun j y hj => by rw [show 0 + 0 + j = j by omega]; exact plains_get_some hj
theorem fBO_store {h : Heap} {k : Nat} {z w : FL} (g : h k = some (fBO z)) (h6 : z.length = 6) (w6 : w.length = 6) : ∃ h', StoresAt ⟨k, 0, none⟩ h 0 (filesC w) h' ∧ h' = h.set k (fBO w) :=
  ⟨_, stores_whole (us := filesC z) g (by rw [filesC_len, filesC_len, h6, w6]) (by rw [filesC_len]; omega) (filesC_one w) (fun e => by have := congrArg List.length e; rw [filesC_len] at this; simp at this; omega), rfl⟩
theorem f12 {z : FL} (h6 : z.length = 6) : (filesC z).length = 12 := by rw [filesC_len]; omega
theorem apCs6 {ver : Int} {z : FL} (h6 : z.length = 6) (xs : DFL) : (apCs ver z xs).length = 6 := by rw [apCs_len]; exact h6
section
variable {B : RO} {h0 h h' : Heap} {L M : List (Option (Nat × AObj))} {k6 k14 : Nat} {z : FL} {b1 b2 : List UInt8} {a : Option Addr} {c : Nat} {ls : List (List UInt8)} {r : Option (Nat × AObj)}
end
end Go.Proofs.YtlehephbflgblaaGreat.H
namespace Go.Proofs.YtlehephbflgblaaGreat.H
open Go Go.RowKit
set_option linter.unusedVariables false
set_option maxRecDepth 100000
theorem loadsL_mem : ∀ (ts : List (List UInt8)) (l : List UInt8), l ∈ loadsL ts → (1 :: l) ∈ ts
  | [], l, h => by cases h
  | [] :: t, l, h => by rw [loadsL_nil] at h; cases h
  | (b :: r) :: t, l, h => by
    by_cases hb : b = 1
    · subst hb
      rw [loadsL_yes] at h
      rcases List.mem_cons.1 h with rfl | h
      · simp
      · simp [loadsL_mem t l h]
    · rw [loadsL_no hb] at h; cases h
theorem told_small (b : List UInt8) : (toldL b).ls.length ≤ b.length ∧ (∀ l ∈ (toldL b).ls, l.length ≤ 1024) ∧ (toldL b).im.length ≤ 1024 := by
  have hs := (allL_spec b).1
  have hl := allL_small b
  unfold toldL
  cases hb : allL b with
  | nil => rw [toldR_nil]; exact ⟨by simp, fun l h => (by cases h), by simp⟩
  | cons x t =>
    rw [hb] at hs hl
    cases hf : firstL x with
    | none => rw [toldR_none hf]; exact ⟨by simp, fun l h => (by cases h), by simp⟩
    | some p =>
      obtain ⟨n, r⟩ := p
      rw [toldR_some hf]
      have h1 := firstL_le hf
      have h2 := hs x (by simp)
      have h3 := loadsL_len t
      refine ⟨by simp only [List.length_cons] at hl ⊢; omega, fun l hl => ?_, by simp only; omega⟩
      have := hs _ (List.mem_cons_of_mem _ (loadsL_mem t l hl))
      rw [List.length_cons] at this; omega
theorem found_small (a b : List UInt8) : (foundL a b).ls.length ≤ a.length + b.length ∧ (∀ l ∈ (foundL a b).ls, l.length ≤ 1024) ∧ (foundL a b).im.length ≤ 1024 ∧ (foundL a b).e ≤ 1099511627776 := by
  unfold foundL
  have h1 := told_small a
  have h2 := told_small b
  have h3 := toldR_le (allL a)
  have h4 := toldR_le (allL b)
  split
  · exact ⟨by omega, h2.2.1, h2.2.2, h4⟩
  · exact ⟨by omega, h1.2.1, h1.2.2, h3⟩
theorem fOf_small {cs : List Chg} (ok : DOk cs) : (fOf cs).ls.length ≤ 1000000 := by
  have h := (found_small (bl (textD 0 cs)) (bl (textD 1 cs))).1
  have h1 := ok.size 0
  have h2 := ok.size 1
  rw [bl_length, bl_length] at h
  unfold fOf; omega
section
variable {B : RO} {h0 h h' : Heap} {L M : List (Option (Nat × AObj))} {I : WI} {S : WS} {i j : Int} {Q : Bool → Heap → Prop} {kD : Nat} {s1 s2 : ByteArray}
theorem fOf_at {ds : List Chg} {T : TDL} {ar : Int} (ha : ar = 0 ∨ ar = 1) (h1 : toldL (bl (textD ar ds)) = T) (h0 : bl (textD (1 - ar) ds) = []) (he : 0 < T.e) : fOf ds = T ∧ aOf ds = ar := by
  unfold fOf aOf foundL areaL
  rcases ha with rfl | rfl
  · rw [show (1 : Int) - 0 = 1 from rfl] at h0
    rw [h0, h1, toldL_nil, if_neg (Nat.not_lt_zero _), if_neg (Nat.not_lt_zero _)]; exact ⟨rfl, rfl⟩
  · rw [show (1 : Int) - 1 = 0 from rfl] at h0
    rw [h0, h1, toldL_nil, if_pos he, if_pos he]; exact ⟨rfl, rfl⟩
theorem VLT.found {S : WS} (T : VLT S) : fOf S.cs = ⟨S.e, S.im, S.ls⟩ ∧ aOf S.cs = S.ar := by
  have e1 := T.e1
  have h1 : toldL (bl (textD S.ar S.cs)) = ⟨S.e, S.im, S.ls⟩ := by rw [T.tx]; exact told_rows (by omega) T.e2 T.il T.ll
  exact fOf_at T.ar h1 T.ot (by show 0 < S.e; omega)
theorem openF_image {z : FL} {n : Int} {e : Nat} (k : TomeOk z) (hn : 0 ≤ n ∧ n ≤ 1099511627776) : openF ⟨e, natI n ++ tomeB z, []⟩ = some (unver z, n) := by
  have hne : natI n ++ tomeB z ≠ [] := fun h => by
    have := congrArg List.length h
    have hp := natB_pos n.toNat
    rw [List.length_append] at this
    unfold natI at this; rw [if_neg (by omega)] at this
    simp only [List.length_nil] at this
    omega
  have h1 : natT 1099511627776 (natI n ++ tomeB z) = some (n.toNat, tomeB z) := by
    unfold natI; rw [if_neg (by omega)]
    exact natT_ok (by omega) (by omega) _
  have hr : readW (TDL.mk e (natI n ++ tomeB z) []).im = some (unver z, n.toNat) := by
    show readW (natI n ++ tomeB z) = _
    rw [readW_1 hne h1, readG_tome k]; rfl
  rw [openF_2 hr (by simp [goods])]
  have : (if lastOf (goods (([] : List (List UInt8)).map ba)) > ((n.toNat : Nat) : Int) then lastOf (goods (([] : List (List UInt8)).map ba)) else ((n.toNat : Nat) : Int)) = n := by
    rw [show lastOf (goods (([] : List (List UInt8)).map ba)) = 0 by simp [goods, lastOf], if_neg (by omega)]; omega
  simp only [this]
  simp [goods, chsOf, apCs]
end
end Go.Proofs.YtlehephbflgblaaGreat.H
namespace Go.Proofs.YtlehephbflgblaaGreat.H
open Go Go.RowKit
set_option linter.unusedVariables false
set_option maxRecDepth 100000
def F1 (l : FL) : List FileS := l.map Prod.fst
theorem filesC_F1 (l : FL) : filesC l = (F1 l).flatMap fun f => [.bool f.1, .string f.2] := by unfold filesC F1; rw [List.flatMap_map]; rfl
theorem F1_filesC {l l' : FL} (h : F1 l = F1 l') : filesC l = filesC l' := by rw [filesC_F1, filesC_F1, h]
theorem F1_unver (l : FL) : F1 (unver l) = F1 l := by unfold F1 unver; rw [List.map_map]; rfl
theorem F1_apCs {v v' : Int} : ∀ (xs : DFL) {l l' : FL}, F1 l = F1 l' → F1 (apCs v l xs) = F1 (apCs v' l' xs) := by
  intro xs
  induction xs with
  | nil => intro l l' h; exact h
  | cons x xs ih =>
    intro l l' h
    rw [apCs_cons, apCs_cons]
    refine ih ?_
    unfold apC F1 at *
    rw [List.map_set, List.map_set, h]
theorem goods_app : ∀ {ls : List ByteArray} {b : ByteArray} {p : Nat × DFL}, (goods ls).length = ls.length → loadOf (bl b) = some p → goods (ls ++ [b]) = goods ls ++ [p]
  | [], b, p, _, h => by rw [List.nil_append, goods_some h]; simp [goods]
  | c :: t, b, p, hl, h => by
    cases hc : loadOf (bl c) with
    | none => rw [goods_none hc] at hl; simp at hl
    | some q =>
      rw [goods_some hc] at hl ⊢
      rw [List.cons_append, goods_some hc, goods_app (by simpa using hl) h]; rfl
theorem lastOf_app (l : List (Nat × DFL)) (p : Nat × DFL) : lastOf (l ++ [p]) = if ((p.1 : Nat) : Int) > lastOf l then ((p.1 : Nat) : Int) else lastOf l := by unfold lastOf; rw [List.foldl_append]; rfl
theorem chsOf_app (l : List (Nat × DFL)) (p : Nat × DFL) : chsOf (l ++ [p]) = chsOf l ++ p.2 := by unfold chsOf; rw [List.flatMap_append]; simp
def RecW (e : Nat) (im : List UInt8) (ls : List (List UInt8)) (z : FL) (n : Int) : Prop := ∃ zz, openF ⟨e, im, ls⟩ = some (zz, n) ∧ F1 zz = F1 z
theorem RecW.app {e : Nat} {im : List UInt8} {ls : List (List UInt8)} {z : FL} {n : Int} {xs : DFL} (R : RecW e im ls z n) (h0 : 0 ≤ n) (hn : n < 1099511627776) (s : SortD xs) (g : ∀ x ∈ xs, GoodC x) : RecW e im (ls ++ [loadB (n + 1) xs]) (apCs 0 z xs) (n + 1) := by
  obtain ⟨zz, ho, hf⟩ := R
  cases hr : readW im with
  | none =>
    have h' : readW (TDL.mk e im ls).im = none := hr
    rw [openF_0 h'] at ho; cases ho
  | some p =>
    obtain ⟨z0, n0⟩ := p
    have h' : readW (TDL.mk e im ls).im = some (z0, n0) := hr
    have h2 : readW (TDL.mk e im (ls ++ [loadB (n + 1) xs])).im = some (z0, n0) := hr
    by_cases hl : (goods (ls.map ba)).length < ls.length
    · rw [openF_1 h' hl] at ho; cases ho
    · rw [openF_2 h' hl] at ho
      have hgl := goods_len (ls.map ba)
      rw [List.length_map] at hgl
      have hlo : loadOf (bl (ba (loadB (n + 1) xs))) = some ((n + 1).toNat, xs) := by
        rw [bl_ba]
        have e1 : n + 1 = (((n + 1).toNat : Nat) : Int) := by omega
        rw [e1, Int.toNat_natCast]
        exact loadOf_back (by omega) s g
      have hg : goods ((ls ++ [loadB (n + 1) xs]).map ba) = goods (ls.map ba) ++ [((n + 1).toNat, xs)] := by
        rw [List.map_append, List.map_cons, List.map_nil]
        exact goods_app (by rw [List.length_map]; omega) hlo
      simp only [Option.some.injEq, Prod.mk.injEq] at ho
      obtain ⟨ho1, ho2⟩ := ho
      refine ⟨apCs 0 zz xs, ?_, F1_apCs xs hf⟩
      have hge : ¬ (goods ((TDL.mk e im (ls ++ [loadB (n + 1) xs])).ls.map ba)).length < (TDL.mk e im (ls ++ [loadB (n + 1) xs])).ls.length := by
        show ¬ (goods ((ls ++ [loadB (n + 1) xs]).map ba)).length < (ls ++ [loadB (n + 1) xs]).length
        rw [hg, List.length_append, List.length_append]; simp; omega
      rw [openF_2 h2 hge]
      show some (apCs 0 z0 (chsOf (goods ((ls ++ [loadB (n + 1) xs]).map ba))), if lastOf (goods ((ls ++ [loadB (n + 1) xs]).map ba)) > n0 then lastOf (goods ((ls ++ [loadB (n + 1) xs]).map ba)) else n0) = _
      rw [hg, chsOf_app, apCs_app, lastOf_app, ho1]
      have : (if (if (((n + 1).toNat : Nat) : Int) > lastOf (goods (ls.map ba)) then (((n + 1).toNat : Nat) : Int) else lastOf (goods (ls.map ba))) > ((n0 : Nat) : Int) then (if (((n + 1).toNat : Nat) : Int) > lastOf (goods (ls.map ba)) then (((n + 1).toNat : Nat) : Int) else lastOf (goods (ls.map ba))) else ((n0 : Nat) : Int)) = n + 1 := by
        (repeat' split) <;> (split at ho2 <;> omega)
      simp only at this ⊢
      rw [this]
theorem RecW.image {e : Nat} {f z : FL} {n : Int} (k : TomeOk f) (hn : 0 ≤ n ∧ n ≤ 1099511627776) (hf : F1 f = F1 z) : RecW e (natI n ++ tomeB f) [] z n := ⟨unver f, openF_image k hn, (F1_unver f).trans hf⟩
theorem write_base {S : WS} {z : FL} {xs : DFL} (T : VLT S) (k : TomeOk S.v.f) (hf : F1 S.v.f = F1 z) (R : RecW S.e S.im S.ls z S.n) (h0 : S.f = 0) (hn : S.n < 1099511627776) (he : S.e < 1099511627776) (hk : S.k = S.cs.length) :
    ∃ S0, writeS S xs = (appS S0 (loadB (S.n + 1) xs), 0) ∧ VLT S0 ∧ S0.sz ≤ 2048 ∧ RecW S0.e S0.im S0.ls z S.n ∧ S0.k = S0.cs.length ∧ S0.e ≤ S.e + 1 ∧ S0.v = S.v := by
  have n0 := T.n0
  unfold writeS
  rw [if_neg (by omega), if_neg (by omega)]
  by_cases h1 : (S.sz : Int) > 2048
  · rw [if_pos h1, if_neg (by omega)]
    obtain ⟨T1, hs⟩ := T.settle (by omega) k he
    exact ⟨settleS S, rfl, T1, by omega, RecW.image k ⟨n0, by omega⟩ hf, rfl, Nat.le_refl _, rfl⟩
  · rw [if_neg h1]
    exact ⟨S, rfl, T, by omega, R, hk, by omega, rfl⟩
end Go.Proofs.YtlehephbflgblaaGreat.H
namespace Go.Proofs.YtlehephbflgblaaGreat.H
open Go Go.RowKit
set_option linter.unusedVariables false
set_option maxRecDepth 100000
section
variable {B : RO} {h0 h h' : Heap} {L : List (Option (Nat × AObj))} {r : Option (Nat × AObj)} {i k kT kR : Nat} {a a1 : Option Addr} {m c c1 : Nat} {v : Value} {xs list : DFL} {l z : FL} {s : ByteArray}
theorem drawn21_J1 {kd : Nat} {Q : Option Addr → Option Addr → Nat → Nat → Bool → Heap → Prop} (E : Keep B h0 [some (kd, drO_file_File v), r] h) (R : DRow_file_File r v xs) (hl : xs.length ≤ 100000)
    (hQ : ∀ a' c' r2 h', Row r2 (.slice a' xs.length c') TY.countermandref18_Change 3 (xs.flatMap entC_file_File) → Keep B h0 [some (kd, drO_file_File v), r, r2] h' → Q (some ⟨kd, 0, none⟩) a' xs.length c' true h') : S_countermandlaw21_drawn_J1 B kd h Q := by
  unfold S_countermandlaw21_drawn_J1
  intro k14 a14 b14 h15 e15
  have E1 : Keep B h0 [some (kd, drO_file_File v), r, some (k14, .vec TY.s_countermandref18_Change (plains [.slice none 0 0]) 1), none] h15 := (E.made a14 b14 e15).gap
  refine fdall_wp fun kc ac bc => ?_
  have E2 := E1.new (o := .vec TY.p_draft_Draft_file_File [.plain (.pointer (some ⟨kd, 0, none⟩))] 1) ac bc
  refine ⟨xs, fdG kc kd v r, fun q h' => ∃ (a : Option Addr) (c : Nat) (r2 : Option (Nat × AObj)), Row r2 (.slice a q c) TY.countermandref18_Change 3 ((xs.take q).flatMap entC_file_File) ∧ Keep B h0 [some (kd, drO_file_File v), r, some (k14, .vec TY.s_countermandref18_Change (plains [.slice a q c]) 1), r2, some (kc, .vec TY.p_draft_Draft_file_File [.plain (.pointer (some ⟨kd, 0, none⟩))] 1)] h', fdall_iter R (by omega), fdG_ins, ?_, Fin.of ⟨none, 0, none, Row.nil _ _, E2⟩, ?_, ?_⟩
  · rintro q h' ⟨a, c, r2, R2, E⟩
    exact ⟨E.at 4 rfl, E.at 0 rfl, fun k o e => E.at 1 (by rw [← e]; rfl)⟩
  · clear E E1 E2 e15
    rintro q h22 i18 b19 s20 hg ⟨a, c, r2, R2, E⟩
    intro k26 a26 b26 h27 e27
    have hq := (List.getElem?_eq_some_iff.1 hg).1
    have E1 := E.made a26 b26 e27
    refine ⟨_, stores_whole E1.last rfl (by simp) (by simp [isOne]) (by simp), ?_⟩
    have E2 := E1.putLast (.vec TY.file_File (plains [.bool b19, .string s20]) 2)
    refine .inl ⟨a, q, c, E2.cell 2 rfl rfl, b19, s20, ⟨cellH_vec E2.last rfl, cellH_vec E2.last rfl, trivial⟩, fun k35 a35 b35 h36 e36 => ?_⟩
    refine E2.push1 3 rfl R2 TK.slc_xch TK.zero_xch rfl (by omega) (by omega) TK.sl_xch (ys := entC_file_File (i18, b19, s20)) rfl (entC_file_File_one (i18, b19, s20)) (by rw [flatMap_length entC_file_File_len, entC_file_File_len, List.length_take]; omega) a35 b35 e36 fun a' m' c' r' h' R' E3 => ⟨a', m', c', rfl, ?_⟩
    obtain ⟨es, E4⟩ := E3.store 2 0 (.slice a' m' c') (t := TY.s_countermandref18_Change) (fs := plains [.slice a q c]) (n := 1) rfl rfl
    refine ⟨_, es, Fin.of ?_⟩
    have hm := Row.len R'
    rw [List.length_append, flatMap_length entC_file_File_len, entC_file_File_len, List.length_take] at hm
    obtain rfl : m' = q + 1 := by omega
    refine ⟨a', c', r', ?_, E4.take 5⟩
    obtain ⟨hq, hx⟩ := List.getElem?_eq_some_iff.1 hg
    rw [List.take_succ_eq_append_getElem hq, List.flatMap_append, hx, List.flatMap_singleton]; exact R'
  · rintro h22 ⟨a, c, r2, R2, E⟩
    rw [List.take_length] at R2
    exact ⟨a, xs.length, c, E.cell 2 rfl rfl, Fin.of (hQ a c r2 _ R2 (E.picks [0, 1, 3] (by decide)))⟩
theorem drawn21_wp {Q : Option Addr → Option Addr → Nat → Nat → Bool → Heap → Prop} (hr : Reads B h a 3 entC_file_File list) (hN : ∀ p h', Keep B h [] h' → Q p none 0 0 false h')
    (hS : ∀ (xs : DFL) kd v r a' c' r2 h', xs.length ≤ 10 → SortD xs → (∀ x ∈ xs, GoodC x) → DRow_file_File r v xs → Row r2 (.slice a' xs.length c') TY.countermandref18_Change 3 (xs.flatMap entC_file_File) → Keep B h [some (kd, drO_file_File v), r, r2] h' → Q (some ⟨kd, 0, none⟩) a' xs.length c' true h') : C_countermandlaw21_drawn B a list.length c h Q := by
  refine C_countermandlaw21_drawn.of ?_
  unfold S_countermandlaw21_drawn
  intro k9 a9 b9 h10 e10
  have E0 := (Keep.nil B h).made a9 b9 e10
  refine ⟨fun _ => Fin.of (hN _ _ (E0.take 0)), fun hlen => ?_⟩
  refine ⟨fun ix m h' => ∃ (j : Nat) (xs : DFL) (v : Value) (r : Option (Nat × AObj)), j ≤ list.length ∧ ix = j ∧ m = list.length - j ∧ xs.length ≤ j ∧ SortD xs ∧ (∀ x ∈ xs, GoodC x) ∧ DRow_file_File r v xs ∧ Keep B h [some (k9, drO_file_File v), r] h', list.length, Fin.of ⟨0, [], .slice none 0 0, none, by omega, rfl, by omega, by simp, List.Pairwise.nil, fun x hx => (by cases hx), Row.nil _ _, E0.gap⟩, ?_⟩
  clear E0 e10
  rintro _ _ h46 ⟨j, xs, v, r, hj, rfl, rfl, hlx, s, g, R, E⟩
  refine ⟨fun hlt => ?_, fun hge => Fin.of ?_⟩
  · have hj' : j < list.length := by omega
    have hw : IntKind.wrap .i64 ((j : Int) + 1) = ((j + 1 : Nat) : Int) := by rw [w64 (by omega) (by omega)]; omega
    have hx := List.getElem?_eq_getElem hj'
    generalize list[j] = x at hx
    obtain ⟨A', e1, _, e4⟩ := (hr.over E.le E.nw) j x hx
    refine ⟨A', e1, by omega, hlt, x.1, x.2.1, x.2.2, e4, fun k57 a57 b57 h58 e58 => ?_⟩
    have E1 := E.made a57 b57 e58
    refine ⟨_, stores_whole E1.last rfl (by simp) (by simp [isOne]) (by simp), ?_⟩
    have E2 := E1.putLast (.vec TY.redo_Change (plains (entC_file_File x)) 3)
    refine ⟨x.1, cellH_vec E2.last rfl, fun _ => Fin.of (hN _ _ (E2.take 0)), fun h0' => ⟨x.1, cellH_vec E2.last rfl, fun _ => Fin.of (hN _ _ (E2.take 0)), fun h5 => ⟨x.2.1, x.2.2, ⟨cellH_vec E2.last rfl, cellH_vec E2.last rfl, trivial⟩, goodF_wp fun h73 w => ⟨fun hg => Fin.of ?_, fun _ => Fin.of (hN _ _ ((E2.wk w).take 0))⟩⟩⟩⟩
    have E3 := E2.wk w
    unfold S_countermandlaw21_drawn_J2
    refine ⟨x.1, cellH_vec E3.last rfl, x.2.1, x.2.2, ⟨cellH_vec E3.last rfl, cellH_vec E3.last rfl, trivial⟩, ?_⟩
    refine put_file_File_wp (i := 0) E3 ⟨rfl, rfl⟩ R s (by omega) fun v' r' h65 R' E4 => Fin.of ⟨list.length - (j + 1), by omega, j + 1, insD xs x.1 x.2, v', r', by omega, hw, rfl, ?_, s.ins, fun y hy => ?_, R', E4.take 2⟩
    · have := insD_len (l := xs) (i := x.1) (v := x.2); omega
    · rcases insD_mem hy with rfl | hy
      · exact ⟨by simp only; omega, by simp only; omega, hg⟩
      · exact g y hy
  · exact drawn21_J1 E R (by omega) fun a' c' r2 h' R2 E' => hS xs k9 v r a' c' r2 h' (by omega) s g R R2 E'
end
structure Las (j : Nat) (I : WI) (S : WS) (z : FL) (kW kD : Nat) : Prop where
  K : WK I S
  T : VLT S
  n : S.n = j
  f : S.f = 0
  z6 : z.length = 6
  fz : F1 S.v.f = F1 z
  r : RecW S.e S.im S.ls z j
  e : S.e ≤ 1 + j
  c : S.cs.length ≤ 3 + 4 * j
  k : S.k = S.cs.length
  w : I.kW = kW
  d : I.kD = kD
section
variable {B : RO} {h0 h h' : Heap} {I : WI} {S : WS} {z : FL} {list : DFL} {a53 : Option Addr} {c55 kW kD k17 j : Nat}
theorem new_las (K : WK I newS) : Las 0 I newS zF I.kW I.kD := by
  refine ⟨K, newS_vlt, rfl, rfl, rfl, rfl, ?_, by rw [newS_e]; omega, by show (stl _ _ _ []).length ≤ 3; unfold stl; simp, rfl, rfl, rfl⟩
  exact RecW.image TomeOk.zero ⟨Int.le_refl _, by decide⟩ rfl
set_option maxHeartbeats 1000000 in
theorem block_wp {Qt Qf X : Heap → Prop} (hr : Reads B h a53 3 entC_file_File list) (D : Las j I S z kW kD) (hj : j ≤ 1000) (E : Keep B h0 ([some (k17, fBO z)] ++ I.e S) h)
    (hT : ∀ h', Keep B h0 [] h' → Qt h')
    (hX : ∀ I' S' z' h', Las (j + 1) I' S' z' kW kD → Keep B h0 ([some (k17, fBO z')] ++ I'.e S') h' → X h') :
    C_countermandlaw21_drawn B a53 list.length c55 h (fun p58 a59 n60 c61 b62 h57 =>
     (b62 = true →
     C_world_World_Write B (some ⟨kW, 0, none⟩) p58 h57 (fun i64 h63 =>
     ((i64 : Int) = 0 →
     C_world_World_Force B (some ⟨kW, 0, none⟩) h63 (fun h65 =>
     C_redo_Bytes B (1) p58 h65 (fun s67 h66 =>
     C_redo_Read B s67 h66 (fun i69 a70 n71 c72 b73 h68 =>
     C_world_World_View B (some ⟨kW, 0, none⟩) h68 (fun p75 h74 =>
     ∃ A76 : Addr, p75 = some A76 ∧
     ∃ p78 : Option Addr, cellH B h74 (Addr.add A76 1) = some (.pointer p78) ∧
     C_redo_Apply B p78 a70 n71 c72 (0) h74 (fun h79 =>
     C_world_World_Done B (some ⟨kW, 0, none⟩) h79 (fun h80 =>
     ∃ l81 : List Value, List.length l81 = 12 ∧ CellsAt B h80 ⟨k17, 0, none⟩ 0 l81 ∧
     C_countermandref18_Apply B l81 a59 n60 c61 h80 (fun l83 h82 =>
     List.length l83 = 12 ∧ ∃ h84 : Heap, StoresAt ⟨k17, 0, none⟩ h82 0 l83 h84 ∧
     X h84)))))))) ∧ (¬ ((i64 : Int) = 0) →
     Fin B h63 Qf))) ∧ (b62 = false →
     Fin B h57 Qt)) := by
  obtain rfl := D.w
  have nil : ∀ {h1 : Heap} {N : List (Option (Nat × AObj))}, Keep B h0 N h1 → Keep B h0 [] h1 := fun E => by have := E.take 0; simpa using this
  refine drawn21_wp hr (fun p h' E1 => ⟨fun e => (by cases e), fun _ => Fin.of (hT _ (nil (E.append E1)))⟩) fun xs kd v r a' c' r2 h57 hx s g R R2 E1 => ⟨fun _ => ?_, fun e => by cases e⟩
  have x6 := sortGood_len xs s g
  have E2 : Keep B h0 ([some (k17, fBO z), some (kd, drO_file_File v), r, r2] ++ I.e S) h57 := (E.append E1).picks [0, 16, 17, 18, 1, 2, 3, 4, 5, 6, 7, 8, 9, 10, 11, 12, 13, 14, 15] (by decide)
  have hn := D.n
  have he := D.e
  have hc := D.c
  have hf := D.f
  obtain ⟨S0, w1, T0, s0, R0, k0, e0, v0⟩ := write_base (xs := xs) D.T D.K.o.f D.fz (by rw [hn]; exact D.r) hf (by omega) (by omega) D.k
  have hT1 := D.T.write D.K.o.f s g
  obtain ⟨q1, q2, q3, q4, q5, q6, q7⟩ := write_keeps S xs
  have wf : (writeS S xs).1.f = S.f := by
    unfold writeS
    rw [if_neg (by omega), if_neg (by omega)]
    split
    · rw [if_neg (by omega)]; rfl
    · rfl
  refine wwrite_wp (q := 1) E2 D.K D.T (by omega) (by omega) ⟨rfl, rfl⟩ R s g fun vd' rd' kl' h63 K1 E3 => ⟨fun _ => ?_, fun e => absurd (by rw [w1]) e⟩
  have hR1 := R0.app (xs := xs) (by omega) (by omega) s g
  have we : (writeS S xs).1.e = S0.e ∧ (writeS S xs).1.im = S0.im ∧ (writeS S xs).1.ls = S0.ls ++ [loadB (S.n + 1) xs] := by rw [w1]; exact ⟨rfl, rfl, rfl⟩
  generalize hW : (writeS S xs).1 = S1 at *
  obtain ⟨we1, we2, we3⟩ := we
  refine wforce_wp (I := { I with vd := vd', rd := rd', kl := kl' }) E3 K1 (by omega) fun h65 K2 E4 => ?_
  refine redo_bytes_wp (i := 1) (xs := xs) E4 ⟨rfl, rfl⟩ R g (by omega) (by decide) fun h66 E5 => ?_
  have hlo : loadOf (bl (ba (loadB 1 xs))) = some (1, xs) := by rw [bl_ba]; exact loadOf_back (n := 1) (by omega) s g
  refine redo_read_wp E5 (fun hN => by rw [hlo] at hN; cases hN) fun n ys hs a70 c72 r70 h68 R70 E6 => ?_
  rw [hlo] at hs
  cases hs
  rw [List.append_assoc] at E6
  refine wview_wp (I := { I with vd := .slice none 0 0, rd := none, kl := kl' }) (S := forceS S1) E6 ⟨_, rfl, _, E6.cM 0 rfl (i := 1) rfl, ?_⟩
  obtain ⟨-, rd70⟩ := Row.rd (B := B) R70 entC_file_File_len (by omega)
  have L4 : [some (k17, fBO z), some (kd, drO_file_File v), r, r2].length = 4 := rfl
  refine redo_apply_wp (i := 4 + 2) (xs := xs) E6 ⟨rfl, ⟨rfl, rfl⟩⟩ K2.o.r K2.o.f.n6 g (by omega) (fun r' h' E7 => rd70 h' fun k o e => E7.at 19 (by rw [← e]; rfl)) fun r' h79 R' E7 => ?_
  have E8 : Keep B h0 ([some (k17, fBO z), some (kd, drO_file_File v), r, r2] ++ (WI.e { I with vd := .slice none 0 0, rd := none, kl := kl', V := { I.V with rt := r' } } { forceS S1 with v := { S1.v with f := apCs 0 S1.v.f xs } } ++ [r70])) h79 := E7
  refine wdone_wp (I := { I with vd := .slice none 0 0, rd := none, kl := kl', V := { I.V with rt := r' } }) (S := { forceS S1 with v := { S1.v with f := apCs 0 S1.v.f xs } }) E8 fun h80 E9 => ?_
  have hw : IntKind.wrap .i64 (S1.n + 1) = ((j + 1 : Nat) : Int) := by rw [q6, hn, w64 (by omega) (by omega)]; omega
  obtain ⟨-, rd2⟩ := Row.rd (B := B) R2 entC_file_File_len (by omega)
  have w6 := apCs6 (ver := 0) D.z6 xs
  refine ⟨_, f12 D.z6, fBO_cells (E9.at 0 rfl), ref18_apply_wp (ver := 0) (rd2 h80 fun k o e => E9.at 3 (by rw [← e]; rfl)) D.z6 g (by omega) ⟨f12 w6, ?_⟩⟩
  obtain ⟨h2, s2, rfl⟩ := fBO_store (w := apCs 0 z xs) (E9.at 0 rfl) D.z6 w6
  refine ⟨_, s2, hX { I with vd := .slice none 0 0, rd := none, kl := kl', V := { I.V with rt := r' } } { forceS S1 with v := { S1.v with f := apCs 0 S1.v.f xs }, n := IntKind.wrap .i64 (S1.n + 1) } (apCs 0 z xs) _ ?_ ?_⟩
  · have fz : F1 (apCs 0 S1.v.f xs) = F1 (apCs 0 z xs) := by rw [q1]; exact F1_apCs xs D.fz
    refine ⟨⟨⟨R', K2.o.c8, TomeOk.chs xs K2.o.f g, K2.o.k⟩, K2.nr, K2.cr, K2.hk, K2.ok, K2.ar⟩, ⟨hT1.tx, hT1.ot, hT1.sz, hT1.il, hT1.ll, hT1.sm, hT1.e1, hT1.e2, by show 0 ≤ IntKind.wrap .i64 (S1.n + 1); omega, hT1.ar⟩, hw, by show S1.f = 0; rw [wf, hf], w6, fz, ?_, by show S1.e ≤ _; omega, by show S1.cs.length ≤ _; omega, rfl, rfl, D.d⟩
    have := hR1
    rw [hn, ← we1, ← we2] at this
    show RecW S1.e S1.im S1.ls _ _
    rw [we3, hn]
    exact this
  · have E10 := E9.put (o' := fBO (apCs 0 z xs)) 0 rfl
    exact E10.picks [0, 4, 5, 6, 7, 8, 9, 10, 11, 12, 13, 14, 15, 16, 17, 18] (by decide)
end
end Go.Proofs.YtlehephbflgblaaGreat.H
namespace Go.Proofs.YtlehephbflgblaaGreat.H
open Go Go.RowKit
set_option linter.unusedVariables false
set_option maxRecDepth 100000
theorem TK.rch_kd : leafB PG 5 TY.redo_Change = some [.int .i64, .bool, .str] := by kernel_rfl
theorem TK.rchss_sl : PG.underlying TY.s_s_redo_Change = some (.slice TY.s_redo_Change) := by kernel_rfl
theorem TK.rchs_kd : leafB PG 5 TY.s_redo_Change = some [.sl TY.s_redo_Change TY.redo_Change] := by kernel_rfl
theorem rch_val {H : Type} {enc : TypeId × Value → H} {w : World} {base : Nat} {spare : Nat → Bool} {held : Bool} (vs : List Value) (h : KdsOk enc PG w base spare held [.int .i64, .bool, .str] vs) : ∃ x : ChR, vs = entC_file_File x ∧ True := by
  obtain ⟨z1, v1, rfl, _, h1⟩ := h.int
  obtain ⟨z2, v2, rfl, h2⟩ := h1.bool
  obtain ⟨z3, v3, rfl, _, h3⟩ := h2.str
  obtain rfl := h3.nil
  exact ⟨(z1, z2, z3), rfl, trivial⟩
section
variable {B : RO} {h0 h h' : Heap} {I : WI} {S : WS} {z : FL} {list last : DFL} {a a4 : Option Addr} {c c6 kW kD k17 j : Nat} {lists : List (Nest ChR)} {Q : Bool → Heap → Prop}
theorem Keep.rd {α : Type} {cells : α → List Value} {n : Nat} {a : Option Addr} {ds : List α} {N : List (Option (Nat × AObj))} (E : Keep B h N h') (hr : Reads B h a n cells ds) : Reads B h' a n cells ds := hr.over E.le E.nw
theorem again_wp {k : Nat} {v : Value} {r : Option (Nat × AObj)} {P : Option Addr → Int → Heap → Prop} {cs : List Chg} {zz : FL} {n : Int} (E : Keep B h0 ([some (k17, fBO z)] ++ [some (kD, dskO cs k v), r]) h) (R : CRow r v (cs.drop k)) (hk : k ≤ cs.length) (ok : DOk cs) (hl : cs.length ≤ 10000) (ho : openF (fOf cs) = some (zz, n)) (he : (fOf cs).e < 1099511627776)
    (hP : ∀ I' h', WK I' (openS cs zz n) → Keep B h0 ([some (k17, fBO z)] ++ I'.e (openS cs zz n)) h' → P (some ⟨I'.kW, 0, none⟩) 0 h') : C_world_Open B (some ⟨kD, 0, none⟩) h P := by
  refine worldopen_wp (L := [some (k17, fBO z)]) E R hk ok hl (fOf_small ok) (fun hN => by rw [ho] at hN; cases hN) (fun z' n' _ h40 => by omega) fun z' n' ho' _ I' h39 _ K' E4 => ?_
  rw [ho] at ho'
  cases ho'
  exact hP I' h39 K' E4
theorem Room_J2 {n : Nat} (D : Las n I S z kW kD) (hj : n ≤ 1000) (E : Keep B h0 ([some (k17, fBO z)] ++ I.e S) h) (hQ : ∀ h', Keep B h0 [] h' → Q true h') : S_countermandlaw21_WorldRoom_J2 B (some ⟨kD, 0, none⟩) k17 (n : Nat) h Q := by
  unfold S_countermandlaw21_WorldRoom_J2
  obtain rfl := D.d
  have hc := D.c
  have he := D.e
  have hk := D.k
  have hcr : crashD S.cs S.cs.length 0 0 = S.cs := crash_all _ _ _
  have E1 : Keep B h0 ([some (k17, fBO z)] ++ (I.h S ++ [some (I.kD, dskO S.cs S.cs.length I.vd), I.rd, some (I.kv, vltO I.kD I.kl S.e true), some (I.kl, walO I.kD S.ar S.sz false)])) h := by
    rw [← hk]; exact E
  have hcrw := D.K.cr
  rw [hk] at hcrw
  refine dcrash_wp (i := 12) (keep := 0) (part := 0) E1 ⟨rfl, rfl⟩ hcrw (Nat.le_refl _) D.K.ok (by omega) fun h20 E2 => ?_
  rw [hcr] at E2
  have E3 : Keep B h0 ([some (k17, fBO z)] ++ [some (I.kD, dskO S.cs S.cs.length (.slice none 0 0)), none]) h20 := E2.picks [0, 12, 13] (by decide)
  obtain ⟨zz, ho, hz⟩ := D.r
  have hF := D.T.found.1
  refine again_wp E3 (CRow.done _) (Nat.le_refl _) D.K.ok (by omega) (by rw [hF]; exact ho) (by rw [hF]; simp only; omega) fun I' h21 K' E4 => ⟨fun _ => ⟨_, f12 D.z6, fBO_cells (E4.at 0 rfl), are_wp (WE0 E4) K'.o D.z6 (F1_filesC hz) fun h25 E5 => ⟨fun _ => wblocks_wp E5 (Fin.of ?_), fun e => by cases e⟩⟩, fun e => absurd rfl e⟩
  show Q (((n : Nat) : Int) == ((n : Nat) : Int)) _
  rw [beq_self_eq_true]
  exact hQ _ (E5.take 0)
theorem WorldRoom_wp {i4 : Int} (hr : Reads B h a 1 nestC lists) (hl : ∀ x ∈ lists, Reads B h x.1 3 entC_file_File x.2.1) (hQ : ∀ h', Keep B h [] h' → Q true h') : C_countermandlaw21_WorldRoom B a lists.length c i4 h Q := by
  refine C_countermandlaw21_WorldRoom.of ?_
  unfold S_countermandlaw21_WorldRoom
  refine alive21_wp fun h6 E0 => ⟨fun _ => ⟨fun _ => Fin.of (hQ _ E0), fun hle => ⟨fun _ => Fin.of (hQ _ E0), fun h40 => ⟨fun _ => Fin.of (hQ _ E0), fun h45 => Fin.of ?_⟩⟩⟩, fun e => by cases e⟩
  unfold S_countermandlaw21_WorldRoom_J1
  refine dnew_wp fun kD h12 E1 => ?_
  have E2 : Keep B h ([] ++ [some (kD, dskO [] 0 (.slice none 0 0)), none]) h12 := by have := E0.append E1; exact this
  refine newworld_wp E2 fun I0 h14 hkD K E3 k17 a17 b17 h18 e18 => ?_
  have E4 := E3.made (o := fBO zF) a17 b17 e18
  have E5 : Keep B h ([some (k17, fBO zF)] ++ I0.e newS) h18 := E4.picks [15, 0, 1, 2, 3, 4, 5, 6, 7, 8, 9, 10, 11, 12, 13, 14] (by decide)
  have D0 := new_las K
  rw [hkD] at D0
  generalize I0.kW = kW at *
  refine ⟨fun i29 i30 m h' => ∃ (t : Nat) (I : WI) (S : WS) (z : FL), (t : Int) ≤ i4 ∧ i30 = t ∧ m = i4.toNat - t ∧ i29 = ((t * lists.length : Nat) : Int) ∧ Las (t * lists.length) I S z kW kD ∧ Keep B h ([some (k17, fBO z)] ++ I.e S) h', i4.toNat, Fin.of ⟨0, I0, newS, zF, by omega, rfl, rfl, by simp, by rw [Nat.zero_mul]; exact D0, E5⟩, ?_⟩
  clear E0 E1 E2 E3 E4 E5 D0 K e18
  rintro _ _ _ h31 ⟨t, I, S, z, ht, rfl, rfl, rfl, D, E⟩
  have htl : t * lists.length ≤ 5 * 60 := Nat.mul_le_mul (by omega) (by omega)
  refine ⟨fun hlt => ?_, fun hge => Fin.of (Room_J2 D (by omega) E hQ)⟩
  have htl2 : t * lists.length ≤ 4 * 60 := Nat.mul_le_mul (by omega) (by omega)
  refine ⟨fun i36 i37 m h' => ∃ (j : Nat) (I : WI) (S : WS) (z : FL), j ≤ lists.length ∧ i37 = j ∧ m = lists.length - j ∧ i36 = ((t * lists.length + j : Nat) : Int) ∧ Las (t * lists.length + j) I S z kW kD ∧ Keep B h ([some (k17, fBO z)] ++ I.e S) h', lists.length, Fin.of ⟨0, I, S, z, by omega, rfl, rfl, rfl, D, E⟩, ?_⟩
  clear D E I S z
  rintro _ _ _ h46 ⟨j, I, S, z, hj, rfl, rfl, rfl, D, E⟩
  refine ⟨fun hlt => ?_, fun hge => Fin.of ?_⟩
  · have hj' : j < lists.length := by omega
    have hx := List.getElem?_eq_getElem hj'
    have hxl := hl _ (List.getElem_mem hj')
    generalize lists[j] = x at hx hxl
    obtain ⟨A, f1, _, f3⟩ := (E.rd hr) j x hx
    refine ⟨A, f1, by omega, by omega, .inl ⟨x.1, x.2.1.length, x.2.2, by rw [Int.toNat_natCast]; exact f3.1, ?_⟩⟩
    refine block_wp (E.rd hxl) D (by omega) E (fun h' E1 => hQ _ E1) fun I' S' z' h' D' E' => ?_
    obtain rfl := D'.d
    have hsz := D'.T.sz
    have hsm := D'.T.sm
    have hot := congrArg List.length D'.T.ot
    rw [bl_length] at hsz hot
    refine dread_wp (i := 12) E' ⟨rfl, rfl⟩ (.inl rfl) (dread_wp (i := 12) E' ⟨rfl, rfl⟩ (.inr rfl) ?_)
    have hsum : (textD 0 S'.cs).size + (textD 1 S'.cs).size ≤ 2340 := by
      rcases D'.T.ar with e | e
      · rw [e] at hsz hot
        rw [show (1 : Int) - 0 = 1 from rfl] at hot
        simp only [List.length_nil] at hot
        omega
      · rw [e] at hsz hot
        rw [show (1 : Int) - 1 = 0 from rfl] at hot
        simp only [List.length_nil] at hot
        omega
    have hw : IntKind.wrap .i64 (((textD 0 S'.cs).size : Nat) + ((textD 1 S'.cs).size : Nat)) = (((textD 0 S'.cs).size : Nat) : Int) + ((textD 1 S'.cs).size : Nat) := w64 (by omega) (by omega)
    refine ⟨fun hgt => by omega, fun _ => Fin.of ⟨lists.length - (j + 1), by omega, j + 1, I', S', z', by omega, wrapS (by omega), rfl, ?_, D', E'⟩⟩
    rw [w64 (by omega) (by omega)]; omega
  · have : j = lists.length := by omega
    subst this
    have e1 : (t + 1) * lists.length = t * lists.length + lists.length := Nat.succ_mul _ _
    refine ⟨i4.toNat - (t + 1), by omega, t + 1, I, S, z, by omega, wrapS (by omega), rfl, by rw [e1], by rw [e1]; exact D, E⟩
end
theorem WorldRoom_calls {H : Type} {enc : TypeId × Value → H} (W : World) {a : Option Addr} {len cap : Nat} {d1 : DataW H} {p1 : List MemPlace} (k1 : DataW.Trod enc PG W 0 (fun _ => true) true TY.s_s_redo_Change (.slice a len cap) d1 p1) (n1 : Int) (w1 : (Lit.int .i64 n1).wf = true) :
    Calls PG FN.countermandlaw21_WorldRoom #[.slice a len cap, .int .i64 n1] W fun e w' => e = .returned (.bool true) ∧ Below W.heap.size W w' := by
  obtain ⟨ls, rfl, hr, hl⟩ := arg_nest entC_file_File (fun _ => True) TK.rchss_sl TK.rchs_kd TK.rch_kd rfl (by decide) rch_val k1
  refine Spec.calls (Spec.mono (WorldRoom_wp (Q := fun b _ => b = true) (c := cap) (i4 := n1) hr (fun x hx => (hl x hx).1) fun _ _ => rfl) ?_)
  rintro v h' ⟨b, rfl, rfl⟩
  rfl
end Go.Proofs.YtlehephbflgblaaGreat.H
