/- Drafts of int: contracts. No condition. -/
import Derived.Test.YthloobpjkeodgaaXfT
import Derived.Test.YthloobpjkeodgaaDa
namespace Go.Proofs.Ythloobpjkeodgaa.H
open Go
set_option linter.unusedVariables false
set_option maxRecDepth 100000

def entC_int (x : Int × Int) : List Value := [.int .i64 x.1, .int .i64 x.2]
theorem entC_int_len (x : Int × Int) : (entC_int x).length = 2 := rfl
theorem entC_int_one (x : Int × Int) : ∀ y ∈ entC_int x, isOne y = true := fun y hy => by simp [entC_int] at hy; rcases hy with rfl | rfl <;> rfl
theorem TK.slc_ent_int : slcB PG TY.s_draft_entry_int = some (TY.draft_entry_int, 2, 16) := by kernel_rfl
theorem TK.zero_ent_int : zeroB PG TY.draft_entry_int = some [.int .i64 0, .int .i64 0] := by kernel_rfl
theorem TK.sl_ent_int : slT PG TY.s_draft_entry_int = true := by kernel_rfl
theorem TK.int_ent_int : intB PG TY.int = some .i64 := by kernel_rfl
def DRow_int (r : Option (Nat × AObj)) (v : Value) (l : List (Int × Int)) : Prop := Row r v TY.draft_entry_int 2 (l.flatMap entC_int)
def drO_int (v : Value) : AObj := .vec TY.draft_Draft_int (plains [v]) 1
structure DAt_int (L : List (Option (Nat × AObj))) (i k : Nat) (v : Value) (r : Option (Nat × AObj)) : Prop where
  p : L[i]? = some (some (k, drO_int v))
  q : L[i + 1]? = some r
def drE_int (k : Nat) (v : Value) (r : Option (Nat × AObj)) : List (Option (Nat × AObj)) := [some (k, drO_int v), r]

section
variable {B : RO} {h0 h h' : Heap} {L : List (Option (Nat × AObj))} {r : Option (Nat × AObj)} {i k : Nat} {a : Option Addr} {m c : Nat} {v : Value} {l : List (Int × Int)}
theorem by_int_wp {x : Int × Int} {n : Int} {Q : Int → Heap → Prop} (hQ : Q (if x.1 < n then -1 else if n < x.1 then 1 else 0) h) : C_draft_by_int B x.1 (x.2) n h Q := by
  refine C_draft_by_int.of ?_
  unfold S_draft_by_int
  intro k5 a5 b5 h6 e6
  have E := (Keep.nil B h).made a5 b5 e6
  refine ⟨_, E.cell 0 rfl rfl, fun h1 => Fin.ent E.back (Fin.of ?_), fun h1 => ⟨_, E.cell 0 rfl rfl, fun h2 => Fin.ent E.back (Fin.of ?_), fun h2 => Fin.ent E.back (Fin.of ?_)⟩⟩
  · rw [if_pos h1] at hQ; exact hQ
  · rw [if_neg h1, if_pos h2] at hQ; exact hQ
  · rw [if_neg h1, if_neg (fun h => h2 h)] at hQ; exact hQ
theorem bsearch_int_wp {n : Int} {Q : Int → Bool → Heap → Prop} (hr : Reads B h a 2 entC_int l) (s : SortD l) (hl : l.length ≤ 1000000) (hQ : ∀ p, PosD l n p → Q (p : Nat) (foundD l p n) h) : C_slices_BinarySearchFunc_s_draft_entry_int_draft_entry_int_int B a l.length c n (Value.func (.func FN.draft_by_int) #[] #[]) h Q := by
  refine C_slices_BinarySearchFunc_s_draft_entry_int_draft_entry_int_int.of ?_
  unfold S_slices_BinarySearchFunc_s_draft_entry_int_draft_entry_int_int
  refine ⟨fun i j m h' => ∃ lo hi : Nat, i = lo ∧ j = hi ∧ m = hi - lo ∧ lo ≤ hi ∧ hi ≤ l.length ∧ (∀ (q : Nat) (x : Int × Int), q < lo → l[q]? = some x → x.1 < n) ∧ (∀ (q : Nat) (x : Int × Int), hi ≤ q → l[q]? = some x → n ≤ x.1) ∧ h = h', l.length, Fin.of ⟨0, l.length, rfl, rfl, rfl, by omega, Nat.le_refl _, fun q x hq => by omega, fun q x hq hx => by have := (List.getElem?_eq_some_iff.1 hx).1; omega, rfl⟩, ?_⟩
  rintro _ _ _ _ ⟨lo, hi, rfl, rfl, rfl, hlh, hhl, hlo, hhi, rfl⟩
  refine ⟨fun hlt => ⟨by decide, ?_⟩, fun hge => Fin.of ?_⟩
  · have hmid : IntKind.wrap .i64 (Int.fdiv (IntKind.wrap .u64 (IntKind.wrap .i64 (((lo : Nat) : Int) + ((hi : Nat) : Int)))) (2 ^ (min (Int.toNat (1)) (IntKind.bits .u64)))) = (((lo + hi) / 2 : Nat) : Int) := by
      have e1 : IntKind.wrap .i64 (((lo : Nat) : Int) + ((hi : Nat) : Int)) = ((lo + hi : Nat) : Int) := by rw [w64 (by omega) (by omega)]; omega
      have e2 : IntKind.wrap .u64 ((lo + hi : Nat) : Int) = ((lo + hi : Nat) : Int) := by rw [wu64]; omega
      rw [e1, e2, two1, Int.fdiv_eq_ediv_of_nonneg _ (by decide), w64 (by omega) (by omega)]; omega
    rw [hmid]
    have hml : (lo + hi) / 2 < l.length := by omega
    have hx := List.getElem?_eq_getElem hml
    have hb : lo ≤ (lo + hi) / 2 ∧ (lo + hi) / 2 < hi := by omega
    generalize (lo + hi) / 2 = mid at hml hx hb
    generalize l[mid] = x at hx
    obtain ⟨A, e1, _, e4⟩ := hr mid x hx
    have hw : IntKind.wrap .i64 (((mid : Nat) : Int) + 1) = ((mid + 1 : Nat) : Int) := by rw [w64 (by omega) (by omega)]; omega
    rw [hw]
    refine ⟨A, e1, by omega, by omega, x.1, x.2, e4, ?_⟩
    refine CallV.func TG.draft_by_int (by_int_wp (x := x) ⟨fun h1 => Fin.of ⟨hi - (mid + 1), by omega, mid + 1, hi, rfl, rfl, rfl, by omega, hhl, fun q y hq hy => ?_, hhi, rfl⟩, fun h1 => Fin.of ⟨mid - lo, by omega, lo, mid, rfl, rfl, rfl, by omega, by omega, hlo, fun q y hq hy => ?_, rfl⟩⟩)
    · have hx1 : x.1 < n := by
        by_cases h2 : x.1 < n
        · exact h2
        · rw [if_neg h2] at h1; split at h1 <;> omega
      by_cases h : q = mid
      · subst h; rw [hx] at hy; cases hy; exact hx1
      · have := s.get (show q < mid by omega) hy hx; omega
    · have hx1 : n ≤ x.1 := by
        by_cases h2 : x.1 < n
        · rw [if_pos h2] at h1; omega
        · omega
      by_cases h : q = mid
      · subst h; rw [hx] at hy; cases hy; exact hx1
      · have := s.get (show mid < q by omega) hx hy; omega
  · have : lo = hi := by omega
    subst this
    have K : PosD l n lo := ⟨hhl, hlo, hhi⟩
    have hq := hQ lo K
    unfold S_slices_BinarySearchFunc_s_draft_entry_int_draft_entry_int_int_J1
    refine ⟨fun hlt2 => ?_, fun hge2 => Fin.of ?_⟩
    · have hml : lo < l.length := by omega
      have hx := List.getElem?_eq_getElem hml
      generalize l[lo] = x at hx
      obtain ⟨A, e1, _, e4⟩ := hr lo x hx
      have hf : foundD l lo n = (x.1 == n) := by rw [foundD, hx]
      rw [hf] at hq
      refine ⟨A, e1, by omega, by omega, x.1, x.2, e4, ?_⟩
      refine CallV.func TG.draft_by_int (by_int_wp (x := x) (Fin.of ?_))
      have : (((if x.1 < n then -1 else if n < x.1 then 1 else 0 : Int)) == (0 : Int)) = (x.1 == n) := by
        rw [Bool.eq_iff_iff, beq_iff_eq, beq_iff_eq]
        split
        · omega
        · split <;> omega
      rw [this]; exact hq
    · have hf : foundD l lo n = false := by rw [foundD, List.getElem?_eq_none (by omega)]
      rw [hf] at hq; exact hq
theorem DRow_int.len (R : DRow_int r (.slice a m c) l) : m = l.length := (Row.rd (B := fun _ => none) R entC_int_len (by omega)).1
theorem find_int_wp {n : Int} {Q : Int → Bool → Heap → Prop} (E : Keep B h0 L h) (A : DAt_int L i k v r) (R : DRow_int r v l) (s : SortD l) (hl : l.length ≤ 1000000) (hQ : ∀ p, PosD l n p → Q (p : Nat) (foundD l p n) h) : C_draft_Draft_int_find B (some ⟨k, 0, none⟩) n h Q := by
  refine C_draft_Draft_int_find.of ?_
  unfold S_draft_Draft_int_find
  obtain ⟨a, m, c, rfl⟩ := Row.slice R
  obtain ⟨rfl, hrd⟩ := Row.rd (B := B) R entC_int_len (by omega)
  exact ⟨_, rfl, .inl ⟨a, _, c, E.cell i A.p rfl, bsearch_int_wp (hrd h fun k o e => E.at (i + 1) (by rw [A.q, e])) s hl fun p K => Fin.of (hQ p K)⟩⟩
theorem ins_int_eq {a5 : Option Addr} {n n6 c7 : Nat} {i : Int} {Q : Option Addr → Nat → Nat → Heap → Prop} : S_slices_Insert_s_draft_entry_int_draft_entry_int B a n c i a5 n6 c7 h Q = InsP PG TY.s_draft_entry_int 2 TY.bool TY.int (fun B => C_slices_rotateRight_draft_entry_int B) B a n c i a5 n6 c7 h Q := by
  unfold S_slices_Insert_s_draft_entry_int_draft_entry_int InsP
  congr
theorem put_int_wp {n : Int} {x : Int} {Q : Bool → Heap → Prop} (E : Keep B h0 L h) (A : DAt_int L i k v r) (R : DRow_int r v l) (s : SortD l) (hl : l.length ≤ 100000) (hQ : ∀ v' r' h', DRow_int r' v' (insD l n x) → Keep B h0 ((L.set i (some (k, drO_int v'))).set (i + 1) r') h' → Q true h') : C_draft_Draft_int_Put B (some ⟨k, 0, none⟩) n x h Q := by
  refine C_draft_Draft_int_Put.of ?_
  unfold S_draft_Draft_int_Put
  have hil : i < L.length := (List.getElem?_eq_some_iff.1 A.p).1
  have hil1 : i + 1 < L.length := (List.getElem?_eq_some_iff.1 A.q).1
  refine ⟨fun e => (by cases e), fun _ => find_int_wp E A R s (by omega) fun p K => ⟨fun hf => ?_, fun hf => ?_⟩⟩
  · obtain ⟨y, hy, rfl⟩ := foundD_some hf
    have hpl := (List.getElem?_eq_some_iff.1 hy).1
    have hi := insD_old (v := x) K hf
    obtain ⟨a, m, c, rfl⟩ := Row.slice R
    have hm := DRow_int.len R
    subst hm
    have hfl := flatMap_length entC_int_len l
    rcases R with ⟨_, e1, e2⟩ | ⟨kr, m', c', nn, js, e0, e1, e3, e4, e5⟩
    · rw [e2] at hfl; simp at hfl; omega
    · cases e1
      have hq := A.q
      rw [e0] at hq
      have hsp := flatMap_splitR (cells := entC_int) l p hpl
      have hly : l[p] = y := by rw [List.getElem?_eq_getElem hpl] at hy; exact Option.some.inj hy
      have htl : ((l.take p).flatMap entC_int).length = p * 2 := by rw [flatMap_length entC_int_len, List.length_take]; omega
      have hle : (l.length : Nat) * 2 ≤ nn := Nat.le_trans (Nat.mul_le_mul_right _ e4) e5
      obtain ⟨h32, st, E2⟩ := E.storesV (i + 1) (k := kr) (nn := nn) (t := TY.draft_entry_int) (fs := (l.take p).flatMap entC_int ++ [.int .i64 y.1]) (gs := [.int .i64 y.2] ++ ((l.drop (p + 1)).flatMap entC_int ++ js)) (by
        rw [hq, hsp, hly]; simp [entC_int, List.append_assoc]) [.int .i64 x] (by simp [isOne]) (p * 2 + 1) (by rw [List.length_append, htl]; rfl) (by simp; omega)
      refine ⟨_, rfl, .inl ⟨_, _, _, E.cell i A.p rfl, _, rfl, by omega, by omega, ?_⟩⟩
      rw [addr_more, addr_more, Nat.zero_add, Int.toNat_natCast]
      have hs : L.set i (some (k, drO_int (.slice (some ⟨kr, 0, none⟩) l.length c))) = L := by
        obtain ⟨hl, e⟩ := List.getElem?_eq_some_iff.1 A.p
        rw [← e]; exact List.set_getElem_self hl
      have hfin : Q true h32 := by
        refine hQ (.slice (some ⟨kr, 0, none⟩) l.length c) _ h32 (.inr ⟨kr, l.length, c, nn, js, rfl, rfl, ?_, e4, e5⟩) ?_
        · rw [hi, flatMap_length entC_int_len, List.length_set]
        · rw [hs, hi, flatMap_setR _ _ _ hpl]
          refine cast ?_ E2
          congr 6
          simp [entC_int, List.append_assoc]
      obtain ⟨_, h33, s1, s2⟩ := st
      cases s2
      exact ⟨_, s1, Fin.of hfin⟩
  · have hi := insD_new (v := x) K hf
    obtain ⟨a, m, c, rfl⟩ := Row.slice R
    have hm := DRow_int.len R
    subst hm
    have hfl := flatMap_length entC_int_len l
    refine ⟨_, rfl, .inl ⟨a, _, c, E.cell i A.p rfl, fun k15 a15 b15 h16 e16 => ?_⟩⟩
    have E1 := E.made a15 b15 e16
    refine C_slices_Insert_s_draft_entry_int_draft_entry_int.of ?_
    rw [ins_int_eq]
    refine insP_wp TK.slc_ent_int TK.zero_ent_int rfl (by omega) (by omega) TK.sl_ent_int TK.int_ent_int (by decide) E1 (i + 1) (up_app _ A.q) R ?_ L.length (kx := k15) (ys := entC_int (n, x)) (by rw [List.getElem?_append_right (Nat.le_refl _), Nat.sub_self]; rfl) rfl (entC_int_one _) (by omega) p K.le (by rw [hfl]; omega) ?_
    · intro y hy
      obtain ⟨z, _, hz⟩ := List.mem_flatMap.1 hy
      exact entC_int_one z y hz
    · intro a' c' r' h17 R' E2
      rw [List.set_append_left _ _ hil1] at E2
      have E3 := E2.pop
      have hp3 : (L.set (i + 1) r')[i]? = some (some (k, drO_int (.slice a l.length c))) := by rw [List.getElem?_set_ne (by omega)]; exact A.p
      obtain ⟨es, E4⟩ := E3.store i 0 (.slice a' (l.length + 1) c') hp3 rfl
      refine ⟨_, rfl, _, es, Fin.of (hQ (.slice a' (l.length + 1) c') r' _ ?_ ?_)⟩
      · rw [hi]
        unfold DRow_int
        have e1 : (l.flatMap entC_int).take (p * 2) = (l.take p).flatMap entC_int := take_flatMap entC_int_len l p
        have e2 : (l.flatMap entC_int).drop (p * 2) = (l.drop p).flatMap entC_int := by
          have h2 : l.flatMap entC_int = (l.take p).flatMap entC_int ++ (l.drop p).flatMap entC_int := by rw [← List.flatMap_append, List.take_append_drop]
          rw [h2, List.drop_left']
          rw [flatMap_length entC_int_len, List.length_take, Nat.min_eq_left K.le]
        rw [e1, e2] at R'
        rw [List.flatMap_append, List.flatMap_cons, ← List.append_assoc]
        exact R'
      · rw [List.set_comm _ _ (by omega)] at E4
        exact E4
theorem copy_int_wp {Q : Option Addr → Heap → Prop} (E : Keep B h0 L h) (A : DAt_int L i k v r) (R : DRow_int r v l) (hl : l.length ≤ 100000) (hQ : ∀ k' v' r' h', DRow_int r' v' l → Keep B h0 (L ++ drE_int k' v' r') h' → Q (some ⟨k', 0, none⟩) h') : C_draft_Draft_int_Copy B (some ⟨k, 0, none⟩) h Q := by
  refine C_draft_Draft_int_Copy.of ?_
  unfold S_draft_Draft_int_Copy
  obtain ⟨a, m, c, rfl⟩ := Row.slice R
  have hm := DRow_int.len R
  subst hm
  have hfl := flatMap_length entC_int_len l
  refine ⟨fun e => (by cases e), fun _ => ⟨_, rfl, .inl ⟨a, _, c, E.cell i A.p rfl, ?_⟩⟩⟩
  refine C_slices_Clone_s_draft_entry_int_draft_entry_int.of ?_
  unfold S_slices_Clone_s_draft_entry_int_draft_entry_int
  have swap : ∀ {h1 : Heap} {k1 : Nat} {v1 : Value} {r1 : Option (Nat × AObj)}, Keep B h0 (L ++ [r1] ++ [some (k1, drO_int v1)]) h1 → Keep B h0 (L ++ drE_int k1 v1 r1) h1 := fun {h1 k1 v1 r1} E1 => by
    have e0 : L ++ drE_int k1 v1 r1 = L ++ [some (k1, drO_int v1)] ++ [r1] := by simp [drE_int]
    rw [e0]
    have E2 := E1.swapLast
    exact E2
  refine ⟨fun hn => Fin.of ?_, fun hn => ?_⟩
  · intro k14 a14 b14 h15 e15
    have h0' : l = [] := by
      rcases R with ⟨_, e1, e2⟩ | ⟨kr, m', c', nn, js, e0, e1, e3, e4, e5⟩
      · rw [e2] at hfl; simp at hfl; exact List.length_eq_zero_iff.1 (by omega)
      · cases e1; cases hn
    subst h0'
    exact Fin.of (hQ k14 _ none h15 (Row.nil _ _) (swap (E.gap.made a14 b14 e15)))
  · intro k8 a8 b8 h9 e9
    have E1 := E.made a8 b8 e9
    have R1 : Row (some (k8, AObj.vec TY.draft_entry_int [] 0)) (.slice (some ⟨k8, 0, none⟩) 0 0) TY.draft_entry_int 2 [] := .inr ⟨k8, 0, 0, 0, [], rfl, rfl, by simp, Nat.le_refl _, by simp⟩
    have hsrc := Row.src (B := B) (h := h9) R (fun k o e => E1.at (i + 1) (by rw [up_app _ A.q, e])) entC_int_len (by omega) entC_int_one
    refine E1.pushS L.length (by rw [List.getElem?_append_right (Nat.le_refl _), Nat.sub_self]; rfl) R1 TK.slc_ent_int TK.zero_ent_int rfl (by omega) (by omega) TK.sl_ent_int hsrc (by rw [hfl]; simp; omega) fun a' m' c' r' h10 R' E2 => ⟨_, _, _, rfl, Fin.of ?_⟩
    intro k14 a14 b14 h15 e15
    rw [List.set_append_right _ _ (Nat.le_refl _), Nat.sub_self] at E2
    have E3 := E2.made a14 b14 e15
    exact Fin.of (hQ k14 _ r' h15 (by rw [List.nil_append] at R'; exact R') (swap E3))
theorem new_int {k4 : Nat} {h5 : Heap} (E : Keep B h0 L h) (a4 : h k4 = none) (b4 : B k4 = none) (e5 : h5 = h.set k4 (.vec TY.draft_Draft_int (plains [.slice none 0 0]) 1)) : Keep B h0 (L ++ drE_int k4 (.slice none 0 0) none) h5 ∧ DRow_int none (.slice none 0 0) [] := by
  have E1 := (E.made a4 b4 e5).gap
  rw [List.append_assoc] at E1
  exact ⟨E1, Row.nil _ _⟩
end
end Go.Proofs.Ythloobpjkeodgaa.H
