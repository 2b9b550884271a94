/- Drafts: iteration, nil ones, and the document's answer: contracts. No condition. -/
import Derived.Test.YthloobpjkeodgaaDs
import Derived.Test.YthloobpjkeodgaaHl
namespace Go.Proofs.Ythloobpjkeodgaa.H
open Go Go.RowKit
set_option linter.unusedVariables false
set_option maxRecDepth 100000

def dOf (l : List (Int × Int)) : List (Int × Int) := l.foldl (fun d x => insD d x.1 x.2) []
theorem dOf_snoc (l : List (Int × Int)) (x : Int × Int) : dOf (l ++ [x]) = insD (dOf l) x.1 x.2 := by unfold dOf; rw [List.foldl_append]; rfl
theorem dOf_take {l : List (Int × Int)} {j : Nat} {x : Int × Int} (h : l[j]? = some x) : dOf (l.take (j + 1)) = insD (dOf (l.take j)) x.1 x.2 := by
  obtain ⟨hq, rfl⟩ := List.getElem?_eq_some_iff.1 h
  rw [List.take_succ_eq_append_getElem hq, dOf_snoc]
theorem insFold_sort : ∀ (l d : List (Int × Int)), SortD d → SortD (l.foldl (fun d x => insD d x.1 x.2) d)
  | [], d, s => s
  | x :: l, d, s => insFold_sort l _ s.ins
theorem dOf_sort (l : List (Int × Int)) : SortD (dOf l) := insFold_sort l [] List.Pairwise.nil
theorem insFold_len : ∀ (l d : List (Int × Int)), (l.foldl (fun d x => insD d x.1 x.2) d).length ≤ d.length + l.length
  | [], d => Nat.le_refl _
  | x :: l, d => by
    have := insFold_len l (insD d x.1 x.2)
    have h2 := insD_len (l := d) (i := x.1) (v := x.2)
    simp only [List.foldl_cons, List.length_cons]; omega
theorem dOf_len (l : List (Int × Int)) : (dOf l).length ≤ l.length := by have := insFold_len l []; simpa [dOf] using this
theorem insFold_at : ∀ (l d : List (Int × Int)) (i : Int), (∀ x ∈ l, x.1 ≠ i) → atD (l.foldl (fun d x => insD d x.1 x.2) d) i = atD d i
  | [], d, i, _ => rfl
  | x :: l, d, i, h => by
    rw [List.foldl_cons, insFold_at l _ i (fun y hy => h y (by simp [hy])), atD_ins, if_neg (fun e => h x (by simp) e.symm)]
theorem dOf_at {l : List (Int × Int)} {j : Nat} {x : Int × Int} {i : Int} (h : l[j]? = some x) (e : x.1 = i) (hl : ∀ (q : Nat) (y : Int × Int), j < q → l[q]? = some y → y.1 ≠ i) : atD (dOf l) i = some x.2 := by
  have hs : dOf l = (l.drop (j + 1)).foldl (fun d x => insD d x.1 x.2) (dOf (l.take (j + 1))) := by
    unfold dOf; rw [← List.foldl_append, List.take_append_drop]
  rw [hs, insFold_at _ _ _ (fun y hy => ?_), dOf_take h, atD_ins, if_pos e.symm]
  obtain ⟨q, hq⟩ := List.getElem?_of_mem hy
  rw [List.getElem?_drop] at hq
  exact hl (j + 1 + q) y (by omega) hq
theorem dOf_none {l : List (Int × Int)} {i : Int} (hl : ∀ (q : Nat) (y : Int × Int), l[q]? = some y → y.1 ≠ i) : atD (dOf l) i = none := by
  unfold dOf
  rw [insFold_at _ _ _ (fun y hy => ?_)]
  · rfl
  · obtain ⟨q, hq⟩ := List.getElem?_of_mem hy
    exact hl q y hq
def intC (n : Int) : List Value := [.int .i64 n]
theorem intC_len (n : Int) : (intC n).length = 1 := rfl
theorem intC_one (n : Int) : ∀ y ∈ intC n, isOne y = true := fun y hy => by simp [intC] at hy; subst hy; rfl
theorem TK.slc_int : slcB PG TY.s_int = some (TY.int, 1, 8) := by kernel_rfl
theorem TK.zero_int : zeroB PG TY.int = some [.int .i64 0] := by kernel_rfl
theorem TK.sl_int : slT PG TY.s_int = true := by kernel_rfl
def numsD (l : List (Int × Int)) : List Int := l.map (·.1)
theorem numsD_len (l : List (Int × Int)) : (numsD l).length = l.length := by simp [numsD]
theorem numsD_ins {l : List (Int × Int)} {i v : Int} {p : Nat} (K : PosD l i p) : numsD (insD l i v) = if foundD l p i = true then numsD l else (numsD l).take p ++ [i] ++ (numsD l).drop p := by
  unfold numsD
  split
  · rename_i hf
    obtain ⟨x, hx, e⟩ := foundD_some hf
    obtain ⟨hp, rfl⟩ := List.getElem?_eq_some_iff.1 hx
    rw [insD_old K hf, List.map_set]
    have : (l.map (·.1)).set p i = l.map (·.1) := by
      have h2 : i = (l.map (·.1))[p]'(by simpa using hp) := by simp [e]
      conv => lhs; rw [h2]
      exact List.set_getElem_self _
    exact this
  · rename_i hf
    rw [insD_new K (by simpa using hf), List.map_append, List.map_cons, List.map_take, List.map_drop]
    simp [List.append_assoc]
def dallF (k3 : Nat) : Value := Value.func (.func FN.draft_Draft_int_All_1) #[] #[(Value.pointer (some ⟨k3, 0, none⟩))]
def encD (x : Int × Int) : List Value := [.int .i64 x.1, .int .i64 x.2]
def dN (k3 : Nat) (h : Heap) : Prop := h k3 = some (.vec TY.p_draft_Draft_int [.plain (.pointer none)] 1)
theorem dN_ins {k3 : Nat} : Ins (dN k3) := by
  rintro h k o hk g1
  exact Heap.get_new hk g1
def dG (k3 k : Nat) (v : Value) (r : Option (Nat × AObj)) (h : Heap) : Prop :=
  h k3 = some (.vec TY.p_draft_Draft_int [.plain (.pointer (some ⟨k, 0, none⟩))] 1) ∧ h k = some (drO_int v) ∧ ∀ k o, r = some (k, o) → h k = some o
theorem dG_ins {k3 kk : Nat} {v : Value} {r : Option (Nat × AObj)} : Ins (dG k3 kk v r) := by
  rintro h k o hk ⟨g1, g2, g3⟩
  exact ⟨Heap.get_new hk g1, Heap.get_new hk g2, fun k' o' e => Heap.get_new hk (g3 k' o' e)⟩

section
variable {B : RO} {h0 h h' : Heap} {L : List (Option (Nat × AObj))} {r : Option (Nat × AObj)} {i k k3 : Nat} {a : Option Addr} {m c : Nat} {v : Value} {l : List (Int × Int)} {n : Int}
theorem dall_wp {p : Option Addr} {Q : Value → Heap → Prop} (hQ : ∀ k, h k = none → B k = none → Q (dallF k) (h.set k (.vec TY.p_draft_Draft_int [.plain (.pointer p)] 1))) : C_draft_Draft_int_All B p h Q := by
  refine C_draft_Draft_int_All.of ?_
  unfold S_draft_Draft_int_All
  intro k a1 b1 h4 e4
  subst e4
  exact Fin.of (hQ k a1 b1)
theorem dall_nil : Iter PG B (dallF k3) (([] : List (Int × Int)).map encD) (dN k3) := by
  refine ⟨_, _, _, rfl, TG.draft_Draft_int_All_1, fun y J X h hy hG h0 hcall => ?_⟩
  have main : C_draft_Draft_int_All_1 B y ⟨k3, 0, none⟩ h (fun h' => Fin B h' (fun h'' => J (([] : List (Int × Int)).map encD).length h'' ∨ X h'')) := by
    refine C_draft_Draft_int_All_1.of ?_
    unfold S_draft_Draft_int_All_1
    have g1 := hG 0 h h0
    exact ⟨_, cellH_vec g1 rfl, fun _ => Fin.of (Fin.of (.inl h0)), fun hn => absurd rfl hn⟩
  exact Spec.mono main fun v h' q => q.2
theorem dall_iter (R : DRow_int r v l) (hlen : l.length ≤ 100000) : Iter PG B (dallF k3) (l.map encD) (dG k3 k v r) := by
  refine ⟨_, _, _, rfl, TG.draft_Draft_int_All_1, fun y J X h hy hG h0 hcall => ?_⟩
  have main : C_draft_Draft_int_All_1 B y ⟨k3, 0, none⟩ h (fun h' => Fin B h' (fun h'' => J (l.map encD).length h'' ∨ X h'')) := by
    refine C_draft_Draft_int_All_1.of ?_
    unfold S_draft_Draft_int_All_1
    obtain ⟨a, m, c, rfl⟩ := Row.slice R
    obtain ⟨rfl, hrd⟩ := Row.rd (B := B) R entC_int_len (by omega)
    obtain ⟨g1, g2, g3⟩ := hG 0 h h0
    refine ⟨_, cellH_vec g1 rfl, fun e => (by cases e), fun _ => ⟨_, cellH_vec g1 rfl, _, rfl, .inl ⟨a, _, c, cellH_vec g2 rfl, ?_⟩⟩⟩
    refine ⟨fun i m' h' => ∃ j : Nat, j ≤ l.length ∧ i = j ∧ m' = l.length - j ∧ J j h', l.length, Fin.of ⟨0, by omega, rfl, by omega, h0⟩, ?_⟩
    rintro _ _ h13 ⟨j, hj, rfl, rfl, hJ⟩
    obtain ⟨g1, g2, g3⟩ := hG j h13 hJ
    refine ⟨fun hlt => ?_, fun hge => Fin.of ?_⟩
    · have hj' : j < l.length := by omega
      have hx := List.getElem?_eq_getElem hj'
      generalize l[j] = x at hx
      obtain ⟨A, e, _, q⟩ := hrd h13 g3 j _ hx
      refine ⟨A, e, by omega, hlt, x.1, x.2, q, fun k24 a24 b24 h25 e25 => ?_⟩
      obtain ⟨g25, l25, -⟩ := Heap.made a24 e25
      refine ⟨_, stores_whole g25 rfl (by simp) (by simp [isOne]) (by simp), ?_⟩
      generalize e26 : h25.set k24 _ = h26
      obtain ⟨g26, -, -⟩ := Heap.put e26
      refine ⟨_, cellH_vec g26 rfl, _, cellH_vec g26 rfl, ?_⟩
      have w : Wk B h13 h26 := by
        rw [← e26, e25, Heap.set_set]; exact Wk.new a24 b24
      have hc := hcall j h13 (encD x) (by rw [List.getElem?_map, hx]; rfl) hJ
      refine CallV.mono ?_ (hc.weaken w)
      rintro v h27 ⟨h28, t1, h29, t2, hor⟩
      rcases hor with ⟨rfl, hJ'⟩ | ⟨rfl, hX⟩
      · refine ⟨true, rfl, fun _ => ⟨h29, t1.trans t2, l.length - (j + 1), by omega, j + 1, by omega, ?_, rfl, hJ'⟩, fun e => by cases e⟩
        rw [w64 (by omega) (by omega)]; omega
      · exact ⟨false, rfl, fun e => (by cases e), fun _ => ⟨h29, t1.trans t2, Fin.of (.inr hX)⟩⟩
    · have : j = l.length := by omega
      subst this
      refine Fin.of (.inl ?_)
      rw [List.length_map]
      exact hJ
  exact Spec.mono main fun v h' q => q.2
theorem dput_nil {x : Int} {Q : Bool → Heap → Prop} (hQ : Q false h) : C_draft_Draft_int_Put B none n x h Q := by
  refine C_draft_Draft_int_Put.of ?_
  unfold S_draft_Draft_int_Put
  exact ⟨fun _ => Fin.of hQ, fun hn => absurd rfl hn⟩
theorem dcopy_nil {Q : Option Addr → Heap → Prop} (hQ : Q none h) : C_draft_Draft_int_Copy B none h Q := by
  refine C_draft_Draft_int_Copy.of ?_
  unfold S_draft_Draft_int_Copy
  exact ⟨fun _ => Fin.of hQ, fun hn => absurd rfl hn⟩
/-! The document's answer. -/
theorem ref13_get_wp {Q : Int → Bool → Heap → Prop} (hr : Reads B h a 2 entC_int l) (hl : l.length ≤ 1000000) (hQ : Q ((atD (dOf l) n).getD 0) (atD (dOf l) n).isSome h) : C_countermandref13_Get B a l.length c n h Q := by
  refine C_countermandref13_Get.of ?_
  unfold S_countermandref13_Get
  have hw0 : IntKind.wrap .i64 (((l.length : Nat) : Int) - 1) = ((l.length : Nat) : Int) - 1 := w64 (by omega) (by omega)
  rw [hw0]
  refine ⟨fun i m h' => ∃ j : Nat, j ≤ l.length ∧ i = (j : Int) - 1 ∧ m = j ∧ (∀ (q : Nat) (y : Int × Int), j ≤ q → l[q]? = some y → y.1 ≠ n) ∧ h = h', l.length, Fin.of ⟨l.length, by omega, rfl, rfl, fun q y hq hy => by have := (List.getElem?_eq_some_iff.1 hy).1; omega, rfl⟩, ?_⟩
  rintro _ mm _ ⟨j, hj, rfl, hmm, hno, rfl⟩
  refine ⟨fun hge => ?_, fun hlt => Fin.of ?_⟩
  · obtain ⟨j, rfl⟩ : ∃ p, j = p + 1 := ⟨j - 1, by omega⟩
    have e0 : (((j + 1 : Nat) : Int) - 1) = ((j : Nat) : Int) := by omega
    rw [e0]
    have hj' : j < l.length := by omega
    have hx := List.getElem?_eq_getElem hj'
    generalize l[j] = x at hx
    obtain ⟨A, e, _, q1, q2, _⟩ := hr j _ hx
    refine ⟨A, e, by omega, by omega, x.1, q1, fun he => ⟨A, e, by omega, by omega, x.2, q2, Fin.of ?_⟩, fun hne => Fin.of ⟨j, by omega, j, by omega, w64 (by omega) (by omega), rfl, fun q y hq hy => ?_, rfl⟩⟩
    · rw [dOf_at hx he (fun q y hq hy => hno q y (by omega) hy)] at hQ
      exact hQ
    · by_cases h : q = j
      · subst h; rw [hx] at hy; cases hy; exact hne
      · exact hno q y (by omega) hy
  · rw [dOf_none (fun q y hy => hno q y (by omega) hy)] at hQ
    exact hQ
theorem ref13_numbers_wp {Q : Option Addr → Nat → Nat → Heap → Prop} (hr : Reads B h a 2 entC_int l) (hl : l.length ≤ 100000) (hQ : ∀ a' c' r' h', Row r' (.slice a' (dOf l).length c') TY.int 1 ((numsD (dOf l)).flatMap intC) → Keep B h [r'] h' → Q a' (dOf l).length c' h') : C_countermandref13_Numbers B a l.length c h Q := by
  refine C_countermandref13_Numbers.of ?_
  unfold S_countermandref13_Numbers
  refine ⟨fun a' n' c' i m h' => ∃ (j : Nat) (r : Option (Nat × AObj)), j ≤ l.length ∧ i = j ∧ m = l.length - j ∧ Row r (.slice a' n' c') TY.int 1 ((numsD (dOf (l.take j))).flatMap intC) ∧ Keep B h [r] h', l.length, Fin.of ⟨0, none, by omega, rfl, by omega, Row.nil _ _, (Keep.nil B h).gap⟩, ?_⟩
  rintro a7 n8 c9 _ _ h11 ⟨j, r, hj, rfl, rfl, R, E⟩
  obtain ⟨rfl, hrd⟩ := Row.rd (B := B) R intC_len (by omega)
  have hnl := numsD_len (dOf (l.take j))
  have hdl := dOf_len (l.take j)
  rw [List.length_take] at hdl
  refine ⟨fun hlt => ?_, fun hge => Fin.of ?_⟩
  · have hj' : j < l.length := by omega
    have hw : IntKind.wrap .i64 ((j : Int) + 1) = ((j + 1 : Nat) : Int) := by rw [w64 (by omega) (by omega)]; omega
    have hx := List.getElem?_eq_getElem hj'
    generalize l[j] = x at hx
    have hds := dOf_sort (l.take j)
    have hdt := dOf_take hx
    obtain ⟨A, e1, e3, e4⟩ := (hr.over E.le E.nw) j x hx
    refine ⟨A, e1, by omega, hlt, x.1, x.2, e4, fun k21 a21 b21 h22 e22 => ?_⟩
    have E1 := E.made a21 b21 e22
    refine ⟨_, stores_whole E1.last rfl (by simp) (by simp [isOne]) (by simp), ?_⟩
    have E2 : Keep B h [r, some (k21, .vec TY.countermandref13_Put (plains [.int .i64 x.1, .int .i64 x.2]) 2)] _ := E1.putLast (.vec TY.countermandref13_Put (plains [.int .i64 x.1, .int .i64 x.2]) 2)
    generalize dOf (l.take j) = d at R hrd hnl hdl hds hdt
    have nget : ∀ (q : Nat) (y : Int × Int), d[q]? = some y → (numsD d)[q]? = some y.1 := fun q y hy => by simp [numsD, hy]
    -- the end of a round
    have skip : ∀ {p : Nat} {h2 : Heap}, PosD d x.1 p → foundD d p x.1 = true → Keep B h [r, some (k21, .vec TY.countermandref13_Put (plains [.int .i64 x.1, .int .i64 x.2]) 2)] h2 → S_countermandref13_Numbers_J2 B a l.length c a7 (numsD d).length c9 j (l.length - j) (fun a' n' c' i m h' => ∃ (j : Nat) (r : Option (Nat × AObj)), j ≤ l.length ∧ i = j ∧ m = l.length - j ∧ Row r (.slice a' n' c') TY.int 1 ((numsD (dOf (l.take j))).flatMap intC) ∧ Keep B h [r] h') k21 (p : Nat) false h2 Q := fun {p h2} K hf E3 => by
      unfold S_countermandref13_Numbers_J2
      refine ⟨fun e => (by cases e), fun _ => Fin.of ⟨l.length - (j + 1), by omega, j + 1, r, by omega, hw, rfl, ?_, E3.take 1⟩⟩
      rw [hdt, numsD_ins K, if_pos hf]; exact R
    have put : ∀ {p : Nat} {h2 : Heap}, PosD d x.1 p → foundD d p x.1 = false → Keep B h [r, some (k21, .vec TY.countermandref13_Put (plains [.int .i64 x.1, .int .i64 x.2]) 2)] h2 → S_countermandref13_Numbers_J2 B a l.length c a7 (numsD d).length c9 j (l.length - j) (fun a' n' c' i m h' => ∃ (j : Nat) (r : Option (Nat × AObj)), j ≤ l.length ∧ i = j ∧ m = l.length - j ∧ Row r (.slice a' n' c') TY.int 1 ((numsD (dOf (l.take j))).flatMap intC) ∧ Keep B h [r] h') k21 (p : Nat) true h2 Q := fun {p h2} KP hf E3 => by
      unfold S_countermandref13_Numbers_J2
      have hpl := KP.le
      have hcap := Row.cap R
      refine ⟨fun _ => ⟨by omega, by omega, by omega, _, E3.cell 1 rfl rfl, by omega, by omega, by omega, ?_⟩, fun e => by cases e⟩
      simp only [Int.toNat_natCast, Int.toNat_zero, Nat.sub_zero, optAddZ]
      have Rc := R.cut (n := p) (by omega)
      rw [Nat.mul_one, ← Nat.mul_one p, take_flatMap intC_len, Nat.mul_one] at Rc
      have hrd2 := Row.rd_drop (B := B) R intC_len (by omega) p
      have hlt : ((numsD d).take p).length = p := by rw [List.length_take]; omega
      have hdr : ((numsD d).drop p).length = (numsD d).length - p := List.length_drop
      have R0 : ∀ kk : Nat, Row (some (kk, AObj.vec TY.int [] 0)) (.slice (some ⟨kk, 0, none⟩) 0 0) TY.int 1 [] := fun kk => .inr ⟨kk, 0, 0, 0, [], rfl, rfl, by simp, Nat.le_refl _, by simp⟩
      have srcA : ∀ {M : List (Option (Nat × AObj))} {h3 : Heap}, Keep B h M h3 → M[0]? = some r → Src B h3 (.slice a7 p c9) 1 p (((numsD d).take p).flatMap intC) := fun {M h3} E4 hM => by
        exact Row.src (B := B) (h := h3) Rc (fun k o e => E4.at 0 (by rw [hM, e])) intC_len (by omega) intC_one
      have srcC : ∀ {M : List (Option (Nat × AObj))} {h3 : Heap}, Keep B h M h3 → M[0]? = some r → Src B h3 (.slice (if c9 = p then a7 else Option.map (fun x => Addr.add x (p * 1)) a7) ((numsD d).length - p) (c9 - p)) 1 ((numsD d).length - p) (((numsD d).drop p).flatMap intC) := fun {M h3} E4 hM => by
        have := (hrd2 h3 (fun k o e => E4.at 0 (by rw [hM, e]))).src (c := c9 - p) intC_len intC_one
        rw [hdr] at this; exact this
      have stA : ∀ {M : List (Option (Nat × AObj))} {h3 : Heap} {q kk : Nat} {K : Value → Heap → Prop}, Keep B h M h3 → M[0]? = some r → M[q]? = some (some (kk, AObj.vec TY.int [] 0)) → (∀ a' m' c' r' h', Row r' (.slice a' m' c') TY.int 1 (((numsD d).take p).flatMap intC) → Keep B h (M.set q r') h' → K (.slice a' m' c') h') → semH PG B (Builtin.append_ #[TY.s_int, TY.s_int] TY.s_int #[.slice (some ⟨kk, 0, none⟩) 0 0, .slice a7 p c9]) h3 K := fun {M h3 q kk K} E4 hM hq hK =>
        E4.pushS q hq (R0 kk) TK.slc_int TK.zero_int rfl (by omega) (by omega) TK.sl_int (srcA E4 hM) (by rw [flatMap_length intC_len, hlt]; simp; omega) fun a' m' c' r' h' R' E' => hK a' m' c' r' h' (by rw [List.nil_append] at R'; exact R') E'
      have stB : ∀ {M : List (Option (Nat × AObj))} {h3 : Heap} {q t kk m' c' : Nat} {a' : Option Addr} {r' : Option (Nat × AObj)} {K : Value → Heap → Prop}, Keep B h M h3 → M[q]? = some r' → Row r' (.slice a' m' c') TY.int 1 (((numsD d).take p).flatMap intC) → M[t]? = some (some (kk, AObj.vec TY.int (plains [.int .i64 x.1]) 1)) → (∀ a' m' c' r' h', Row r' (.slice a' m' c') TY.int 1 (((numsD d).take p ++ [x.1]).flatMap intC) → Keep B h (M.set q r') h' → K (.slice a' m' c') h') → semH PG B (Builtin.append_ #[TY.s_int, TY.s_int] TY.s_int #[.slice a' m' c', .slice (some ⟨kk, 0, none⟩) 1 1]) h3 K := fun {M h3 q t kk m' c' a' r' K} E4 hq R' ht hK =>
        E4.pushS q (n := 1) (ys := [.int .i64 x.1]) hq R' TK.slc_int TK.zero_int rfl (by omega) (by omega) TK.sl_int ⟨rfl, by simp [isOne], .inl ⟨_, _, rfl, E4.cell t ht rfl, trivial⟩⟩ (by rw [flatMap_length intC_len, hlt]; simp; omega) fun a'' m'' c'' r'' h'' R'' E'' => hK _ _ _ _ _ (by rw [List.flatMap_append]; exact R'') E''
      have stC : ∀ {M : List (Option (Nat × AObj))} {h3 : Heap} {q m' c' : Nat} {a' : Option Addr} {r' : Option (Nat × AObj)} {K : Value → Heap → Prop}, Keep B h M h3 → M[0]? = some r → M[q]? = some r' → Row r' (.slice a' m' c') TY.int 1 (((numsD d).take p ++ [x.1]).flatMap intC) → (∀ a' m' c' r' h', Row r' (.slice a' m' c') TY.int 1 ((numsD (insD d x.1 x.2)).flatMap intC) → Keep B h (M.set q r') h' → K (.slice a' m' c') h') → semH PG B (Builtin.append_ #[TY.s_int, TY.s_int] TY.s_int #[.slice a' m' c', .slice (if c9 = p then a7 else Option.map (fun x => Addr.add x (p * 1)) a7) ((numsD d).length - p) (c9 - p)]) h3 K := fun {M h3 q m' c' a' r' K} E4 hM hq R' hK =>
        E4.pushS q hq R' TK.slc_int TK.zero_int rfl (by omega) (by omega) TK.sl_int (srcC E4 hM) (by rw [flatMap_length intC_len, flatMap_length intC_len, List.length_append, hlt, hdr]; simp; omega) fun a'' m'' c'' r'' h'' R'' E'' => hK _ _ _ _ _ (by rw [numsD_ins KP, if_neg (by rw [hf]; simp), List.flatMap_append]; exact R'') E''
      have fin : ∀ {a' : Option Addr} {m' c' : Nat} {r' : Option (Nat × AObj)} {h3 : Heap}, Row r' (.slice a' m' c') TY.int 1 ((numsD (insD d x.1 x.2)).flatMap intC) → Keep B h [r'] h3 → Fin B h3 (fun h' => ∃ m'', m'' < l.length - j ∧ ∃ (j' : Nat) (r : Option (Nat × AObj)), j' ≤ l.length ∧ IntKind.wrap .i64 ((j : Int) + 1) = j' ∧ m'' = l.length - j' ∧ Row r (.slice a' m' c') TY.int 1 ((numsD (dOf (l.take j'))).flatMap intC) ∧ Keep B h [r] h') := fun {a' m' c' r' h3} R' E4 =>
        Fin.of ⟨l.length - (j + 1), by omega, j + 1, r', by omega, hw, rfl, by rw [hdt]; exact R', E4⟩
      refine ⟨fun k45 a45 b45 h46 e46 => ?_, fun k84 a84 b84 h85 e85 => ?_⟩
      · have F := E3.made a45 b45 e46
        refine ⟨F.cell 1 rfl rfl, ?_, fun k66 a66 b66 h67 e67 => ?_⟩
        · refine stA F rfl (q := 2) rfl fun a' m' c' r1 h1 R1 F1 => ⟨_, _, _, rfl, F1.cell 1 rfl rfl, fun k53 a53 b53 h54 e54 => ?_⟩
          have F2 := F1.made a53 b53 e54
          refine ⟨F2.cell 1 rfl rfl, stB F2 (q := 2) (t := 3) rfl R1 rfl fun a' m' c' r2 h2 R2 F3 => ⟨_, _, _, rfl, F3.cell 1 rfl rfl, stC F3 rfl (q := 2) rfl R2 fun a' m' c' r3 h3 R3 F4 => ⟨_, _, _, rfl, F4.cell 1 rfl rfl, fin R3 (F4.pick 2 rfl)⟩⟩⟩
        · have F2 := F.made a66 b66 e67
          refine ⟨F2.cell 1 rfl rfl, stA F2 rfl (q := 2) rfl fun a' m' c' r1 h1 R1 F3 => ⟨_, _, _, rfl, F3.cell 1 rfl rfl, stB F3 (q := 2) (t := 3) rfl R1 rfl fun a' m' c' r2 h2 R2 F4 => ⟨_, _, _, rfl, F4.cell 1 rfl rfl, stC F4 rfl (q := 2) rfl R2 fun a' m' c' r3 h3 R3 F5 => ⟨_, _, _, rfl, F5.cell 1 rfl rfl, fin R3 (F5.pick 2 rfl)⟩⟩⟩⟩
      · have F := E3.made a84 b84 e85
        refine ⟨F.cell 1 rfl rfl, fun k87 a87 b87 h88 e88 => ?_⟩
        have F2 := F.made a87 b87 e88
        refine ⟨F2.cell 1 rfl rfl, stA F2 rfl (q := 3) rfl fun a' m' c' r1 h1 R1 F3 => ⟨_, _, _, rfl, F3.cell 1 rfl rfl, stB F3 (q := 3) (t := 2) rfl R1 rfl fun a' m' c' r2 h2 R2 F4 => ⟨_, _, _, rfl, F4.cell 1 rfl rfl, stC F4 rfl (q := 3) rfl R2 fun a' m' c' r3 h3 R3 F5 => ⟨_, _, _, rfl, F5.cell 1 rfl rfl, fin R3 (F5.pick 3 rfl)⟩⟩⟩⟩
    have done : ∀ {p : Nat} {h2 : Heap}, PosD d x.1 p → Keep B h [r, some (k21, .vec TY.countermandref13_Put (plains [.int .i64 x.1, .int .i64 x.2]) 2)] h2 → S_countermandref13_Numbers_J1 B a l.length c a7 (numsD d).length c9 j (l.length - j) (fun a' n' c' i m h' => ∃ (j : Nat) (r : Option (Nat × AObj)), j ≤ l.length ∧ i = j ∧ m = l.length - j ∧ Row r (.slice a' n' c') TY.int 1 ((numsD (dOf (l.take j))).flatMap intC) ∧ Keep B h [r] h') k21 (p : Nat) h2 Q := fun {p h2} K E3 => by
      unfold S_countermandref13_Numbers_J1
      refine ⟨fun he => Fin.of (put K ?_ E3), fun hne => ?_⟩
      · rw [foundD, List.getElem?_eq_none (by omega)]
      · have hp : p < d.length := by have := K.le; omega
        have hy := List.getElem?_eq_getElem hp
        generalize d[p] = y at hy
        obtain ⟨A', e1', _, e4'⟩ := hrd h2 (fun k o e => E3.at 0 (by rw [← e]; rfl)) p y.1 (nget p y hy)
        have hfd : foundD d p x.1 = (y.1 == x.1) := by rw [foundD, hy]
        refine ⟨A', e1', by omega, by omega, y.1, e4'.1, _, E3.cell 1 rfl rfl, fun he => Fin.of (skip K (by rw [hfd]; simpa using he) E3), fun hne2 => Fin.of (put K (by rw [hfd]; simpa using hne2) E3)⟩
    refine ⟨fun i m h' => ∃ p : Nat, p ≤ d.length ∧ i = p ∧ m = d.length - p ∧ (∀ (q : Nat) (y : Int × Int), q < p → d[q]? = some y → y.1 < x.1) ∧ Keep B h [r, some (k21, .vec TY.countermandref13_Put (plains [.int .i64 x.1, .int .i64 x.2]) 2)] h', d.length, Fin.of ⟨0, by omega, rfl, by omega, fun q y hq => by omega, E2⟩, ?_⟩
    clear E2 E1 E
    rintro _ _ h112 ⟨p, hp, rfl, rfl, hlo, E3⟩
    refine ⟨fun hlt2 => ?_, fun hge => Fin.of (done ⟨hp, hlo, fun q y hq hy => ?_⟩ E3)⟩
    · have hp' : p < d.length := by omega
      have hy := List.getElem?_eq_getElem hp'
      generalize d[p] = y at hy
      have hwp : IntKind.wrap .i64 ((p : Int) + 1) = ((p + 1 : Nat) : Int) := by rw [w64 (by omega) (by omega)]; omega
      obtain ⟨A', e1', _, e4'⟩ := hrd h112 (fun k o e => E3.at 0 (by rw [← e]; rfl)) p y.1 (nget p y hy)
      refine ⟨A', e1', by omega, by omega, y.1, e4'.1, _, E3.cell 1 rfl rfl, fun hlt3 => Fin.of ⟨d.length - (p + 1), by omega, p + 1, by omega, hwp, rfl, fun q z hq hz => ?_, E3⟩, fun hge => Fin.of (done ⟨hp, hlo, fun q z hq hz => ?_⟩ E3)⟩
      · by_cases h : q = p
        · subst h; rw [hy] at hz; cases hz; exact hlt3
        · exact hlo q z (by omega) hz
      · by_cases h : q = p
        · subst h; rw [hy] at hz; cases hz; omega
        · have := hds.get (show p < q by omega) hy hz; omega
    · have := (List.getElem?_eq_some_iff.1 hy).1; omega
  · have : j = l.length := by omega
    subst this
    rw [List.take_length] at R
    have := hQ a7 c9 r h11
    rw [List.take_length, numsD_len]
    rw [numsD_len] at R
    exact this R E
end
end Go.Proofs.Ythloobpjkeodgaa.H
