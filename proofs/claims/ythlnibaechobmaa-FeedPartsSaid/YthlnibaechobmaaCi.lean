/- What the functions of a row of cells do (things of the kind 'int'): contracts. No condition. -/
import Derived.Test.YthlnibaechobmaaXeT
import Derived.Test.YthlnibaechobmaaHo
import Derived.Test.YthlnibaechobmaaMa
namespace Go.Proofs.Ythlnibaechobmaa.H
open Go
set_option linter.unusedVariables false
set_option maxRecDepth 100000

theorem TK.slc_slot_int : slcB PG TY.s_cell_slot_int = some (TY.cell_slot_int, 2, 16) := by kernel_rfl
theorem TK.zero_slot_int : zeroB PG TY.cell_slot_int = some [.int .i64 0, .int .i64 0] := by kernel_rfl
theorem TK.sl_slot_int : slT PG TY.s_cell_slot_int = true := by kernel_rfl
theorem TK.ne_slot_int : TY.cell_slot_int ≠ TY.cell_Row_int := by decide

def slotC_int (x : Int × Int) : List Value := [.int .i64 x.1, .int .i64 x.2]
theorem slotC_int_len (x : Int × Int) : (slotC_int x).length = 2 := rfl
/-- A row of cells. -/
def rowO_int (l : List (Int × Int)) : AObj := .vec TY.cell_Row_int [.own TY.cell_slot_int 2 (l.flatMap slotC_int)] 1
/-- .. its slots lying open. -/
def RowP_int (h : Heap) (b : Nat) (a : Option Addr) (m c : Nat) (l : List (Int × Int)) : Prop := FP h b 0 TY.cell_slot_int 2 (l.flatMap slotC_int) a m c
/-- .. in either form. -/
def RowV_int (h : Heap) (b : Nat) (l : List (Int × Int)) : Prop := FV h b 0 TY.cell_slot_int 2 (l.flatMap slotC_int)
theorem rowO_int_v {h : Heap} {b : Nat} {l : List (Int × Int)} (hb : h b = some (rowO_int l)) : RowV_int h b l := .inl ⟨_, _, _, hb, rfl⟩
theorem RowP_int.v {h : Heap} {b m c : Nat} {a : Option Addr} {l : List (Int × Int)} (R : RowP_int h b a m c l) : RowV_int h b l := FP.fv R
/-- A thing, and its version; nothing and 0, if there is none such. -/
def cellAt_int (l : List (Int × Int)) (i : Int) : Int × Int := if 0 ≤ i then (l[i.toNat]?).getD (0, 0) else (0, 0)

section
variable {B : RO} {h : Heap} {b : Nat} {a : Option Addr} {m c : Nat} {l : List (Int × Int)}

theorem Opened.row_int {v : Value} {h1 : Heap} (ho : Opened B h b TY.cell_Row_int [.own TY.cell_slot_int 2 (l.flatMap slotC_int)] 1 0 TY.cell_slot_int 2 (l.flatMap slotC_int) v h1) : ∃ a m c, v = .slice a m c ∧ RowP_int h1 b a m c l := by
  obtain ⟨a, m, c, rfl⟩ := ho.slice
  exact ⟨a, m, c, rfl, ⟨_, _, _, ho.blk, rfl⟩, ho.row⟩
theorem RowP_int.len (R : RowP_int h b a m c l) : m = l.length := (R.2.reads (B := fun _ => none) slotC_int_len (by omega)).1
theorem RowP_int.at (R : RowP_int h b a m c l) : ∀ i x, l[i]? = some x → ∃ A, a = some A ∧ CellsAt B h (A.add (i * 2)) 0 (slotC_int x) := fun i x hx =>
  let ⟨A, e, _, q⟩ := (R.2.reads (B := B) slotC_int_len (by omega)).2 i x hx
  ⟨A, e, q⟩
theorem cellAt_int_in {i : Int} (h0 : 0 ≤ i) (h1 : i.toNat < l.length) : cellAt_int l i = l[i.toNat] := by
  rw [cellAt_int, if_pos h0, List.getElem?_eq_getElem h1]; rfl
theorem cellAt_int_out {i : Int} (hn : ¬ (0 ≤ i ∧ i < (l.length : Int))) : cellAt_int l i = (0, 0) := by
  unfold cellAt_int
  split
  · rw [List.getElem?_eq_none (by omega)]; rfl
  · rfl

theorem is_p_int {i : Int} {Q : Bool → Heap → Prop} (R : RowP_int h b a m c l) (hQ : Q (decide (0 ≤ i ∧ i < (l.length : Int))) h) : C_cell_Row_int_is B (some ⟨b, 0, none⟩) i h Q := by
  refine C_cell_Row_int_is.of ?_
  unfold S_cell_Row_int_is
  have hm := R.len
  refine ⟨(fun e => by cases e), fun _ => ⟨fun h0 => ⟨_, rfl, .inl ⟨a, m, c, R.1.cell, Fin.of ?_⟩⟩, fun h0 => Fin.of ?_⟩⟩
  · have : decide (i < (m : Int)) = decide (0 ≤ i ∧ i < (l.length : Int)) := by
      rw [decide_eq_decide, hm]; exact ⟨fun x => ⟨by omega, x⟩, fun x => x.2⟩
    rw [this]; exact hQ
  · rw [decide_eq_false (by omega)] at hQ; exact hQ
theorem is_nil_int {i : Int} {Q : Bool → Heap → Prop} (hQ : Q false h) : C_cell_Row_int_is B none i h Q := by
  refine C_cell_Row_int_is.of ?_
  unfold S_cell_Row_int_is
  exact ⟨fun _ => Fin.of hQ, fun e => absurd rfl e⟩
theorem get_p_int {i : Int} {Q : Int → Int → Heap → Prop} (R : RowP_int h b a m c l) (hQ : Q (cellAt_int l i).1 (cellAt_int l i).2 h) : C_cell_Row_int_Get B (some ⟨b, 0, none⟩) i h Q := by
  refine C_cell_Row_int_Get.of ?_
  unfold S_cell_Row_int_Get
  have hm := R.len
  refine is_p_int R ⟨fun hT => ?_, fun hF => Fin.of ?_⟩
  · rw [decide_eq_true_eq] at hT
    have hi : i.toNat < l.length := by omega
    rw [cellAt_int_in hT.1 hi] at hQ
    obtain ⟨A, e, q⟩ := R.at (B := B) i.toNat _ (List.getElem?_eq_getElem hi)
    refine ⟨_, rfl, a, m, c, R.1.cell, A, e, hT.1, by omega, _, q.1, _, rfl, a, m, c, R.1.cell, A, e, hT.1, by omega, _, q.2.1, Fin.of hQ⟩
  · rw [decide_eq_false_iff_not] at hF
    rw [cellAt_int_out hF] at hQ
    exact hQ
theorem get_nil_int {i : Int} {Q : Int → Int → Heap → Prop} (hQ : Q 0 0 h) : C_cell_Row_int_Get B none i h Q := by
  refine C_cell_Row_int_Get.of ?_
  unfold S_cell_Row_int_Get
  exact is_nil_int ⟨fun e => (by cases e), fun _ => Fin.of hQ⟩
theorem get_wp_int {i : Int} {Q : Int → Int → Heap → Prop} (hv : RowV_int h b l) (hQ : Q (cellAt_int l i).1 (cellAt_int l i).2 h) : C_cell_Row_int_Get B (some ⟨b, 0, none⟩) i h Q := by
  refine FV.spec hv fun a m c h1 sh => ?_
  exact Spec.fin (Spec.mono (get_p_int (Q := fun x y h' => Fin B h' (Q x y)) sh.1 (Fin.ent sh.2.1 (Fin.of hQ))) fun v h' ⟨x, y, e, q⟩ => q.imp fun h'' q' => ⟨x, y, e, q'⟩)
theorem version_nil_int {i : Int} {Q : Int → Heap → Prop} (hQ : Q 0 h) : C_cell_Row_int_Version B none i h Q := by
  refine C_cell_Row_int_Version.of ?_
  unfold S_cell_Row_int_Version
  exact get_nil_int (Fin.of hQ)
theorem version_wp_int {i : Int} {Q : Int → Heap → Prop} (hb : RowV_int h b l) (hQ : Q (cellAt_int l i).2 h) : C_cell_Row_int_Version B (some ⟨b, 0, none⟩) i h Q := by
  refine C_cell_Row_int_Version.of ?_
  unfold S_cell_Row_int_Version
  exact get_wp_int hb (Fin.of hQ)

theorem is_wp_int {i : Int} {Q : Bool → Heap → Prop} (hb : RowV_int h b l) (hQ : Q (decide (0 ≤ i ∧ i < (l.length : Int))) h) : C_cell_Row_int_is B (some ⟨b, 0, none⟩) i h Q := by
  refine C_cell_Row_int_is.of ?_
  unfold S_cell_Row_int_is
  refine ⟨(fun e => by cases e), fun _ => ⟨fun h0 => ⟨_, rfl, FV.ld hb fun a m c h1 sh => Fin.ent sh.2.1 (Fin.of ?_)⟩, fun h0 => Fin.of ?_⟩⟩
  · have hm := RowP_int.len sh.1
    have : decide (i < (m : Int)) = decide (0 ≤ i ∧ i < (l.length : Int)) := by
      rw [decide_eq_decide, hm]; exact ⟨fun x => ⟨by omega, x⟩, fun x => x.2⟩
    rw [this]; exact hQ
  · rw [decide_eq_false (by omega)] at hQ; exact hQ

theorem flatMap_set {α : Type} {cells : α → List Value} (x : α) : ∀ (l : List α) (i : Nat) (hi : i < l.length), (l.set i x).flatMap cells = (l.take i).flatMap cells ++ cells x ++ (l.drop (i + 1)).flatMap cells
  | [], i, hi => by simp at hi
  | y :: l, 0, _ => by simp
  | y :: l, i + 1, hi => by
    simp only [List.set_cons_succ, List.flatMap_cons, List.take_succ_cons, List.drop_succ_cons]
    rw [flatMap_set x l i (by simpa using hi)]
    simp [List.append_assoc]
theorem flatMap_split {α : Type} {cells : α → List Value} (l : List α) (i : Nat) (hi : i < l.length) : l.flatMap cells = (l.take i).flatMap cells ++ (cells l[i] ++ (l.drop (i + 1)).flatMap cells) := by
  conv => lhs; rw [← List.take_append_drop i l, List.drop_eq_getElem_cons hi]
  rw [List.flatMap_append, List.flatMap_cons]

theorem set_wp_int {i : Int} {x : Int} {v : Int} {Q : Bool → Heap → Prop} (hb : h b = some (rowO_int l))
    (hT : 0 ≤ i → i.toNat < l.length → Q true (h.set b (rowO_int (l.set i.toNat (x, v))))) (hF : ¬ (0 ≤ i ∧ i < (l.length : Int)) → Q false h) : C_cell_Row_int_Set B (some ⟨b, 0, none⟩) i x v h Q := by
  refine C_cell_Row_int_Set.of ?_
  unfold S_cell_Row_int_Set
  refine is_wp_int (rowO_int_v hb) ⟨fun hD => ?_, fun hD => Fin.of (hF (by simpa using hD))⟩
  rw [decide_eq_true_eq] at hD
  have hi : i.toNat < l.length := by omega
  refine ⟨_, rfl, .inr ⟨_, _, _, _, _, _, rfl, hb, rfl, fun a m c h1 ho => ?_⟩⟩
  obtain ⟨a', m', c', e, R⟩ := ho.row_int
  cases e
  have hm := R.len
  have hbk := ho.blk
  rcases R.2 with ⟨e1, e2⟩ | ⟨k, m2, c2, nn, js, e1, e2, e3, e4, e5⟩
  · have := flatMap_length slotC_int_len l
    rw [e2] at this; simp at this; omega
  · cases e1
    have hlen := flatMap_length slotC_int_len (l.take i.toNat)
    rw [List.length_take, Nat.min_eq_left (by omega)] at hlen
    rw [flatMap_split l _ hi, List.append_assoc, List.append_assoc] at e2
    have hall := flatMap_length slotC_int_len l
    obtain ⟨h', s1, _, s3⟩ := StoresAt.over (slotC_int (x, v)) h1 (i.toNat * 2) 0 _ _ (by simp [slotC_int, isOne]) e2 (by rw [hlen]; omega) (by rw [slotC_int_len]; omega)
    have s3 := s3 (by simp [slotC_int])
    have hadd : Addr.add ⟨k, 0, none⟩ (i.toNat * 2) = ⟨k, i.toNat * 2, none⟩ := by
      unfold Addr.add; split
      · rename_i hz; rw [hz]
      · simp
    refine ⟨⟨k, 0, none⟩, rfl, hD.1, by omega, h', by rw [hadd]; exact s1, ?_⟩
    have hdrop : (slotC_int l[i.toNat] ++ ((l.drop (i.toNat + 1)).flatMap slotC_int ++ js)).drop (slotC_int (x, v)).length = (l.drop (i.toNat + 1)).flatMap slotC_int ++ js := by
      rw [slotC_int_len, ← slotC_int_len l[i.toNat], List.drop_left]
    rw [hdrop, ← List.append_assoc, ← flatMap_set (cells := slotC_int) (x, v) l _ hi] at s3
    have hkb : k ≠ b := (ho.new k _ _ rfl).2
    have hset : ((l.set i.toNat (x, v)).flatMap slotC_int).length = (l.flatMap slotC_int).length := by
      rw [flatMap_length slotC_int_len, flatMap_length slotC_int_len, List.length_set]
    have hcl := Ent.close_row (B := B) (h0 := h) (h := h') (b := b) (n := 1) (i := 0) (t := TY.cell_Row_int) (e := TY.cell_slot_int) (sz := 2) (fs := plains [Value.slice (some ⟨k, 0, none⟩) m c]) (v := .slice (some ⟨k, 0, none⟩) m c) (xs := (l.set i.toNat (x, v)).flatMap slotC_int)
      (by
        intro c' o hc' hh
        rw [s3, Heap.set_ne _ _ _ _ (fun e => by
          have := (ho.new k _ _ rfl).1
          rw [e, this] at hh; cases hh)]
        exact ho.sub c' o hc' hh)
      (by rw [s3, Heap.set_ne _ _ _ _ (Ne.symm hkb)]; exact hbk)
      rfl
      (.inr ⟨k, m, c, nn, js, rfl, by rw [s3, Heap.set_same], by rw [hset]; exact e3, e4, e5⟩)
      (fun k' m' c' e => ho.new k' m' c' e)
    exact Fin.ent hcl (Fin.of (hT hD.1 hi))
theorem set_nil_int {i : Int} {x : Int} {v : Int} {Q : Bool → Heap → Prop} (hQ : Q false h) : C_cell_Row_int_Set B none i x v h Q := by
  refine C_cell_Row_int_Set.of ?_
  unfold S_cell_Row_int_Set
  exact is_nil_int ⟨fun e => (by cases e), fun _ => Fin.of hQ⟩

theorem new_wp_int {n : Int} {x : Int} {Q : Option Addr → Heap → Prop} (hn : n ≤ 1000000) (hQ : ∀ k, h k = none → B k = none → Q (some ⟨k, 0, none⟩) (h.set k (rowO_int (List.replicate n.toNat (x, 0))))) : C_cell_New_int B n x h Q := by
  refine C_cell_New_int.of ?_
  unfold S_cell_New_int
  intro k a1 b1 h5 e5
  obtain ⟨g5, -, -⟩ := Heap.made a1 e5
  have hcl : Ent B h5 (h.set k (rowO_int [])) := by
    have := Ent.close_nil (B := B) (e := TY.cell_slot_int) (sz := 2) (i := 0) g5 rfl
    rw [e5, Heap.set_set] at this
    rw [e5]
    exact this
  refine ⟨fun i m h' => ∃ j : Nat, (j : Int) ≤ max n 0 ∧ i = j ∧ m = n.toNat - j ∧ h' = h.set k (rowO_int (List.replicate j (x, 0))), n.toNat, Fin.ent hcl (Fin.of ⟨0, by omega, rfl, by omega, rfl⟩), ?_⟩
  rintro _ _ _ ⟨j, hj, rfl, rfl, rfl⟩
  refine ⟨fun hlt => ?_, fun hge => ?_⟩
  · have hl := flatMap_length slotC_int_len (List.replicate j (x, (0 : Int)))
    rw [List.length_replicate] at hl
    refine app_own (len := 1) (ys := slotC_int (x, 0)) TK.slc_slot_int TK.zero_slot_int rfl (by omega) (by omega) TK.sl_slot_int (Heap.set_same _ _ _) rfl rfl (by simp [slotC_int, isOne]) (by rw [hl, slotC_int_len]; omega) ?_
    intro a' n' c' h3 h4 s1 s2
    refine ⟨a', n', c', rfl, h4, s1, Fin.ent s2 (Fin.of ⟨n.toNat - (j + 1), by omega, j + 1, by omega, ?_, rfl, ?_⟩)⟩
    · rw [w64 (by omega) (by omega)]; omega
    · rw [Heap.set_set]
      unfold rowO_int
      rw [List.replicate_succ', List.flatMap_append]
      simp
  · have : j = n.toNat := by omega
    subst this
    exact Fin.of (hQ k a1 b1)
end
end Go.Proofs.Ythlnibaechobmaa.H
