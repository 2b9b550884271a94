/- What the law's proof stands on, part 4. No condition. -/
import Derived.Test.YtgldgabefiialaaG3
namespace Go.Proofs.Ytgldgabefiialaa.H
open Go
set_option linter.unusedVariables false
set_option maxRecDepth 100000
theorem TK.slc_slot_int : slcB PG TY.s_cell_slot_int = some (TY.cell_slot_int, 2, 16) := by kernel_rfl
theorem TK.zero_slot_int : zeroB PG TY.cell_slot_int = some [.int .i64 0, .int .i64 0] := by kernel_rfl
theorem TK.sl_slot_int : slT PG TY.s_cell_slot_int = true := by kernel_rfl
def slotC_int (x : Int × Int) : List Value := [.int .i64 x.1, .int .i64 x.2]
theorem slotC_int_len (x : Int × Int) : (slotC_int x).length = 2 := rfl
def rowO_int (l : List (Int × Int)) : AObj := .vec TY.cell_Row_int [.own TY.cell_slot_int 2 (l.flatMap slotC_int)] 1
def RowP_int (h : Heap) (b : Nat) (a : Option Addr) (m c : Nat) (l : List (Int × Int)) : Prop := FP h b 0 TY.cell_slot_int 2 (l.flatMap slotC_int) a m c
def RowV_int (h : Heap) (b : Nat) (l : List (Int × Int)) : Prop := FV h b 0 TY.cell_slot_int 2 (l.flatMap slotC_int)
theorem rowO_int_v {h : Heap} {b : Nat} {l : List (Int × Int)} (hb : h b = some (rowO_int l)) : RowV_int h b l := .inl ⟨_, _, _, hb, rfl⟩
theorem RowP_int.v {h : Heap} {b m c : Nat} {a : Option Addr} {l : List (Int × Int)} (R : RowP_int h b a m c l) : RowV_int h b l := FP.fv R
def cellAt_int (l : List (Int × Int)) (i : Int) : Int × Int := if 0 ≤ i then (l[i.toNat]?).getD (0, 0) else (0, 0)
section
variable {B : RO} {h : Heap} {b : Nat} {a : Option Addr} {m c : Nat} {l : List (Int × Int)}
theorem Opened.row_int {v : Value} {h1 : Heap} (ho : Opened B h b TY.cell_Row_int [.own TY.cell_slot_int 2 (l.flatMap slotC_int)] 1 0 TY.cell_slot_int 2 (l.flatMap slotC_int) v h1) : ∃ a m c, v = .slice a m c ∧ RowP_int h1 b a m c l := by
  obtain ⟨a, m, c, rfl⟩ := ho.slice
  exact ⟨a, m, c, rfl, ⟨_, _, _, ho.blk, rfl⟩, ho.row⟩
theorem RowP_int.len (R : RowP_int h b a m c l) : m = l.length := (R.2.reads (B := fun _ => none) slotC_int_len (by omega)).1
theorem RowP_int.at (R : RowP_int h b a m c l) : ∀ i x, l[i]? = some x → ∃ A, a = some A ∧ CellsAt B h (A.add (i * 2)) 0 (slotC_int x) := fun i x hx =>
  let ⟨A, e, _, q⟩ := (R.2.reads (B := B) slotC_int_len (by omega)).2 i x hx
  ⟨A, e, q⟩
theorem cellAt_int_in {i : Int} (h0 : 0 ≤ i) (h1 : i.toNat < l.length) : cellAt_int l i = l[i.toNat] := by
  rw [cellAt_int, if_pos h0, List.getElem?_eq_getElem h1]; rfl
theorem cellAt_int_out {i : Int} (hn : ¬ (0 ≤ i ∧ i < (l.length : Int))) : cellAt_int l i = (0, 0) := by
  unfold cellAt_int
  split
  · rw [List.getElem?_eq_none (by omega)]; rfl
  · rfl
theorem is_p_int {i : Int} {Q : Bool → Heap → Prop} (R : RowP_int h b a m c l) (hQ : Q (decide (0 ≤ i ∧ i < (l.length : Int))) h) : C_cell_Row_int_is B (some ⟨b, 0, none⟩) i h Q := by
  refine C_cell_Row_int_is.of ?_
  unfold S_cell_Row_int_is
  have hm := R.len
  refine ⟨(fun e => by cases e), fun _ => ⟨fun h0 => ⟨_, rfl, .inl ⟨a, m, c, R.1.cell, Fin.of ?_⟩⟩, fun h0 => Fin.of ?_⟩⟩
  · have : decide (i < (m : Int)) = decide (0 ≤ i ∧ i < (l.length : Int)) := by
      rw [decide_eq_decide, hm]; exact ⟨fun x => ⟨by omega, x⟩, fun x => x.2⟩
    rw [this]; exact hQ
  · rw [decide_eq_false (by omega)] at hQ; exact hQ
theorem get_p_int {i : Int} {Q : Int → Int → Heap → Prop} (R : RowP_int h b a m c l) (hQ : Q (cellAt_int l i).1 (cellAt_int l i).2 h) : C_cell_Row_int_Get B (some ⟨b, 0, none⟩) i h Q := by
  refine C_cell_Row_int_Get.of ?_
  unfold S_cell_Row_int_Get
  have hm := R.len
  refine is_p_int R ⟨fun hT => ?_, fun hF => Fin.of ?_⟩
  · rw [decide_eq_true_eq] at hT
    have hi : i.toNat < l.length := by omega
    rw [cellAt_int_in hT.1 hi] at hQ
    obtain ⟨A, e, q⟩ := R.at (B := B) i.toNat _ (List.getElem?_eq_getElem hi)
    refine ⟨_, rfl, a, m, c, R.1.cell, A, e, hT.1, by omega, _, q.1, _, rfl, a, m, c, R.1.cell, A, e, hT.1, by omega, _, q.2.1, Fin.of hQ⟩
  · rw [decide_eq_false_iff_not] at hF
    rw [cellAt_int_out hF] at hQ
    exact hQ
theorem get_wp_int {i : Int} {Q : Int → Int → Heap → Prop} (hv : RowV_int h b l) (hQ : Q (cellAt_int l i).1 (cellAt_int l i).2 h) : C_cell_Row_int_Get B (some ⟨b, 0, none⟩) i h Q := by
  refine FV.spec hv fun a m c h1 sh => ?_
  exact Spec.fin (Spec.mono (get_p_int (Q := fun x y h' => Fin B h' (Q x y)) sh.1 (Fin.ent sh.2.1 (Fin.of hQ))) fun v h' ⟨x, y, e, q⟩ => q.imp fun h'' q' => ⟨x, y, e, q'⟩)
theorem version_wp_int {i : Int} {Q : Int → Heap → Prop} (hb : RowV_int h b l) (hQ : Q (cellAt_int l i).2 h) : C_cell_Row_int_Version B (some ⟨b, 0, none⟩) i h Q := by
  refine C_cell_Row_int_Version.of ?_
  unfold S_cell_Row_int_Version
  exact get_wp_int hb (Fin.of hQ)
theorem is_wp_int {i : Int} {Q : Bool → Heap → Prop} (hb : RowV_int h b l) (hQ : Q (decide (0 ≤ i ∧ i < (l.length : Int))) h) : C_cell_Row_int_is B (some ⟨b, 0, none⟩) i h Q := by
  refine C_cell_Row_int_is.of ?_
  unfold S_cell_Row_int_is
  refine ⟨(fun e => by cases e), fun _ => ⟨fun h0 => ⟨_, rfl, FV.ld hb fun a m c h1 sh => Fin.ent sh.2.1 (Fin.of ?_)⟩, fun h0 => Fin.of ?_⟩⟩
  · have hm := RowP_int.len sh.1
    have : decide (i < (m : Int)) = decide (0 ≤ i ∧ i < (l.length : Int)) := by
      rw [decide_eq_decide, hm]; exact ⟨fun x => ⟨by omega, x⟩, fun x => x.2⟩
    rw [this]; exact hQ
  · rw [decide_eq_false (by omega)] at hQ; exact hQ
theorem flatMap_set {α : Type} {cells : α → List Value} (x : α) : ∀ (l : List α) (i : Nat) (hi : i < l.length), (l.set i x).flatMap cells = (l.take i).flatMap cells ++ cells x ++ (l.drop (i + 1)).flatMap cells
  | [], i, hi => by simp at hi
  | y :: l, 0, _ => by simp
  | y :: l, i + 1, hi => by
    simp only [List.set_cons_succ, List.flatMap_cons, List.take_succ_cons, List.drop_succ_cons]
    rw [flatMap_set x l i (by simpa using hi)]
    simp [List.append_assoc]
theorem flatMap_split {α : Type} {cells : α → List Value} (l : List α) (i : Nat) (hi : i < l.length) : l.flatMap cells = (l.take i).flatMap cells ++ (cells l[i] ++ (l.drop (i + 1)).flatMap cells) := by
  conv => lhs; rw [← List.take_append_drop i l, List.drop_eq_getElem_cons hi]
  rw [List.flatMap_append, List.flatMap_cons]
theorem set_wp_int {i : Int} {x : Int} {v : Int} {Q : Bool → Heap → Prop} (hb : h b = some (rowO_int l))
    (hT : 0 ≤ i → i.toNat < l.length → Q true (h.set b (rowO_int (l.set i.toNat (x, v))))) (hF : ¬ (0 ≤ i ∧ i < (l.length : Int)) → Q false h) : C_cell_Row_int_Set B (some ⟨b, 0, none⟩) i x v h Q := by
  refine C_cell_Row_int_Set.of ?_
  unfold S_cell_Row_int_Set
  refine is_wp_int (rowO_int_v hb) ⟨fun hD => ?_, fun hD => Fin.of (hF (by simpa using hD))⟩
  rw [decide_eq_true_eq] at hD
  have hi : i.toNat < l.length := by omega
  refine ⟨_, rfl, .inr ⟨_, _, _, _, _, _, rfl, hb, rfl, fun a m c h1 ho => ?_⟩⟩
  obtain ⟨a', m', c', e, R⟩ := ho.row_int
  cases e
  have hm := R.len
  have hbk := ho.blk
  rcases R.2 with ⟨e1, e2⟩ | ⟨k, m2, c2, nn, js, e1, e2, e3, e4, e5⟩
  · have := flatMap_length slotC_int_len l
    rw [e2] at this; simp at this; omega
  · cases e1
    have hlen := flatMap_length slotC_int_len (l.take i.toNat)
    rw [List.length_take, Nat.min_eq_left (by omega)] at hlen
    rw [flatMap_split l _ hi, List.append_assoc, List.append_assoc] at e2
    have hall := flatMap_length slotC_int_len l
    obtain ⟨h', s1, _, s3⟩ := StoresAt.over (slotC_int (x, v)) h1 (i.toNat * 2) 0 _ _ (by simp [slotC_int, isOne]) e2 (by rw [hlen]; omega) (by rw [slotC_int_len]; omega)
    have s3 := s3 (by simp [slotC_int])
    have hadd : Addr.add ⟨k, 0, none⟩ (i.toNat * 2) = ⟨k, i.toNat * 2, none⟩ := by
      unfold Addr.add; split
      · rename_i hz; rw [hz]
      · simp
    refine ⟨⟨k, 0, none⟩, rfl, hD.1, by omega, h', by rw [hadd]; exact s1, ?_⟩
    have hdrop : (slotC_int l[i.toNat] ++ ((l.drop (i.toNat + 1)).flatMap slotC_int ++ js)).drop (slotC_int (x, v)).length = (l.drop (i.toNat + 1)).flatMap slotC_int ++ js := by
      rw [slotC_int_len, ← slotC_int_len l[i.toNat], List.drop_left]
    rw [hdrop, ← List.append_assoc, ← flatMap_set (cells := slotC_int) (x, v) l _ hi] at s3
    have hkb : k ≠ b := (ho.new k _ _ rfl).2
    have hset : ((l.set i.toNat (x, v)).flatMap slotC_int).length = (l.flatMap slotC_int).length := by
      rw [flatMap_length slotC_int_len, flatMap_length slotC_int_len, List.length_set]
    have hcl := Ent.close_row (B := B) (h0 := h) (h := h') (b := b) (n := 1) (i := 0) (t := TY.cell_Row_int) (e := TY.cell_slot_int) (sz := 2) (fs := plains [Value.slice (some ⟨k, 0, none⟩) m c]) (v := .slice (some ⟨k, 0, none⟩) m c) (xs := (l.set i.toNat (x, v)).flatMap slotC_int)
      (by
        intro c' o hc' hh
        rw [s3, Heap.set_ne _ _ _ _ (fun e => by
          have := (ho.new k _ _ rfl).1
          rw [e, this] at hh; cases hh)]
        exact ho.sub c' o hc' hh)
      (by rw [s3, Heap.set_ne _ _ _ _ (Ne.symm hkb)]; exact hbk)
      rfl
      (.inr ⟨k, m, c, nn, js, rfl, by rw [s3, Heap.set_same], by rw [hset]; exact e3, e4, e5⟩)
      (fun k' m' c' e => ho.new k' m' c' e)
    exact Fin.ent hcl (Fin.of (hT hD.1 hi))
theorem new_wp_int {n : Int} {x : Int} {Q : Option Addr → Heap → Prop} (hn : n ≤ 1000000) (hQ : ∀ k, h k = none → B k = none → Q (some ⟨k, 0, none⟩) (h.set k (rowO_int (List.replicate n.toNat (x, 0))))) : C_cell_New_int B n x h Q := by
  refine C_cell_New_int.of ?_
  unfold S_cell_New_int
  intro k a1 b1 h5 e5
  obtain ⟨g5, -, -⟩ := Heap.made a1 e5
  have hcl : Ent B h5 (h.set k (rowO_int [])) := by
    have := Ent.close_nil (B := B) (e := TY.cell_slot_int) (sz := 2) (i := 0) g5 rfl
    rw [e5, Heap.set_set] at this
    rw [e5]
    exact this
  refine ⟨fun i m h' => ∃ j : Nat, (j : Int) ≤ max n 0 ∧ i = j ∧ m = n.toNat - j ∧ h' = h.set k (rowO_int (List.replicate j (x, 0))), n.toNat, Fin.ent hcl (Fin.of ⟨0, by omega, rfl, by omega, rfl⟩), ?_⟩
  rintro _ _ _ ⟨j, hj, rfl, rfl, rfl⟩
  refine ⟨fun hlt => ?_, fun hge => ?_⟩
  · have hl := flatMap_length slotC_int_len (List.replicate j (x, (0 : Int)))
    rw [List.length_replicate] at hl
    refine app_own (len := 1) (ys := slotC_int (x, 0)) TK.slc_slot_int TK.zero_slot_int rfl (by omega) (by omega) TK.sl_slot_int (Heap.set_same _ _ _) rfl rfl (by simp [slotC_int, isOne]) (by rw [hl, slotC_int_len]; omega) ?_
    intro a' n' c' h3 h4 s1 s2
    refine ⟨a', n', c', rfl, h4, s1, Fin.ent s2 (Fin.of ⟨n.toNat - (j + 1), by omega, j + 1, by omega, ?_, rfl, ?_⟩)⟩
    · rw [w64 (by omega) (by omega)]; omega
    · rw [Heap.set_set]
      unfold rowO_int
      rw [List.replicate_succ', List.flatMap_append]
      simp
  · have : j = n.toNat := by omega
    subst this
    exact Fin.of (hQ k a1 b1)
end
end Go.Proofs.Ytgldgabefiialaa.H
namespace Go.Proofs.Ytgldgabefiialaa.H
open Go
set_option linter.unusedVariables false
set_option maxRecDepth 100000
theorem plains_mid {α : Type} (f : α → Value) (a b : List Value) (l : List α) (i : Nat) (x : α) (hx : l[i]? = some x) : (plains (a ++ (l.map f ++ b)))[a.length + i]? = some (.plain (f x)) := by
  obtain ⟨hi, rfl⟩ := List.getElem?_eq_some_iff.1 hx
  simp only [plains, List.getElem?_map]
  rw [List.getElem?_append_right (by omega), show a.length + i - a.length = i by omega, List.getElem?_append_left (by simpa using hi), List.getElem?_map, hx]
  rfl
theorem plains_mid_set {α : Type} (f : α → Value) (a b : List Value) (l : List α) (i : Nat) (x : α) (hi : i < l.length) : (plains (a ++ (l.map f ++ b))).set (a.length + i) (.plain (f x)) = plains (a ++ ((l.set i x).map f ++ b)) := by
  unfold plains
  rw [← List.map_set, List.set_append_right _ _ (by omega), show a.length + i - a.length = i by omega, List.set_append_left _ _ (by simpa using hi), List.map_set]
theorem byteAt_bound (s : ByteArray) (i : Nat) : 0 ≤ byteAt s i ∧ byteAt s i < 256 := by
  unfold byteAt
  split
  · rename_i h
    have := (s[i]).toNat_lt
    omega
  · omega
def feedC (ts : List ByteArray) (kR : Nat) : List Value := ts.map Value.string ++ [.pointer (some ⟨kR, 0, none⟩)]
def feedO (ts : List ByteArray) (kR : Nat) : AObj := .vec TY.feed_Feed (plains (feedC ts kR)) 4
def textAt (ts : List ByteArray) (i : Int) : ByteArray := if 0 ≤ i ∧ i < 3 then (ts[i.toNat]?).getD (ByteArray.mk #[]) else ByteArray.mk #[]
def arrE (ts : List ByteArray) (i : Int) (s : ByteArray) : Int := if 0 ≤ i ∧ i < 3 then (if (textAt ts i).size + s.size > 64 then 6 else 0) else 1
def arrT (ts : List ByteArray) (i : Int) (s : ByteArray) : List ByteArray := if arrE ts i s = 0 then ts.set i.toNat (textAt ts i ++ s) else ts
def takeB (ts : List ByteArray) (l : List (Int × Int)) (i place : Int) : Bool := decide (0 ≤ i ∧ i < 3 ∧ (cellAt_int l i).1 ≤ place ∧ place ≤ (textAt ts i).size)
def takeL (ts : List ByteArray) (l : List (Int × Int)) (i place v : Int) : List (Int × Int) := if takeB ts l i place = true then l.set i.toNat (place, v) else l
def leftOf (ts : List ByteArray) (l : List (Int × Int)) (i : Int) : ByteArray := (textAt ts i).extract (cellAt_int l i).1.toNat (textAt ts i).size
def atOf (ts : List ByteArray) (i place : Int) : Int := if 0 ≤ i ∧ i < 3 ∧ 0 ≤ place ∧ place < (textAt ts i).size then byteAt (textAt ts i) place.toNat else -1
structure FeedOk (ts : List ByteArray) (l : List (Int × Int)) : Prop where
  t3 : ts.length = 3
  l3 : l.length = 3
  size : ∀ i, (textAt ts i).size ≤ 64
  place : ∀ i, 0 ≤ (cellAt_int l i).1 ∧ (cellAt_int l i).1 ≤ (textAt ts i).size
theorem textAt_in {ts : List ByteArray} {i : Int} (h3 : ts.length = 3) (h0 : 0 ≤ i) (h1 : i < 3) : ts[i.toNat]? = some (textAt ts i) := by
  rw [textAt, if_pos ⟨h0, h1⟩, List.getElem?_eq_getElem (by omega)]; rfl
theorem textAt_set {ts : List ByteArray} {i : Int} (h3 : ts.length = 3) (h0 : 0 ≤ i) (h1 : i < 3) (s : ByteArray) (j : Int) : textAt (ts.set i.toNat s) j = if j = i then s else textAt ts j := by
  unfold textAt
  by_cases hj : 0 ≤ j ∧ j < 3
  · rw [if_pos hj, if_pos hj]
    by_cases he : j = i
    · subst he
      rw [if_pos rfl, List.getElem?_set_self (by omega)]; rfl
    · rw [if_neg he, List.getElem?_set_ne (by omega)]
  · rw [if_neg hj, if_neg hj, if_neg (fun he => hj (by omega))]
theorem cellAt_int_set {l : List (Int × Int)} {i : Int} (h0 : 0 ≤ i) (h1 : i < l.length) (x : Int × Int) (j : Int) : cellAt_int (l.set i.toNat x) j = if j = i then x else cellAt_int l j := by
  unfold cellAt_int
  by_cases hj : 0 ≤ j
  · rw [if_pos hj, if_pos hj]
    by_cases he : j = i
    · subst he
      rw [if_pos rfl, List.getElem?_set_self (by omega)]; rfl
    · rw [if_neg he, List.getElem?_set_ne (by omega)]
  · rw [if_neg hj, if_neg hj, if_neg (fun he => hj (by omega))]
theorem FeedOk.arrive {ts : List ByteArray} {l : List (Int × Int)} (k : FeedOk ts l) (i : Int) (s : ByteArray) : FeedOk (arrT ts i s) l := by
  unfold arrT
  split
  · rename_i h
    have hi : 0 ≤ i ∧ i < 3 := by
      unfold arrE at h; split at h
      · assumption
      · cases h
    have hs : (textAt ts i).size + s.size ≤ 64 := by
      unfold arrE at h; rw [if_pos hi] at h; split at h
      · cases h
      · omega
    refine ⟨by rw [List.length_set]; exact k.t3, k.l3, fun j => ?_, fun j => ?_⟩
    · rw [textAt_set k.t3 hi.1 hi.2]; split
      · rw [ByteArray.size_append]; exact hs
      · exact k.size j
    · have := k.place j
      rw [textAt_set k.t3 hi.1 hi.2]; split
      · rename_i e; subst e; rw [ByteArray.size_append]; omega
      · exact this
  · exact k
theorem FeedOk.take {ts : List ByteArray} {l : List (Int × Int)} (k : FeedOk ts l) (i place v : Int) : FeedOk ts (takeL ts l i place v) := by
  unfold takeL
  split
  · rename_i h
    unfold takeB at h
    rw [decide_eq_true_eq] at h
    obtain ⟨h0, h1, h2, h3⟩ := h
    have l3 := k.l3
    refine ⟨k.t3, by rw [List.length_set]; exact k.l3, k.size, fun j => ?_⟩
    rw [cellAt_int_set h0 (by omega)]
    have := k.place i
    split
    · rename_i e; subst e; exact ⟨by omega, h3⟩
    · exact k.place j
  · exact k
section
variable {B : RO} {h : Heap} {kF kR kM : Nat} {ts : List ByteArray} {l l' : List (Int × Int)}
theorem feed_text (hf : h kF = some (feedO ts kR)) (h3 : ts.length = 3) {i : Int} (h0 : 0 ≤ i) (h1 : i < 3) : cellH B h (Addr.add ⟨kF, 0, none⟩ (i.toNat * 1)) = some (.string (textAt ts i)) := by
  rw [addr_more, Nat.mul_one]
  exact cellH_vec hf (plains_mid Value.string [] _ ts i.toNat _ (textAt_in h3 h0 h1))
theorem feed_ptr (hf : h kF = some (feedO ts kR)) (h3 : ts.length = 3) : cellH B h (Addr.add ⟨kF, 0, none⟩ 3) = some (.pointer (some ⟨kR, 0, none⟩)) := by
  rw [addr_more, Nat.zero_add]
  refine cellH_vec hf ?_
  have := plains_mid (fun x : Option Addr => Value.pointer x) (ts.map Value.string) [] [some ⟨kR, 0, none⟩] 0 _ rfl
  rw [List.length_map, h3] at this
  exact this
theorem feed_is_wp {i : Int} {p : Addr} {Q : Bool → Heap → Prop} (hQ : Q (decide (0 ≤ i ∧ i < 3)) h) : C_feed_Feed_is B (some p) i h Q := by
  refine C_feed_Feed_is.of ?_
  unfold S_feed_Feed_is
  refine ⟨fun e => (by cases e), fun _ => ⟨fun h0 => Fin.of ?_, fun h0 => Fin.of ?_⟩⟩
  · have : decide (i < 3) = decide (0 ≤ i ∧ i < 3) := by rw [decide_eq_decide]; exact ⟨fun x => ⟨by omega, x⟩, fun x => x.2⟩
    rw [this]; exact hQ
  · rw [decide_eq_false (by omega)] at hQ; exact hQ
theorem feedC_set (ts : List ByteArray) (kR i : Nat) (x : ByteArray) (hi : i < ts.length) : (plains (feedC ts kR)).set i (.plain (.string x)) = plains (feedC (ts.set i x) kR) := by
  have := plains_mid_set Value.string [] [.pointer (some ⟨kR, 0, none⟩)] ts i x hi
  simp only [List.length_nil, Nat.zero_add, List.nil_append] at this
  exact this
theorem feed_put (hf : h kF = some (feedO ts kR)) (h3 : ts.length = 3) {i : Int} (h0 : 0 ≤ i) (h1 : i < 3) (x : ByteArray) : storeH h (Addr.add ⟨kF, 0, none⟩ (i.toNat * 1)) (.string x) = some (h.set kF (feedO (ts.set i.toNat x) kR)) := by
  have hg : (plains (feedC ts kR))[i.toNat]? = some (.plain (.string (textAt ts i))) := by
    have := plains_mid Value.string [] [.pointer (some ⟨kR, 0, none⟩)] ts i.toNat _ (textAt_in h3 h0 h1)
    simp only [List.length_nil, Nat.zero_add, List.nil_append] at this
    exact this
  have hst := storeH_vec (v := .string x) hf hg
  rw [feedC_set ts kR i.toNat x (by omega)] at hst
  rw [addr_more, Nat.mul_one, Nat.zero_add]
  exact hst
theorem feed_arrive_wp {i : Int} {s : ByteArray} {Q : Int → Heap → Prop} (k : FeedOk ts l) (hf : h kF = some (feedO ts kR)) (hs : s.size ≤ 1000000000) (hQ : Q (arrE ts i s) (h.set kF (feedO (arrT ts i s) kR))) : C_feed_Feed_Arrive B (some ⟨kF, 0, none⟩) i s h Q := by
  refine C_feed_Feed_Arrive.of ?_
  unfold S_feed_Feed_Arrive
  refine ⟨fun e => (by cases e), fun _ => feed_is_wp ⟨fun hT => ?_, fun hF => Fin.of ?_⟩⟩
  · rw [decide_eq_true_eq] at hT
    have ht := k.size i
    refine ⟨_, rfl, hT.1, hT.2, _, feed_text hf k.t3 hT.1 hT.2, ?_⟩
    rw [w64 (by omega) (by omega)]
    refine ⟨fun hgt => Fin.of ?_, fun hle => Fin.of ?_⟩
    · have e : arrE ts i s = 6 := by rw [arrE, if_pos hT, if_pos (by omega)]
      rw [arrT, e, if_neg (by decide), Heap.set_self _ _ _ hf] at hQ
      exact hQ
    · unfold S_feed_Feed_Arrive_J1
      have e : arrE ts i s = 0 := by rw [arrE, if_pos hT, if_neg (by omega)]
      rw [arrT, e, if_pos rfl] at hQ
      exact ⟨_, rfl, hT.1, hT.2, _, feed_text hf k.t3 hT.1 hT.2, by omega, _, rfl, hT.1, hT.2, _, feed_put hf k.t3 hT.1 hT.2 _, Fin.of hQ⟩
  · rw [decide_eq_false_iff_not] at hF
    have e : arrE ts i s = 1 := by rw [arrE, if_neg hF]
    rw [arrT, e, if_neg (by decide), Heap.set_self _ _ _ hf] at hQ
    exact hQ
theorem feed_place_wp {i : Int} {Q : Int → Int → Heap → Prop} (h3 : ts.length = 3) (hf : h kF = some (feedO ts kR)) (hr : h kR = some (rowO_int l)) (hQ : Q (cellAt_int l i).1 (cellAt_int l i).2 h) : C_feed_Feed_Place B (some ⟨kF, 0, none⟩) i h Q := by
  refine C_feed_Feed_Place.of ?_
  unfold S_feed_Feed_Place
  exact ⟨fun e => (by cases e), fun _ => ⟨_, rfl, _, feed_ptr hf h3, get_wp_int (rowO_int_v hr) (Fin.of hQ)⟩⟩
theorem feed_text_wp {i : Int} {Q : ByteArray → Heap → Prop} (h3 : ts.length = 3) (hf : h kF = some (feedO ts kR)) (hQ : Q (textAt ts i) h) : C_feed_Feed_Text B (some ⟨kF, 0, none⟩) i h Q := by
  refine C_feed_Feed_Text.of ?_
  unfold S_feed_Feed_Text
  refine feed_is_wp ⟨fun hT => ?_, fun hF => Fin.of ?_⟩
  · rw [decide_eq_true_eq] at hT
    exact ⟨_, rfl, hT.1, hT.2, _, feed_text hf h3 hT.1 hT.2, Fin.of hQ⟩
  · rw [decide_eq_false_iff_not] at hF
    rw [textAt, if_neg hF] at hQ; exact hQ
theorem feed_left_wp {i : Int} {Q : ByteArray → Heap → Prop} (k : FeedOk ts l) (hf : h kF = some (feedO ts kR)) (hr : h kR = some (rowO_int l)) (hQ : Q (leftOf ts l i) h) : C_feed_Feed_Left B (some ⟨kF, 0, none⟩) i h Q := by
  refine C_feed_Feed_Left.of ?_
  unfold S_feed_Feed_Left
  have hp := k.place i
  refine feed_place_wp k.t3 hf hr (feed_text_wp k.t3 hf ⟨hp.1, hp.2, Int.le_refl _, Fin.of ?_⟩)
  rw [Int.toNat_natCast]; exact hQ
theorem feed_at_wp {i place : Int} {Q : Int → Heap → Prop} (h3 : ts.length = 3) (hf : h kF = some (feedO ts kR)) (hQ : Q (atOf ts i place) h) : C_feed_Feed_At B (some ⟨kF, 0, none⟩) i place h Q := by
  refine C_feed_Feed_At.of ?_
  unfold S_feed_Feed_At
  refine feed_is_wp ⟨fun hT => ⟨fun hp => Fin.of ?_, fun hp => ?_⟩, fun hF => Fin.of ?_⟩
  · rw [atOf, if_neg (by omega)] at hQ; exact hQ
  · rw [decide_eq_true_eq] at hT
    refine ⟨_, rfl, hT.1, hT.2, _, feed_text hf h3 hT.1 hT.2, fun hg => Fin.of ?_, fun hg => Fin.of ?_⟩
    · rw [atOf, if_neg (by omega)] at hQ; exact hQ
    · unfold S_feed_Feed_At_J1
      refine ⟨_, rfl, hT.1, hT.2, _, feed_text hf h3 hT.1 hT.2, by omega, by omega, Fin.of ?_⟩
      rw [atOf, if_pos ⟨hT.1, hT.2, by omega, by omega⟩] at hQ
      have := byteAt_bound (textAt ts i) place.toNat
      rw [w64 (by omega) (by omega)]; exact hQ
  · rw [decide_eq_false_iff_not] at hF
    rw [atOf, if_neg (by omega)] at hQ; exact hQ
theorem feed_take_wp {i place v : Int} {Q : Bool → Heap → Prop} (k : FeedOk ts l) (hf : h kF = some (feedO ts kR)) (hr : h kR = some (rowO_int l)) (hQ : Q (takeB ts l i place) (h.set kR (rowO_int (takeL ts l i place v)))) : C_feed_Feed_Take B (some ⟨kF, 0, none⟩) i place v h Q := by
  refine C_feed_Feed_Take.of ?_
  unfold S_feed_Feed_Take
  have no : ¬ (0 ≤ i ∧ i < 3 ∧ (cellAt_int l i).1 ≤ place ∧ place ≤ (textAt ts i).size) → Q false h := fun hn => by
    have e : takeB ts l i place = false := by rw [takeB, decide_eq_false hn]
    rw [takeL, e, if_neg (by decide), Heap.set_self _ _ _ hr] at hQ
    exact hQ
  refine feed_place_wp k.t3 hf hr (feed_is_wp ⟨fun hT => ⟨fun hp => Fin.of (no (by omega)), fun hp => ?_⟩, fun hF => Fin.of (no ?_)⟩)
  · rw [decide_eq_true_eq] at hT
    refine ⟨_, rfl, hT.1, hT.2, _, feed_text hf k.t3 hT.1 hT.2, fun hg => Fin.of (no (by omega)), fun hg => Fin.of ?_⟩
    unfold S_feed_Feed_Take_J1
    have e : takeB ts l i place = true := by rw [takeB, decide_eq_true_eq]; omega
    have l3 := k.l3
    rw [takeL, e, if_pos rfl] at hQ
    exact ⟨_, rfl, _, feed_ptr hf k.t3, set_wp_int hr (fun _ _ => Fin.of hQ) (fun hn => absurd (show 0 ≤ i ∧ i < (l.length : Int) by omega) hn)⟩
  · rw [decide_eq_false_iff_not] at hF
    omega
def ts0 : List ByteArray := [ByteArray.empty, ByteArray.empty, ByteArray.empty]
def fl0 : List (Int × Int) := [(0, 0), (0, 0), (0, 0)]
theorem FeedOk.zero : FeedOk ts0 fl0 := by
  have key : ∀ i : Int, textAt ts0 i = ByteArray.empty ∧ (cellAt_int fl0 i) = (0, 0) := fun i => by
    by_cases h : 0 ≤ i ∧ i < 3
    · have : i = 0 ∨ i = 1 ∨ i = 2 := by omega
      rcases this with rfl | rfl | rfl <;> exact ⟨rfl, rfl⟩
    · refine ⟨by rw [textAt, if_neg h]; rfl, ?_⟩
      unfold cellAt_int
      split
      · rw [List.getElem?_eq_none (by simp [fl0]; omega)]; rfl
      · rfl
  exact ⟨rfl, rfl, fun i => by rw [(key i).1]; decide, fun i => by rw [(key i).1, (key i).2]; decide⟩
theorem feed_new_wp {Q : Option Addr → Heap → Prop} (hQ : ∀ kR kF h1 h2, h kR = none → B kR = none → h1 = h.set kR (rowO_int fl0) → h1 kF = none → B kF = none → h2 = h1.set kF (feedO ts0 kR) → Q (some ⟨kF, 0, none⟩) h2) : C_feed_New B h Q := by
  refine C_feed_New.of ?_
  unfold S_feed_New
  refine new_wp_int (by decide) fun kR a1 b1 k4 a4 b4 h5 e5 => Fin.of (hQ kR k4 _ h5 a1 b1 rfl a4 b4 e5)
end
end Go.Proofs.Ytgldgabefiialaa.H
namespace Go.Proofs.Ytgldgabefiialaa.H
open Go Go.RowKit
set_option linter.unusedVariables false
set_option maxRecDepth 100000
structure StI where
  kd : Nat
  vd : Value
  rd : Option (Nat × AObj)
  ks : Nat
  kf : Nat
  vf : Value
  rf : Option (Nat × AObj)
  kc : Nat
structure StV where
  d : List (Int × Int)
  f : List (Int × (Bool × ByteArray))
  c0 : Int
  c1 : Int
  c2 : Int
def StV.z : StV := ⟨[], [], 0, 0, 0⟩
def shO (kf : Nat) : AObj := .vec TY.sheet_Sheet (plains [.pointer (some ⟨kf, 0, none⟩)]) 1
def curO (s : StV) : AObj := .vec TY.cursor_Cursor (plains [.int .i64 s.c0, .int .i64 s.c1, .int .i64 s.c2]) 3
def StI.e (x : StI) (s : StV) : List (Option (Nat × AObj)) := [some (x.kd, drO_int x.vd), x.rd, some (x.ks, shO x.kf), some (x.kf, drO_file_File x.vf), x.rf, some (x.kc, curO s)]
structure StI.Ok (x : StI) (s : StV) : Prop where
  d : DRow_int x.rd x.vd s.d
  f : DRow_file_File x.rf x.vf s.f
structure StAt (L : List (Option (Nat × AObj))) (i : Nat) (x : StI) (s : StV) : Prop where
  d : DAt_int L i x.kd x.vd x.rd
  sh : L[i + 2]? = some (some (x.ks, shO x.kf))
  f : DAt_file_File L (i + 3) x.kf x.vf x.rf
  c : L[i + 5]? = some (some (x.kc, curO s))
theorem StAt.app {L M : List (Option (Nat × AObj))} {i : Nat} {x : StI} {s : StV} (A : StAt L i x s) : StAt (L ++ M) i x s :=
  ⟨⟨up_app _ A.d.p, up_app _ A.d.q⟩, up_app _ A.sh, ⟨up_app _ A.f.p, up_app _ A.f.q⟩, up_app _ A.c⟩
structure Reg4 where
  a : Int
  b : Int
  c : Int
  d : Int
structure MarkR where
  x : StI
  g : Reg4
  m : Reg4
  place : Int
def MarkR.cells (m : MarkR) : List Value := [.pointer (some ⟨m.x.kd, 0, none⟩), .pointer (some ⟨m.x.ks, 0, none⟩), .pointer (some ⟨m.x.kc, 0, none⟩), .int .i64 m.g.a, .int .i64 m.g.b, .int .i64 m.g.c, .int .i64 m.g.d, .int .i64 m.m.a, .int .i64 m.m.b, .int .i64 m.m.c, .int .i64 m.m.d, .int .i64 m.place]
theorem MarkR.len (m : MarkR) : m.cells.length = 12 := rfl
theorem MarkR.one (m : MarkR) : ∀ y ∈ m.cells, isOne y = true := fun y hy => by
  simp only [MarkR.cells, List.mem_cons, List.not_mem_nil, or_false] at hy
  rcases hy with rfl | rfl | rfl | rfl | rfl | rfl | rfl | rfl | rfl | rfl | rfl | rfl <;> rfl
def skO (v : Value) : AObj := .vec TY.mark_Stack (plains [v]) 1
def MRow (r : Option (Nat × AObj)) (v : Value) (l : List MarkR) : Prop := Row r v TY.mark_Mark 12 (l.flatMap MarkR.cells)
structure SkAt (L : List (Option (Nat × AObj))) (i k : Nat) (v : Value) (r : Option (Nat × AObj)) : Prop where
  p : L[i]? = some (some (k, skO v))
  q : L[i + 1]? = some r
section
variable {B : RO} {h0 h h' : Heap} {L : List (Option (Nat × AObj))} {r : Option (Nat × AObj)} {i j k : Nat} {a : Option Addr} {m c : Nat} {v : Value} {l : List MarkR} {x : StI} {s : StV} {g mm : Reg4} {place : Int}
theorem sheet_new_wp {Q : Option Addr → Heap → Prop} (hQ : ∀ ks kf h', Keep B h [some (ks, shO kf), some (kf, drO_file_File (.slice none 0 0)), none] h' → Q (some ⟨ks, 0, none⟩) h') : C_sheet_New B h Q := by
  refine C_sheet_New.of ?_
  unfold S_sheet_New
  intro k2 a2 b2 h3 e3 k4 a4 b4 h5 e5
  have E := ((Keep.nil B h).made a2 b2 e3).made a4 b4 e5
  exact Fin.of (hQ k4 k2 h5 (E.picks [1, 0, 9] (by decide)))
theorem fresh_wp {Q : Option Addr → Option Addr → Option Addr → Int → Int → Int → Int → Heap → Prop} (hQ : ∀ x h', StI.Ok x StV.z → Keep B h (x.e StV.z) h' → Q (some ⟨x.kd, 0, none⟩) (some ⟨x.ks, 0, none⟩) (some ⟨x.kc, 0, none⟩) g.a g.b g.c g.d h') : C_mark_Fresh B g.a g.b g.c g.d h Q := by
  refine C_mark_Fresh.of ?_
  unfold S_mark_Fresh
  intro k12 a12 b12 h13 e13 k14 a14 b14 h15 e15
  have E := ((Keep.nil B h).made a12 b12 e13).made a14 b14 e15
  have c12 : ∀ {M : List (Option (Nat × AObj))} {h1 : Heap}, Keep B h ([] ++ [some (k12, AObj.vec TY.api_Regs (plains [.int .i64 g.a, .int .i64 g.b, .int .i64 g.c, .int .i64 g.d]) 4)] ++ M) h1 → CellsAt B h1 ⟨k12, 0, none⟩ 0 [.int .i64 g.a, .int .i64 g.b, .int .i64 g.c, .int .i64 g.d] := fun {M h1} E1 => ⟨E1.cell 0 rfl rfl, E1.cell 0 rfl rfl, E1.cell 0 rfl rfl, E1.cell 0 rfl rfl, trivial⟩
  have fin : ∀ {kd ks kf kc : Nat} {h1 : Heap}, Keep B h [some (k14, .vec TY.mark_State (plains [.pointer none, .pointer none, .pointer none, .int .i64 0, .int .i64 0, .int .i64 0, .int .i64 0]) 7), some (kd, drO_int (.slice none 0 0)), some (ks, shO kf), some (kf, drO_file_File (.slice none 0 0)), some (kc, curO StV.z)] h1 → ∃ h2, StoresAt ⟨k14, 0, none⟩ h1 0 [.pointer (some ⟨kd, 0, none⟩), .pointer (some ⟨ks, 0, none⟩), .pointer (some ⟨kc, 0, none⟩), .int .i64 g.a, .int .i64 g.b, .int .i64 g.c, .int .i64 g.d] h2 ∧ ∃ p33 : Option Addr, ∃ p34 : Option Addr, ∃ p35 : Option Addr, ∃ i36 : Int, ∃ i37 : Int, ∃ i38 : Int, ∃ i39 : Int, CellsAt B h2 ⟨k14, 0, none⟩ 0 [(Value.pointer p33), (Value.pointer p34), (Value.pointer p35), (Value.int .i64 (i36)), (Value.int .i64 (i37)), (Value.int .i64 (i38)), (Value.int .i64 (i39))] ∧ Fin B h2 (Q p33 p34 p35 (i36) (i37) (i38) (i39)) := fun {kd ks kf kc h1} E1 => by
    refine ⟨_, stores_whole (E1.at 0 rfl) rfl (by simp) (by simp [isOne]) (by simp), ?_⟩
    have E2 := E1.put (o' := .vec TY.mark_State (plains [.pointer (some ⟨kd, 0, none⟩), .pointer (some ⟨ks, 0, none⟩), .pointer (some ⟨kc, 0, none⟩), .int .i64 g.a, .int .i64 g.b, .int .i64 g.c, .int .i64 g.d]) 7) 0 rfl
    refine ⟨_, _, _, _, _, _, _, ⟨E2.cell 0 rfl rfl, E2.cell 0 rfl rfl, E2.cell 0 rfl rfl, E2.cell 0 rfl rfl, E2.cell 0 rfl rfl, E2.cell 0 rfl rfl, E2.cell 0 rfl rfl, trivial⟩, Fin.of ?_⟩
    exact hQ ⟨kd, .slice none 0 0, none, ks, kf, .slice none 0 0, none, kc⟩ _ ⟨Row.nil _ _, Row.nil _ _⟩ (E2.picks [1, 9, 2, 3, 10, 4] (by decide))
  refine ⟨_, _, _, _, c12 E, fun k23 a23 b23 h24 e24 => ?_, ?_, fun k85 a85 b85 h86 e86 => ?_⟩
  · have E1 := E.made a23 b23 e24
    refine ⟨⟨E1.cell 0 rfl rfl, E1.cell 0 rfl rfl, E1.cell 0 rfl rfl, E1.cell 0 rfl rfl, trivial⟩, sheet_new_wp fun ks kf h26 E2 => ?_, fun k40 a40 b40 h41 e41 => ?_⟩
    · have E3 := E1.append E2
      refine ⟨⟨E3.cell 0 rfl rfl, E3.cell 0 rfl rfl, E3.cell 0 rfl rfl, E3.cell 0 rfl rfl, trivial⟩, fun k29 a29 b29 h30 e30 => ?_⟩
      have E4 := E3.made a29 b29 e30
      exact ⟨⟨E4.cell 0 rfl rfl, E4.cell 0 rfl rfl, E4.cell 0 rfl rfl, E4.cell 0 rfl rfl, trivial⟩, fin (E4.picks [1, 2, 3, 4, 6] (by decide))⟩
    · have E3 := E1.made a40 b40 e41
      refine ⟨⟨E3.cell 0 rfl rfl, E3.cell 0 rfl rfl, E3.cell 0 rfl rfl, E3.cell 0 rfl rfl, trivial⟩, sheet_new_wp fun ks kf h26 E2 => ?_⟩
      have E4 := E3.append E2
      exact ⟨⟨E4.cell 0 rfl rfl, E4.cell 0 rfl rfl, E4.cell 0 rfl rfl, E4.cell 0 rfl rfl, trivial⟩, fin (E4.picks [1, 2, 4, 5, 3] (by decide))⟩
  · refine sheet_new_wp fun ks kf h54 E2 => ?_
    have E3 := E.append E2
    refine ⟨⟨E3.cell 0 rfl rfl, E3.cell 0 rfl rfl, E3.cell 0 rfl rfl, E3.cell 0 rfl rfl, trivial⟩, fun k57 a57 b57 h58 e58 => ?_, fun k71 a71 b71 h72 e72 => ?_⟩
    · have E4 := E3.made a57 b57 e58
      refine ⟨⟨E4.cell 0 rfl rfl, E4.cell 0 rfl rfl, E4.cell 0 rfl rfl, E4.cell 0 rfl rfl, trivial⟩, fun k60 a60 b60 h61 e61 => ?_⟩
      have E5 := E4.made a60 b60 e61
      exact ⟨⟨E5.cell 0 rfl rfl, E5.cell 0 rfl rfl, E5.cell 0 rfl rfl, E5.cell 0 rfl rfl, trivial⟩, fin (E5.picks [1, 5, 2, 3, 6] (by decide))⟩
    · have E4 := E3.made a71 b71 e72
      refine ⟨⟨E4.cell 0 rfl rfl, E4.cell 0 rfl rfl, E4.cell 0 rfl rfl, E4.cell 0 rfl rfl, trivial⟩, fun k74 a74 b74 h75 e75 => ?_⟩
      have E5 := E4.made a74 b74 e75
      exact ⟨⟨E5.cell 0 rfl rfl, E5.cell 0 rfl rfl, E5.cell 0 rfl rfl, E5.cell 0 rfl rfl, trivial⟩, fin (E5.picks [1, 6, 2, 3, 5] (by decide))⟩
  · have E1 := E.made a85 b85 e86
    refine ⟨⟨E1.cell 0 rfl rfl, E1.cell 0 rfl rfl, E1.cell 0 rfl rfl, E1.cell 0 rfl rfl, trivial⟩, fun k88 a88 b88 h89 e89 => ?_, sheet_new_wp fun ks kf h102 E2 => ?_⟩
    · have E3 := E1.made a88 b88 e89
      refine ⟨⟨E3.cell 0 rfl rfl, E3.cell 0 rfl rfl, E3.cell 0 rfl rfl, E3.cell 0 rfl rfl, trivial⟩, sheet_new_wp fun ks kf h91 E2 => ?_⟩
      have E4 := E3.append E2
      exact ⟨⟨E4.cell 0 rfl rfl, E4.cell 0 rfl rfl, E4.cell 0 rfl rfl, E4.cell 0 rfl rfl, trivial⟩, fin (E4.picks [1, 3, 4, 5, 2] (by decide))⟩
    · have E3 := E1.append E2
      refine ⟨⟨E3.cell 0 rfl rfl, E3.cell 0 rfl rfl, E3.cell 0 rfl rfl, E3.cell 0 rfl rfl, trivial⟩, fun k105 a105 b105 h106 e106 => ?_⟩
      have E4 := E3.made a105 b105 e106
      exact ⟨⟨E4.cell 0 rfl rfl, E4.cell 0 rfl rfl, E4.cell 0 rfl rfl, E4.cell 0 rfl rfl, trivial⟩, fin (E4.picks [1, 6, 3, 4, 2] (by decide))⟩
theorem MRow.len (R : MRow r (.slice a m c) l) : m = l.length := (Row.rd (B := fun _ => none) R MarkR.len (by omega)).1
end
end Go.Proofs.Ytgldgabefiialaa.H
namespace Go.Proofs.Ytgldgabefiialaa.H
open Go Go.RowKit
set_option linter.unusedVariables false
set_option maxRecDepth 100000
def dallF (k3 : Nat) : Value := Value.func (.func FN.draft_Draft_int_All_1) #[] #[(Value.pointer (some ⟨k3, 0, none⟩))]
def encD (x : Int × Int) : List Value := [.int .i64 x.1, .int .i64 x.2]
def dG (k3 k : Nat) (v : Value) (r : Option (Nat × AObj)) (h : Heap) : Prop :=
  h k3 = some (.vec TY.p_draft_Draft_int [.plain (.pointer (some ⟨k, 0, none⟩))] 1) ∧ h k = some (drO_int v) ∧ ∀ k o, r = some (k, o) → h k = some o
theorem dG_ins {k3 kk : Nat} {v : Value} {r : Option (Nat × AObj)} : Ins (dG k3 kk v r) := by
  rintro h k o hk ⟨g1, g2, g3⟩
  exact ⟨Heap.get_new hk g1, Heap.get_new hk g2, fun k' o' e => Heap.get_new hk (g3 k' o' e)⟩
section
variable {B : RO} {h0 h h' : Heap} {L : List (Option (Nat × AObj))} {r : Option (Nat × AObj)} {i k k3 : Nat} {a : Option Addr} {m c : Nat} {v : Value} {l : List (Int × Int)} {n : Int}
theorem dall_wp {p : Option Addr} {Q : Value → Heap → Prop} (hQ : ∀ k, h k = none → B k = none → Q (dallF k) (h.set k (.vec TY.p_draft_Draft_int [.plain (.pointer p)] 1))) : C_draft_Draft_int_All B p h Q := by
  refine C_draft_Draft_int_All.of ?_
  unfold S_draft_Draft_int_All
  intro k a1 b1 h4 e4
  subst e4
  exact Fin.of (hQ k a1 b1)
theorem dall_iter (R : DRow_int r v l) (hlen : l.length ≤ 100000) : Iter PG B (dallF k3) (l.map encD) (dG k3 k v r) := by
  refine ⟨_, _, _, rfl, TG.draft_Draft_int_All_1, fun y J X h hy hG h0 hcall => ?_⟩
  have main : C_draft_Draft_int_All_1 B y ⟨k3, 0, none⟩ h (fun h' => Fin B h' (fun h'' => J (l.map encD).length h'' ∨ X h'')) := by
    refine C_draft_Draft_int_All_1.of ?_
    unfold S_draft_Draft_int_All_1
    obtain ⟨a, m, c, rfl⟩ := Row.slice R
    obtain ⟨rfl, hrd⟩ := Row.rd (B := B) R entC_int_len (by omega)
    obtain ⟨g1, g2, g3⟩ := hG 0 h h0
    refine ⟨_, cellH_vec g1 rfl, fun e => (by cases e), fun _ => ⟨_, cellH_vec g1 rfl, _, rfl, .inl ⟨a, _, c, cellH_vec g2 rfl, ?_⟩⟩⟩
    refine ⟨fun i m' h' => ∃ j : Nat, j ≤ l.length ∧ i = j ∧ m' = l.length - j ∧ J j h', l.length, Fin.of ⟨0, by omega, rfl, by omega, h0⟩, ?_⟩
    rintro _ _ h13 ⟨j, hj, rfl, rfl, hJ⟩
    obtain ⟨g1, g2, g3⟩ := hG j h13 hJ
    refine ⟨fun hlt => ?_, fun hge => Fin.of ?_⟩
    · have hj' : j < l.length := by omega
      have hx := List.getElem?_eq_getElem hj'
      generalize l[j] = x at hx
      obtain ⟨A, e, _, q⟩ := hrd h13 g3 j _ hx
      refine ⟨A, e, by omega, hlt, x.1, x.2, q, fun k24 a24 b24 h25 e25 => ?_⟩
      obtain ⟨g25, l25, -⟩ := Heap.made a24 e25
      refine ⟨_, stores_whole g25 rfl (by simp) (by simp [isOne]) (by simp), ?_⟩
      generalize e26 : h25.set k24 _ = h26
      obtain ⟨g26, -, -⟩ := Heap.put e26
      refine ⟨_, cellH_vec g26 rfl, _, cellH_vec g26 rfl, ?_⟩
      have w : Wk B h13 h26 := by
        rw [← e26, e25, Heap.set_set]; exact Wk.new a24 b24
      have hc := hcall j h13 (encD x) (by rw [List.getElem?_map, hx]; rfl) hJ
      refine CallV.mono ?_ (hc.weaken w)
      rintro v h27 ⟨h28, t1, h29, t2, hor⟩
      rcases hor with ⟨rfl, hJ'⟩ | ⟨rfl, hX⟩
      · refine ⟨true, rfl, fun _ => ⟨h29, t1.trans t2, l.length - (j + 1), by omega, j + 1, by omega, ?_, rfl, hJ'⟩, fun e => by cases e⟩
        rw [w64 (by omega) (by omega)]; omega
      · exact ⟨false, rfl, fun e => (by cases e), fun _ => ⟨h29, t1.trans t2, Fin.of (.inr hX)⟩⟩
    · have : j = l.length := by omega
      subst this
      refine Fin.of (.inl ?_)
      rw [List.length_map]
      exact hJ
  exact Spec.mono main fun v h' q => q.2
end
end Go.Proofs.Ytgldgabefiialaa.H
namespace Go.Proofs.Ytgldgabefiialaa.H
open Go Go.RowKit
set_option linter.unusedVariables false
set_option maxRecDepth 100000
structure VI where
  kV : Nat
  kC : Nat
  kT : Nat
  kR : Nat
  vt : Value
  rt : Option (Nat × AObj)
  kF : Nat
  kP : Nat
structure VV where
  c : List (Int × Int)
  f : FL
  ts : List ByteArray
  l : List (Int × Int)
  t : Int
def viewO (x : VI) (t : Int) : AObj := .vec TY.attempt_View (plains [.pointer (some ⟨x.kC, 0, none⟩), .pointer (some ⟨x.kT, 0, none⟩), .pointer (some ⟨x.kF, 0, none⟩), .int .i64 t]) 4
def VI.e (x : VI) (v : VV) : List (Option (Nat × AObj)) := [some (x.kV, viewO x v.t), some (x.kC, rowO_int v.c), some (x.kT, tomO x.kR), some (x.kR, frO x.vt), x.rt, some (x.kF, feedO v.ts x.kP), some (x.kP, rowO_int v.l)]
structure VOk (x : VI) (v : VV) : Prop where
  r : FRow x.rt x.vt v.f
  c8 : v.c.length = 8
  f : TomeOk v.f
  k : FeedOk v.ts v.l
def VAt (L : List (Option (Nat × AObj))) (i : Nat) (x : VI) (v : VV) : Prop := ∀ j, j < 7 → L[i + j]? = (x.e v)[j]?
theorem VAt.mk {L R : List (Option (Nat × AObj))} {x : VI} {v : VV} : VAt (L ++ (x.e v ++ R)) L.length x v := fun j hj => by
  rw [List.getElem?_append_right (by omega), Nat.add_sub_cancel_left, List.getElem?_append_left (by exact hj)]
theorem VAt.app {L M : List (Option (Nat × AObj))} {i : Nat} {x : VI} {v : VV} (A : VAt L i x v) : VAt (L ++ M) i x v := fun j hj => by
  have h1 : (x.e v)[j]? = some ((x.e v)[j]'hj) := List.getElem?_eq_getElem hj
  rw [h1]
  exact up_app _ ((A j hj).trans h1)
def vz : VV := ⟨List.replicate 8 (0, 0), List.replicate 6 ((false, ByteArray.empty), 0), ts0, fl0, 0⟩
def verOf (v : VV) (k i : Int) : Int := if k = 0 then (cellAt_int v.c i).2 else if k = 1 then (fileAt v.f i).2 else if k = 2 then (cellAt_int v.l i).2 else 0
def cV (v : VV) (i : Int) : Value := .int .i64 (cellAt_int v.c i).2
def fV (v : VV) (i : Int) : Value := .int .i64 (fileAt v.f i).2
def lV (v : VV) (i : Int) : Value := .int .i64 (cellAt_int v.l i).2
def nowF (v : VV) : List Value := [cV v 0, cV v 1, cV v 2, cV v 3, cV v 4, cV v 5, cV v 6, cV v 7, fV v 0, fV v 1, fV v 2, fV v 3, fV v 4, fV v 5, .int .i64 0, .int .i64 0, lV v 0, lV v 1, lV v 2, .int .i64 0, .int .i64 0, .int .i64 0, .int .i64 0, .int .i64 0, .int .i64 v.t]
def nowZ (t : Int) : List Value := List.replicate 24 (.int .i64 0) ++ [.int .i64 t]
theorem now_c {v : VV} {j : Nat} (h : j < 8) : (nowF v)[j]? = some (.int .i64 (cellAt_int v.c (j : Nat)).2) := match j, h with
  | 0, _ | 1, _ | 2, _ | 3, _ | 4, _ | 5, _ | 6, _ | 7, _ => rfl
  | n + 8, h => absurd h (by omega)
theorem now_f {v : VV} {j : Nat} (h : j < 6) : (nowF v)[8 + j]? = some (.int .i64 (fileAt v.f (j : Nat)).2) := match j, h with
  | 0, _ | 1, _ | 2, _ | 3, _ | 4, _ | 5, _ => rfl
  | n + 6, h => absurd h (by omega)
theorem now_l {v : VV} {j : Nat} (h : j < 3) : (nowF v)[16 + j]? = some (.int .i64 (cellAt_int v.l (j : Nat)).2) := match j, h with
  | 0, _ | 1, _ | 2, _ => rfl
  | n + 3, h => absurd h (by omega)
def part (F Z : List Value) (m : Nat) : List Value := F.take m ++ Z.drop m
theorem wrapS {j : Nat} (h : j < 1000000000) : IntKind.wrap .i64 ((j : Int) + 1) = ((j + 1 : Nat) : Int) := by rw [w64 (by omega) (by omega)]; omega
section
variable {B : RO} {h0 h h' : Heap} {L M : List (Option (Nat × AObj))} {i k n : Nat} {t : TypeId} {x : VI} {v : VV}
theorem Keep.fillN {F Z : List Value} {m : Nat} (E : Keep B h0 (L ++ M) h) (p : Nat) (hp : M[p]? = some (some (k, .vec t (plains (part F Z m)) n))) (hl : F.length = Z.length) (ys : List Value) (hy : (F.drop m).take ys.length = ys) (hm : m + ys.length ≤ F.length) (hn : F.length ≤ n) (ho : ∀ y ∈ ys, isOne y = true) {a : Addr} (ha : a = ⟨k, m, none⟩) :
    ∃ h', StoresAt a h 0 ys h' ∧ Keep B h0 (L ++ M.set p (some (k, .vec t (plains (part F Z (m + ys.length))) n))) h' := by
  subst ha
  obtain ⟨h', s1, E1⟩ := E.vM (fs := F.take m) (gs := Z.drop m) p hp ys ho m (by rw [List.length_take]; omega) (by omega)
  refine ⟨h', s1, ?_⟩
  have e1 : F.take m ++ ys ++ (Z.drop m).drop ys.length = part F Z (m + ys.length) := by
    unfold part
    rw [List.drop_drop, List.take_add, hy]
  rw [e1] at E1
  exact E1
theorem Keep.fill1 {F Z : List Value} {m : Nat} {y : Value} (E : Keep B h0 (L ++ M) h) (p : Nat) (hp : M[p]? = some (some (k, .vec t (plains (part F Z m)) n))) (hl : F.length = Z.length) (hF : F[m]? = some y) (hn : F.length ≤ n) (ho : isOne y = true) {a : Addr} (ha : a = ⟨k, m, none⟩) :
    ∃ h', storeH h a y = some h' ∧ Keep B h0 (L ++ M.set p (some (k, .vec t (plains (part F Z (m + 1))) n))) h' := by
  obtain ⟨hm, hg⟩ := List.getElem?_eq_some_iff.1 hF
  obtain ⟨h', ⟨_, w, e1, e2⟩, E1⟩ := E.fillN p hp hl [y] (by rw [List.drop_eq_getElem_cons hm, hg]; rfl) (by simp; omega) hn (by simpa using ho) ha
  obtain rfl : h' = w := e2
  exact ⟨h', e1, E1⟩
theorem Keep.allM {F : List Value} (E : Keep B h0 (L ++ M) h) (p : Nat) (hp : M[p]? = some (some (k, .vec t (plains F) n))) : CellsAt B h ⟨k, 0, none⟩ 0 F :=
  CellsAt.of_vec F 0 (E.gM p hp) fun j y hj => by rw [plains_get, show 0 + 0 + j = j by omega, hj]; rfl
theorem VAt.at {k : Nat} {o : AObj} (A : VAt L i x v) (E : Keep B h0 L h) (j : Nat) (hj : j < 7) (e : (x.e v)[j]? = some (some (k, o))) : h k = some o := E.at (i + j) ((A j hj).trans e)
theorem VAt.tome (A : VAt L i x v) : TomeAt L (i + 2) x.kT x.kR x.vt x.rt := ⟨A 2 (by decide), ⟨A 3 (by decide), A 4 (by decide)⟩⟩
theorem now_wp {Q : List Value → Heap → Prop} (E : Keep B h0 L h) (A : VAt L i x v) (o : VOk x v) (hQ : ∀ h', Keep B h0 L h' → Q (nowF v) h') : C_attempt_View_Now B (some ⟨x.kV, 0, none⟩) h Q := by
  refine C_attempt_View_Now.of ?_
  unfold S_attempt_View_Now
  intro k3 a3 b3 h4 e4
  have E1 := E.start.nM a3 b3 e4
  refine ⟨fun e => (by cases e), fun _ => ⟨_, rfl, v.t, cellH_vec (A.app.at E1 0 (by decide) rfl) rfl, ?_⟩⟩
  intro k11 a11 b11 h12 e12
  have E2 := E1.nM a11 b11 e12
  refine ⟨_, stores_whole (E2.gM 1 rfl) rfl (by simp) (by simp [isOne]) (by simp), ?_⟩
  have E3 := E2.pM (o' := .vec TY.reads_Now (plains (part (nowF v) (nowZ v.t) 0)) 25) 1 rfl
  let J (b : Nat) (j : Nat) (h : Heap) : Prop := Keep B h0 (L ++ [some (k3, .vec TY.reads_Now (plains (List.replicate 25 (.int .i64 0))) 25), some (k11, .vec TY.reads_Now (plains (part (nowF v) (nowZ v.t) (b + j))) 25)]) h
  refine ⟨fun q m h' => ∃ j : Nat, j ≤ 8 ∧ q = j ∧ m = 8 - j ∧ J 0 j h', 8, Fin.of ⟨0, by omega, rfl, rfl, E3⟩, ?_⟩
  clear E1 E2 E3 e4 e12
  rintro _ _ h14 ⟨j, hj, rfl, rfl, E4⟩
  have E4 : Keep B h0 (L ++ [some (k3, .vec TY.reads_Now (plains (List.replicate 25 (.int .i64 0))) 25), some (k11, .vec TY.reads_Now (plains (part (nowF v) (nowZ v.t) (0 + j))) 25)]) h14 := E4
  rw [Nat.zero_add] at E4
  refine ⟨fun hlt => ⟨_, rfl, _, cellH_vec (A.app.at E4 0 (by decide) rfl) rfl, version_wp_int (rowO_int_v (A.app.at E4 1 (by decide) rfl)) ⟨by decide, by decide, by omega, by omega, ?_⟩⟩, fun hge => Fin.of ?_⟩
  · obtain ⟨h5, s, E5⟩ := E4.fill1 1 rfl rfl (now_c (by omega : j < 8)) (Nat.le_refl _) rfl (a := Addr.add ⟨k11, 0, none⟩ (Int.toNat (j : Int) * 1)) (by rw [addr_more]; simp)
    exact ⟨h5, s, Fin.of ⟨8 - (j + 1), by omega, j + 1, by omega, wrapS (by omega), rfl, by show Keep _ _ _ _; rw [Nat.zero_add]; exact E5⟩⟩
  have hj8 : j = 8 := by omega
  subst hj8
  unfold S_attempt_View_Now_J1
  refine ⟨fun q m h' => ∃ j : Nat, j ≤ 6 ∧ q = j ∧ m = 6 - j ∧ J 8 j h', 6, Fin.of ⟨0, by omega, rfl, rfl, E4⟩, ?_⟩
  clear E4
  rintro _ _ h14 ⟨j, hj, rfl, rfl, E4⟩
  have E4 : Keep B h0 (L ++ [some (k3, .vec TY.reads_Now (plains (List.replicate 25 (.int .i64 0))) 25), some (k11, .vec TY.reads_Now (plains (part (nowF v) (nowZ v.t) (8 + j))) 25)]) h14 := E4
  refine ⟨fun hlt => ⟨_, rfl, _, cellH_vec (A.app.at E4 0 (by decide) rfl) rfl, tget_wp E4 A.app.tome o.r ?_⟩, fun hge => Fin.of ?_⟩
  · intro h43 E5
    refine ⟨by decide, by decide, by omega, by omega, ?_⟩
    obtain ⟨h5, s, E6⟩ := E5.fill1 1 rfl rfl (now_f (by omega : j < 6)) (Nat.le_refl _) rfl (a := Addr.add ⟨k11, 8, none⟩ (Int.toNat (j : Int) * 1)) (by rw [addr_more]; simp)
    exact ⟨h5, s, Fin.of ⟨6 - (j + 1), by omega, j + 1, by omega, wrapS (by omega), rfl, E6⟩⟩
  have hj8 : j = 6 := by omega
  subst hj8
  unfold S_attempt_View_Now_J2
  refine ⟨fun q m h' => ∃ j : Nat, j ≤ 3 ∧ q = j ∧ m = 3 - j ∧ J 16 j h', 3, Fin.of ⟨0, by omega, rfl, rfl, E4⟩, ?_⟩
  clear E4
  rintro _ _ h14 ⟨j, hj, rfl, rfl, E4⟩
  have E4 : Keep B h0 (L ++ [some (k3, .vec TY.reads_Now (plains (List.replicate 25 (.int .i64 0))) 25), some (k11, .vec TY.reads_Now (plains (part (nowF v) (nowZ v.t) (16 + j))) 25)]) h14 := E4
  refine ⟨fun hlt => ⟨_, rfl, _, cellH_vec (A.app.at E4 0 (by decide) rfl) rfl, feed_place_wp o.k.t3 (A.app.at E4 5 (by decide) rfl) (A.app.at E4 6 (by decide) rfl) ?_⟩, fun hge => ?_⟩
  · refine ⟨by decide, by decide, by omega, by omega, ?_⟩
    obtain ⟨h5, s, E6⟩ := E4.fill1 1 rfl rfl (now_l (by omega : j < 3)) (Nat.le_refl _) rfl (a := Addr.add ⟨k11, 16, none⟩ (Int.toNat (j : Int) * 1)) (by rw [addr_more]; simp)
    exact ⟨h5, s, Fin.of ⟨3 - (j + 1), by omega, j + 1, by omega, wrapS (by omega), rfl, E6⟩⟩
  have hj8 : j = 3 := by omega
  subst hj8
  have E5 : Keep B h0 (L ++ [some (k3, .vec TY.reads_Now (plains (List.replicate 25 (.int .i64 0))) 25), some (k11, .vec TY.reads_Now (plains (nowF v)) 25)]) h14 := E4
  refine ⟨nowF v, rfl, E5.allM 1 rfl, rfl, _, stores_whole (E5.gM 0 rfl) rfl (Nat.le_refl _) (by simp [nowF, isOne, cV, fV, lV]) (by simp [nowF]), ?_⟩
  have E6 := E5.pM (o' := .vec TY.reads_Now (plains (nowF v)) 25) 0 rfl
  exact ⟨nowF v, rfl, E6.allM 0 rfl, Fin.of (hQ _ E6.zM)⟩
theorem newview_wp {Q : Option Addr → Heap → Prop} (hQ : ∀ x h', VOk x vz → Keep B h (x.e vz) h' → Q (some ⟨x.kV, 0, none⟩) h') : C_attempt_NewView B h Q := by
  refine C_attempt_NewView.of ?_
  unfold S_attempt_NewView
  refine new_wp_int (by decide) fun kC a b => ?_
  have E := (Keep.nil B h).new (o := rowO_int (List.replicate 8 (0, 0))) a b
  refine tnew_wp fun kT kR v r h4 R E1 => ?_
  have E2 := E.append E1
  refine feed_new_wp fun kP kF h1 h2 aP bP e1 aF bF e2 => ?_
  have E3 := (E2.made aP bP e1).made aF bF e2
  intro k8 a8 b8 h9 e9
  have E4 := E3.made a8 b8 e9
  exact Fin.of (hQ ⟨k8, kC, kT, kR, v, r, kF, kP⟩ _ ⟨R, rfl, TomeOk.zero, FeedOk.zero⟩ (E4.picks [6, 0, 1, 2, 3, 5, 4] (by decide)))
end
end Go.Proofs.Ytgldgabefiialaa.H
namespace Go.Proofs.Ytgldgabefiialaa.H
open Go Go.RowKit
set_option linter.unusedVariables false
set_option maxRecDepth 100000
abbrev RE := Int × Int × Int
def enR (e : RE) : List Value := [.int .i64 e.1, .int .i64 e.2.1, .int .i64 e.2.2]
theorem enR_len (e : RE) : (enR e).length = 3 := rfl
theorem enR_one (e : RE) : ∀ y ∈ enR e, isOne y = true := fun y hy => by simp [enR] at hy; rcases hy with rfl | rfl | rfl <;> rfl
theorem TK.slc_re : slcB PG TY.s_reads_Entry = some (TY.reads_Entry, 3, 24) := by kernel_rfl
theorem TK.zero_re : zeroB PG TY.reads_Entry = some [.int .i64 0, .int .i64 0, .int .i64 0] := by kernel_rfl
theorem TK.sl_re : slT PG TY.s_reads_Entry = true := by kernel_rfl
def ERow (r : Option (Nat × AObj)) (v : Value) (l : List RE) : Prop := Row r v TY.reads_Entry 3 (l.flatMap enR)
def rsO (v : Value) (st : Int) : AObj := .vec TY.reads_Set (plains [v, .int .i64 st]) 2
structure RdAt (L : List (Option (Nat × AObj))) (i k : Nat) (v : Value) (st : Int) (r : Option (Nat × AObj)) : Prop where
  p : L[i]? = some (some (k, rsO v st))
  q : L[i + 1]? = some r
structure V3 (v : VV) : Prop where
  c8 : v.c.length = 8
  f6 : v.f.length = 6
  l3 : v.l.length = 3
theorem VOk.v3 {x : VI} {v : VV} (o : VOk x v) : V3 v := ⟨o.c8, o.f.n6, o.k.l3⟩
def vld (v : VV) (rs : List RE) : Bool := rs.all fun e => decide (verOf v e.1 e.2.1 = e.2.2)
def fE (rs : List RE) (k i : Int) : Option Int := (rs.find? fun e => decide (e.1 = k ∧ e.2.1 = i)).map fun e => e.2.2
def noteA (v : VV) (rs : List RE) (st k i : Int) : Bool × List RE × Int := match fE rs k i with
  | some w => (w == verOf v k i, rs, st)
  | none => if verOf v k i > st then (if vld v rs = true then (true, rs ++ [(k, i, verOf v k i)], v.t) else (false, rs, st)) else (true, rs ++ [(k, i, verOf v k i)], st)
theorem verOf_out {v : VV} (o : V3 v) {k i : Int} (h : ¬ (0 ≤ k ∧ k ≤ 2 ∧ 0 ≤ i ∧ i < 8)) : verOf v k i = 0 := by
  unfold verOf
  split
  · rw [cellAt_int_out (by rw [o.c8]; omega)]
  · split
    · rw [fileAt_out (by rw [o.f6]; omega)]
    · split
      · rw [cellAt_int_out (by rw [o.l3]; omega)]
      · rfl
theorem now_ver {v : VV} (o : V3 v) {k i : Nat} (hk : k ≤ 2) (hi : i < 8) : (nowF v)[k * 8 + i]? = some (.int .i64 (verOf v (k : Int) (i : Int))) := by
  have hc : k = 0 ∨ k = 1 ∨ k = 2 := by omega
  rcases hc with rfl | rfl | rfl
  · rw [Nat.zero_mul, Nat.zero_add, now_c hi]; rfl
  · by_cases h6 : i < 6
    · rw [Nat.one_mul, now_f h6]; rfl
    · have : verOf v ((1 : Nat) : Int) (i : Int) = 0 := by
        show (fileAt v.f (i : Int)).2 = 0
        rw [fileAt_out (by rw [o.f6]; omega)]
      rw [this]
      have h2 : i = 6 ∨ i = 7 := by omega
      rcases h2 with rfl | rfl <;> rfl
  · by_cases h3 : i < 3
    · rw [show 2 * 8 + i = 16 + i by omega, now_l h3]; rfl
    · have : verOf v ((2 : Nat) : Int) (i : Int) = 0 := by
        show (cellAt_int v.l (i : Int)).2 = 0
        rw [cellAt_int_out (by rw [o.l3]; omega)]
      rw [this]
      have h2 : i = 3 ∨ i = 4 ∨ i = 5 ∨ i = 6 ∨ i = 7 := by omega
      rcases h2 with rfl | rfl | rfl | rfl | rfl <;> rfl
section
variable {B : RO} {h0 h h' : Heap} {L M : List (Option (Nat × AObj))} {j kS : Nat} {vS : Value} {st : Int} {r : Option (Nat × AObj)} {rs : List RE} {v : VV} {k i : Int}
theorem nof_wp {Q : Int → Heap → Prop} (o : V3 v) (hQ : Q (verOf v k i) h) : C_reads_Now_Of B (nowF v) k i h Q := by
  refine C_reads_Now_Of.of ?_
  unfold S_reads_Now_Of
  intro k5 a5 b5 h6 e6
  have E := (Keep.nil B h).made a5 b5 e6
  have out : ¬ (0 ≤ k ∧ k ≤ 2 ∧ 0 ≤ i ∧ i < 8) → Fin B h6 (Q 0) := fun hn => by
    rw [verOf_out o hn] at hQ
    exact Fin.ent E.back (Fin.of hQ)
  refine ⟨fun h1 => out (by omega), fun h1 => ⟨fun h2 => out (by omega), fun h2 => ⟨fun h3 => out (by omega), fun h3 => ⟨fun h4 => out (by omega), fun h4 => Fin.of ?_⟩⟩⟩⟩
  unfold S_reads_Now_Of_J1
  obtain ⟨k, rfl⟩ := Int.eq_ofNat_of_zero_le (by omega : 0 ≤ k)
  obtain ⟨i, rfl⟩ := Int.eq_ofNat_of_zero_le (by omega : 0 ≤ i)
  refine ⟨by omega, by omega, by omega, by omega, _, ?_, Fin.ent E.back (Fin.of hQ)⟩
  rw [addr_more, addr_more]
  refine cellH_vec (E.at 0 rfl) ?_
  rw [plains_get, show 0 + Int.toNat (k : Int) * 8 + Int.toNat (i : Int) * 1 = k * 8 + i by simp, now_ver o (by omega) (by omega)]; rfl
theorem ERow.len {a : Option Addr} {m c : Nat} (R : ERow r (.slice a m c) rs) : m = rs.length := (Row.rd (B := fun _ => none) R enR_len (by omega)).1
theorem valid_wp {Q : Bool → Heap → Prop} (E : Keep B h0 L h) (A : RdAt L j kS vS st r) (R : ERow r vS rs) (hl : rs.length ≤ 100000) (o : V3 v) (hQ : ∀ h', Keep B h0 L h' → Q (vld v rs) h') : C_reads_Set_Valid B (some ⟨kS, 0, none⟩) (nowF v) h Q := by
  refine C_reads_Set_Valid.of ?_
  unfold S_reads_Set_Valid
  intro k4 a4 b4 h5 e5
  have E1 := E.start.nM a4 b4 e5
  obtain ⟨a, m, c, rfl⟩ := Row.slice R
  obtain rfl := ERow.len R
  obtain ⟨_, rd⟩ := Row.rd (B := B) R enR_len (by omega)
  refine ⟨fun e => (by cases e), fun _ => ⟨_, rfl, .inl ⟨a, _, c, E1.cell j (up_app _ A.p) rfl, ?_⟩⟩⟩
  refine ⟨fun q m h' => ∃ p : Nat, p ≤ rs.length ∧ q = p ∧ m = rs.length - p ∧ vld v (rs.take p) = true ∧ Keep B h0 (L ++ [some (k4, .vec TY.reads_Now (plains (nowF v)) 25)]) h', rs.length, Fin.of ⟨0, by omega, rfl, rfl, rfl, E1⟩, ?_⟩
  clear E1 e5
  rintro _ _ h14 ⟨p, hp, rfl, rfl, hv, E2⟩
  refine ⟨fun hlt => ?_, fun hge => Fin.of ?_⟩
  · have hpl : p < rs.length := by omega
    have hx := List.getElem?_eq_getElem hpl
    have htk : vld v (rs.take (p + 1)) = (vld v (rs.take p) && decide (verOf v rs[p].1 rs[p].2.1 = rs[p].2.2)) := by
      unfold vld; rw [List.take_succ_eq_append_getElem hpl, List.all_append]; simp
    have hall : ¬ verOf v rs[p].1 rs[p].2.1 = rs[p].2.2 → vld v rs = false := fun hn => by
      unfold vld; rw [List.all_eq_false]; exact ⟨rs[p], List.getElem_mem _, by simp [hn]⟩
    generalize rs[p] = x at hx htk hall
    obtain ⟨A', f1, _, f2⟩ := rd h14 (fun k o e => E2.at (j + 1) (by rw [up_app _ A.q, e])) p x hx
    refine ⟨A', f1, by omega, by omega, x.1, x.2.1, x.2.2, f2, fun k24 a24 b24 h25 e25 => ?_⟩
    have E3 := E2.nM a24 b24 e25
    refine ⟨_, stores_whole (E3.gM 1 rfl) rfl (by simp) (by simp [isOne]) (by simp), ?_⟩
    have E4 := E3.pM (o' := .vec TY.reads_Entry (plains [.int .i64 x.1, .int .i64 x.2.1, .int .i64 x.2.2]) 3) 1 rfl
    refine ⟨nowF v, rfl, E4.allM 0 rfl, _, E4.cM 1 rfl (i := 0) rfl, _, E4.cM 1 rfl (i := 1) rfl, _, E4.cM 1 rfl (i := 2) rfl, nof_wp o ⟨E4.allM 0 rfl, E4.cM 1 rfl (i := 0) rfl, E4.cM 1 rfl (i := 1) rfl, E4.cM 1 rfl (i := 2) rfl, fun he => Fin.of ?_, fun hn => Fin.of ?_⟩⟩
    · exact ⟨rs.length - (p + 1), by omega, p + 1, by omega, wrapS (by omega), rfl, by rw [htk, hv, he]; simp, E4.tM 1⟩
    · rw [← hall hn]; exact hQ _ E4.zM
  · have : p = rs.length := by omega
    subst this
    rw [List.take_length] at hv
    rw [← hv]; exact hQ _ E2.zM
theorem fE_none : fE rs k i = none ↔ ∀ e ∈ rs, ¬ (e.1 = k ∧ e.2.1 = i) := by
  unfold fE; rw [Option.map_eq_none_iff, List.find?_eq_none]; simp
theorem fE_at {p : Nat} {e : RE} (hp : rs[p]? = some e) (hm : e.1 = k ∧ e.2.1 = i) (hn : ∀ q e', q < p → rs[q]? = some e' → ¬ (e'.1 = k ∧ e'.2.1 = i)) : fE rs k i = some e.2.2 := by
  obtain ⟨hl, rfl⟩ := List.getElem?_eq_some_iff.1 hp
  have hs : rs = rs.take p ++ rs[p] :: rs.drop (p + 1) := by rw [← List.drop_eq_getElem_cons hl, List.take_append_drop]
  unfold fE
  generalize rs[p] = x at *
  rw [hs, List.find?_append, List.find?_eq_none.2 (fun e' he' => by
    obtain ⟨q, hq, rfl⟩ := List.mem_iff_getElem.1 he'
    rw [List.length_take] at hq
    rw [List.getElem_take]
    have := hn q rs[q] (by omega) (List.getElem?_eq_getElem (by omega))
    simpa using this)]
  rw [Option.none_or, List.find?_cons_of_pos (by simpa using hm)]; rfl
theorem place1_wp {e : RE} {a b : Addr} {Q : Bool → Heap → Prop} (c1 : cellH B h a = some (.int .i64 k)) (c2 : cellH B h b = some (.int .i64 i)) (hQ : ∀ h', Keep B h [] h' → Q (decide (e.1 = k ∧ e.2.1 = i)) h') : C_reads_Set_place_1 B e.1 e.2.1 e.2.2 a b h Q := by
  refine C_reads_Set_place_1.of ?_
  unfold S_reads_Set_place_1
  intro k7 a7 b7 h8 e8
  have E := (Keep.nil B h).made a7 b7 e8
  have w := E.w
  refine ⟨_, E.cell 0 rfl rfl, k, w.cell c1, fun he => ⟨_, E.cell 0 rfl rfl, i, w.cell c2, Fin.of ?_⟩, fun hn => Fin.of ?_⟩
  · have : (e.2.1 == i) = decide (e.1 = k ∧ e.2.1 = i) := by
      rw [Bool.eq_iff_iff]; simp [he]
    rw [this]; exact hQ _ E.pop
  · have := hQ _ E.pop
    rw [decide_eq_false (by simp [hn])] at this; exact this
theorem place_wp {Q : Int → Heap → Prop} (E : Keep B h0 L h) (A : RdAt L j kS vS st r) (R : ERow r vS rs) (hl : rs.length ≤ 100000) (hS : ∀ p e h', rs[p]? = some e → fE rs k i = some e.2.2 → Keep B h0 L h' → Q (p : Nat) h') (hN : fE rs k i = none → ∀ h', Keep B h0 L h' → Q (-1) h') : C_reads_Set_place B (some ⟨kS, 0, none⟩) k i h Q := by
  refine C_reads_Set_place.of ?_
  unfold S_reads_Set_place
  intro k5 a5 b5 h6 e6 k7 a7 b7 h8 e8
  have E1 := (E.start.nM a5 b5 e6).nM a7 b7 e8
  obtain ⟨a, m, c, rfl⟩ := Row.slice R
  obtain rfl := ERow.len R
  obtain ⟨_, rd⟩ := Row.rd (B := B) R enR_len (by omega)
  refine ⟨_, rfl, .inl ⟨a, _, c, E1.cell j (up_app _ A.p) rfl, ?_⟩⟩
  refine C_slices_IndexFunc_s_reads_Entry_reads_Entry.of ?_
  unfold S_slices_IndexFunc_s_reads_Entry_reads_Entry
  refine ⟨fun q m h' => ∃ p : Nat, p ≤ rs.length ∧ q = p ∧ m = rs.length - p ∧ (∀ q e, q < p → rs[q]? = some e → ¬ (e.1 = k ∧ e.2.1 = i)) ∧ Keep B h0 (L ++ [some (k5, .vec TY.reads_Kind (plains [.int .i64 k]) 1), some (k7, .vec TY.int (plains [.int .i64 i]) 1)]) h', rs.length, Fin.of ⟨0, by omega, rfl, rfl, fun q e hq => by omega, E1⟩, ?_⟩
  clear E1 e6 e8
  rintro _ _ h14 ⟨p, hp, rfl, rfl, hv, E2⟩
  refine ⟨fun hlt => ?_, fun hge => Fin.of (Fin.of ?_)⟩
  · have hpl : p < rs.length := by omega
    have hx := List.getElem?_eq_getElem hpl
    generalize rs[p] = x at hx
    obtain ⟨A', f1, _, f2⟩ := rd h14 (fun k o e => E2.at (j + 1) (by rw [up_app _ A.q, e])) p x hx
    refine ⟨A', f1, by omega, by omega, x.1, x.2.1, x.2.2, f2, CallV.func TG.reads_Set_place_1 (place1_wp (e := x) (E2.cM 0 rfl (i := 0) rfl) (E2.cM 1 rfl (i := 0) rfl) fun h17 E3 => ⟨fun hT => Fin.of (Fin.of ?_), fun hF => Fin.of ?_⟩)⟩
    · rw [decide_eq_true_eq] at hT
      exact hS p x h17 hx (fE_at hx hT hv) (E2.wk E3.w).zM
    · rw [decide_eq_false_iff_not] at hF
      refine ⟨rs.length - (p + 1), by omega, p + 1, by omega, wrapS (by omega), rfl, fun q e hq hg => ?_, E2.wk E3.w⟩
      by_cases he : q = p
      · subst he; rw [hx] at hg; cases hg; exact hF
      · exact hv q e (by omega) hg
  · refine hN (fE_none.2 fun e he => ?_) _ E2.zM
    obtain ⟨q, hq, rfl⟩ := List.mem_iff_getElem.1 he
    exact hv q _ (by omega) (List.getElem?_eq_getElem hq)
theorem set_self {q : Nat} {y : Option (Nat × AObj)} (h : L[q]? = some y) : L.set q y = L := by
  obtain ⟨_, h2⟩ := List.getElem?_eq_some_iff.1 h
  rw [← h2, List.set_getElem_self]
theorem Note_J1 {Q : Bool → Heap → Prop} (E : Keep B h0 L h) (A : RdAt L j kS vS st r) (R : ERow r vS rs) (hl : rs.length ≤ 100000) {w : Int} (hQ : ∀ vS' r' h', ERow r' vS' (rs ++ [(k, i, w)]) → Keep B h0 ((L.set j (some (kS, rsO vS' st))).set (j + 1) r') h' → Q true h') : S_reads_Set_Note_J1 B (some ⟨kS, 0, none⟩) k i w h Q := by
  unfold S_reads_Set_Note_J1
  obtain ⟨a, m, c, rfl⟩ := Row.slice R
  obtain rfl := ERow.len R
  have hj := (List.getElem?_eq_some_iff.1 A.p).1
  have hj1 := (List.getElem?_eq_some_iff.1 A.q).1
  have hfl := flatMap_length enR_len rs
  refine ⟨_, rfl, .inl ⟨a, _, c, E.cell j A.p rfl, fun k31 a31 b31 h32 e32 => ?_⟩⟩
  have E1 := E.made a31 b31 e32
  have g := E1.last
  refine E1.pushS (j + 1) (n := 1) (ys := enR (k, i, w)) (up_app _ A.q) R TK.slc_re TK.zero_re rfl (by omega) (by omega) TK.sl_re ⟨rfl, enR_one _, .inl ⟨_, _, rfl, CellsAt.of_vec (enR (k, i, w)) 0 g fun q y hy => by rw [show 0 + 0 + q = q by omega]; exact plains_get_some hy⟩⟩ (by rw [hfl, enR_len]; omega) fun a' m' c' r' h61 R' E2 => ?_
  rw [List.set_append_left _ _ hj1] at E2
  have hp : (L.set (j + 1) r' ++ [some (k31, AObj.vec TY.reads_Entry (plains (enR (k, i, w))) 3)])[j]? = some (some (kS, rsO (.slice a rs.length c) st)) := up_app _ (by rw [List.getElem?_set_ne (by omega)]; exact A.p)
  obtain ⟨es, E3⟩ := E2.store j 0 (.slice a' m' c') hp rfl
  refine ⟨a', m', c', rfl, _, rfl, _, es, Fin.of (hQ (.slice a' m' c') r' _ ?_ ?_)⟩
  · unfold ERow; rw [List.flatMap_append]; simpa using R'
  · rw [List.set_append_left _ _ (by rw [List.length_set]; omega), List.set_comm _ _ (by omega)] at E3
    exact E3.popL
theorem note_wp {Q : Bool → Heap → Prop} (E : Keep B h0 L h) (A : RdAt L j kS vS st r) (R : ERow r vS rs) (hl : rs.length ≤ 90000) (o : V3 v)
    (hQ : ∀ vS' r' h', ERow r' vS' (noteA v rs st k i).2.1 → Keep B h0 ((L.set j (some (kS, rsO vS' (noteA v rs st k i).2.2))).set (j + 1) r') h' → Q (noteA v rs st k i).1 h') : C_reads_Set_Note B (some ⟨kS, 0, none⟩) (nowF v) k i h Q := by
  refine C_reads_Set_Note.of ?_
  unfold S_reads_Set_Note
  have hj := (List.getElem?_eq_some_iff.1 A.p).1
  have hj1 := (List.getElem?_eq_some_iff.1 A.q).1
  intro k6 a6 b6 h7 e7
  have E1 := E.start.nM a6 b6 e7
  refine ⟨fun e => (by cases e), fun _ => ⟨nowF v, rfl, E1.allM 0 rfl, nof_wp o ?_⟩⟩
  have A1 : ∀ {y : Option (Nat × AObj)}, RdAt (L ++ [y]) j kS vS st r := ⟨up_app _ A.p, up_app _ A.q⟩
  have same : ∀ h', Keep B h0 L h' → Keep B h0 ((L.set j (some (kS, rsO vS st))).set (j + 1) r) h' := fun h' E => by
    rw [set_self A.p, set_self A.q]; exact E
  obtain ⟨_, rd⟩ : ∃ u : Unit, ∀ a m c, vS = .slice a m c → m = rs.length ∧ RowRd B r a 3 enR rs := ⟨(), fun a m c e => by subst e; exact Row.rd (B := B) R enR_len (by omega)⟩
  refine place_wp E1 A1 R (by omega) (fun p e h12 hp hf E2 => ⟨fun _ => ?_, fun hn => by omega⟩) (fun hf h12 E2 => ⟨fun hn => by omega, fun _ => ?_⟩)
  · obtain ⟨a, m, c, rfl⟩ := Row.slice R
    obtain ⟨hm, rd⟩ := rd a m c rfl
    obtain ⟨A', f1, _, f2⟩ := rd h12 (fun k o e => E2.at (j + 1) (by rw [up_app _ A.q, e])) p e hp
    have hpl := (List.getElem?_eq_some_iff.1 hp).1
    have hc : cellH B h12 (Addr.add (Addr.add A' (Int.toNat (p : Int) * 3)) 2) = some (.int .i64 e.2.2) := by rw [Int.toNat_natCast]; exact f2.2.2.1
    refine ⟨_, rfl, .inl ⟨a, m, c, E2.cell j (up_app _ A.p) rfl, A', f1, by omega, by omega, _, hc, Fin.of ?_⟩⟩
    have h1 : noteA v rs st k i = (e.2.2 == verOf v k i, rs, st) := by unfold noteA; rw [hf]
    rw [h1] at hQ
    exact hQ _ r _ R (same _ E2.zM)
  · refine ⟨_, rfl, st, E2.cell j (up_app _ A.p) rfl, fun hgt => ⟨nowF v, rfl, E2.allM 0 rfl, valid_wp E2 A1 R (by omega) o fun h44 E3 => ⟨fun hT => ?_, fun hF => Fin.of ?_⟩⟩, fun hle => Fin.of ?_⟩
    · have h1 : noteA v rs st k i = (true, rs ++ [(k, i, verOf v k i)], v.t) := by unfold noteA; rw [hf]; simp only; rw [if_pos hgt, if_pos hT]
      rw [h1] at hQ
      obtain ⟨es, E4⟩ := E3.store j 1 (.int .i64 v.t) (up_app _ A.p) rfl
      refine ⟨v.t, cellH_vec (E3.gM 0 rfl) rfl, _, rfl, _, es, Fin.of ?_⟩
      rw [List.set_append_left _ _ hj] at E4
      refine Note_J1 (E4.zM) (st := v.t) ⟨List.getElem?_set_self hj, by rw [List.getElem?_set_ne (by omega)]; exact A.q⟩ R (by omega) fun vS' r' h' R' E5 => hQ vS' r' h' R' (by rw [List.set_set] at E5; exact E5)
    · have h1 : noteA v rs st k i = (false, rs, st) := by unfold noteA; rw [hf]; simp only; rw [if_pos hgt, if_neg (by rw [hF]; simp)]
      rw [h1] at hQ
      exact hQ _ r _ R (same _ E3.zM)
    · have h1 : noteA v rs st k i = (true, rs ++ [(k, i, verOf v k i)], st) := by unfold noteA; rw [hf]; simp only; rw [if_neg (fun h => hle h)]
      rw [h1] at hQ
      exact Note_J1 E2.zM A R (by omega) hQ
end
end Go.Proofs.Ytgldgabefiialaa.H
namespace Go.Proofs.Ytgldgabefiialaa.H
open Go Go.RowKit
set_option linter.unusedVariables false
set_option maxRecDepth 100000
def StV.cr (s : StV) (i : Int) : Int := if i = 0 then s.c0 else if i = 1 then s.c1 else if i = 2 then s.c2 else 0
def StV.step (s : StV) (i : Int) : StV := if i = 0 then { s with c0 := s.c0 + 1 } else if i = 1 then { s with c1 := s.c1 + 1 } else if i = 2 then { s with c2 := s.c2 + 1 } else s
theorem StV.step_cr (s : StV) {i j : Int} (hi : 0 ≤ i ∧ i < 3) : (s.step i).cr j = if j = i then s.cr i + 1 else s.cr j := by
  have hc : i = 0 ∨ i = 1 ∨ i = 2 := by omega
  rcases hc with rfl | rfl | rfl
  · show StV.cr { s with c0 := s.c0 + 1 } j = if j = 0 then s.c0 + 1 else s.cr j
    unfold StV.cr; by_cases h : j = 0 <;> simp [h]
  · show StV.cr { s with c1 := s.c1 + 1 } j = if j = 1 then s.c1 + 1 else s.cr j
    unfold StV.cr; by_cases h : j = 1
    · subst h; rfl
    · simp [h]
  · show StV.cr { s with c2 := s.c2 + 1 } j = if j = 2 then s.c2 + 1 else s.cr j
    unfold StV.cr; by_cases h : j = 2
    · subst h; rfl
    · simp [h]
theorem StV.step_d (s : StV) (i : Int) : (s.step i).d = s.d ∧ (s.step i).f = s.f := by
  unfold StV.step; (repeat' split) <;> exact ⟨rfl, rfl⟩
structure AK where
  kA : Nat
  kS : Nat
  kX : Nat
  kK : Nat
structure AU where
  vS : Value
  rS : Option (Nat × AObj)
  x : StI
structure AV where
  rs : List RE
  st : Int
  s : StV
  g : Reg4
def attO (V : VI) (K : AK) (x : StI) (g : Reg4) : AObj := .vec TY.attempt_Attempt (plains [.pointer (some ⟨V.kV, 0, none⟩), .pointer (some ⟨K.kS, 0, none⟩), .pointer (some ⟨x.kd, 0, none⟩), .pointer (some ⟨x.ks, 0, none⟩), .pointer (some ⟨x.kc, 0, none⟩), .int .i64 g.a, .int .i64 g.b, .int .i64 g.c, .int .i64 g.d, .pointer (some ⟨K.kX, 0, none⟩), .pointer (some ⟨K.kK, 0, none⟩)]) 11
def AE (V : VI) (K : AK) (U : AU) (s : AV) : List (Option (Nat × AObj)) := [some (K.kA, attO V K U.x s.g), some (K.kS, rsO U.vS s.st), U.rS, some (U.x.kd, drO_int U.x.vd), U.x.rd, some (U.x.ks, shtO U.x.kf), some (U.x.kf, drO_file_File U.x.vf), U.x.rf, some (U.x.kc, curO s.s)]
structure AOk (v : VV) (s : AV) : Prop where
  so : SOk v.f s.s.f
  sd : SortD s.s.d
  dk : ∀ x ∈ s.s.d, 0 ≤ x.1 ∧ x.1 < 8
  cr : ∀ i, 0 ≤ s.s.cr i ∧ s.s.cr i ≤ 64
theorem sort_lenN {W : Type} (n : Nat) : ∀ (d : List (Int × W)) (a : Nat), SortD d → (∀ x ∈ d, (a : Int) ≤ x.1 ∧ x.1 < n) → d.length ≤ n - a := by
  intro d
  induction d with
  | nil => intro a _ _; simp
  | cons x d ih =>
    intro a s h
    obtain ⟨h1, h2⟩ := h x (by simp)
    obtain ⟨s1, s2⟩ := List.pairwise_cons.1 s
    have := ih (a + 1) s2 (fun y hy => ⟨by have := s1 y hy; omega, (h y (by simp [hy])).2⟩)
    simp only [List.length_cons]; omega
theorem AOk.dlen {v : VV} {s : AV} (o : AOk v s) : s.s.d.length ≤ 8 := sort_lenN 8 s.s.d 0 o.sd fun x hx => o.dk x hx
structure SS (B : RO) (h0 : Heap) (L : List (Option (Nat × AObj))) (h : Heap) (V : VI) (v : VV) (K : AK) (U : AU) (s : AV) : Prop where
  E : Keep B h0 (L ++ (V.e v ++ AE V K U s)) h
  o : VOk V v
  R : ERow U.rS U.vS s.rs
  O : U.x.Ok s.s
  a : AOk v s
def s0 (v : VV) (g : Reg4) : AV := ⟨[], v.t, StV.z, g⟩
theorem SOk.nil {l : FL} (k : TomeOk l) : SOk l [] := ⟨List.Pairwise.nil, fun x hx => (by cases hx), k.n6, k.good⟩
theorem AOk.zero {v : VV} {V : VI} (o : VOk V v) {g : Reg4} : AOk v (s0 v g) := ⟨SOk.nil o.f, List.Pairwise.nil, fun x hx => (by cases hx), fun i => by simp only [s0, StV.z, StV.cr]; (repeat' split) <;> omega⟩
section
variable {B : RO} {h0 h h' : Heap} {L M : List (Option (Nat × AObj))} {V : VI} {v : VV} {K : AK} {U : AU} {s : AV} {k : Nat} {i j : Int} {c : StV} {g : Reg4}
theorem cur_cell (hk : h k = some (curO c)) (hi : 0 ≤ i ∧ i < 3) : cellH B h (Addr.add ⟨k, 0, none⟩ (Int.toNat i * 1)) = some (.int .i64 (c.cr i)) := by
  rw [addr_more]
  have hc : i = 0 ∨ i = 1 ∨ i = 2 := by omega
  rcases hc with rfl | rfl | rfl <;> exact cellH_vec hk rfl
theorem pis_wp {n : Int} {Q : Bool → Heap → Prop} (hQ : Q (decide (0 ≤ n ∧ n < 3)) h) : C_cursor_is B n h Q := by
  refine C_cursor_is.of ?_
  unfold S_cursor_is
  refine ⟨fun h1 => Fin.of ?_, fun h1 => Fin.of ?_⟩
  · have : decide (0 ≤ n ∧ n < 3) = decide (n < 3) := by simp; omega
    rw [this] at hQ; exact hQ
  · rw [decide_eq_false (by omega)] at hQ; exact hQ
theorem cread_wp {Q : Int → Heap → Prop} (hk : h k = some (curO c)) (hi : 0 ≤ i ∧ i < 3) (hQ : Q (c.cr i) h) : C_cursor_Cursor_Read B (some ⟨k, 0, none⟩) i h Q := by
  refine C_cursor_Cursor_Read.of ?_
  unfold S_cursor_Cursor_Read
  refine ⟨fun e => (by cases e), fun _ => pis_wp ⟨fun _ => Fin.of ?_, fun e => absurd e (by simp; omega)⟩⟩
  unfold S_cursor_Cursor_Read_J1
  exact ⟨_, rfl, by omega, by omega, _, cur_cell hk hi, Fin.of hQ⟩
theorem cat_wp {p : Int} {Q : Int → Heap → Prop} (hk : h k = some (curO c)) (hi : 0 ≤ i ∧ i < 3) (hQ : Q (IntKind.wrap .i64 (p + c.cr i)) h) : C_cursor_Cursor_At B (some ⟨k, 0, none⟩) i p h Q := by
  refine C_cursor_Cursor_At.of ?_
  unfold S_cursor_Cursor_At
  refine ⟨fun e => (by cases e), fun _ => pis_wp ⟨fun _ => Fin.of ?_, fun e => absurd e (by simp; omega)⟩⟩
  unfold S_cursor_Cursor_At_J1
  exact ⟨_, rfl, by omega, by omega, _, cur_cell hk hi, Fin.of hQ⟩
theorem cstep_wp {q : Nat} {Q : Bool → Heap → Prop} (E : Keep B h0 L h) (hq : L[q]? = some (some (k, curO c))) (hi : 0 ≤ i ∧ i < 3) (hc : 0 ≤ c.cr i ∧ c.cr i < 64) (hQ : ∀ h', Keep B h0 (L.set q (some (k, curO (c.step i)))) h' → Q true h') : C_cursor_Cursor_Step B (some ⟨k, 0, none⟩) i h Q := by
  refine C_cursor_Cursor_Step.of ?_
  unfold S_cursor_Cursor_Step
  have hk := E.at q hq
  refine ⟨fun e => (by cases e), fun _ => pis_wp ⟨fun _ => ⟨_, rfl, by omega, by omega, _, cur_cell hk hi, fun hg => by omega, fun hl => Fin.of ?_⟩, fun e => absurd e (by simp; omega)⟩⟩
  unfold S_cursor_Cursor_Step_J1
  have hw : IntKind.wrap .i64 (c.cr i + 1) = c.cr i + 1 := w64 (by omega) (by omega)
  refine ⟨_, rfl, by omega, by omega, _, cur_cell hk hi, _, rfl, by omega, by omega, ?_⟩
  rw [hw, addr_more]
  have h3 : i = 0 ∨ i = 1 ∨ i = 2 := by omega
  rcases h3 with rfl | rfl | rfl
  · obtain ⟨es, E1⟩ := E.store q 0 (.int .i64 (c.cr 0 + 1)) hq rfl
    exact ⟨_, es, Fin.of (hQ _ E1)⟩
  · obtain ⟨es, E1⟩ := E.store q 1 (.int .i64 (c.cr 1 + 1)) hq rfl
    exact ⟨_, es, Fin.of (hQ _ E1)⟩
  · obtain ⟨es, E1⟩ := E.store q 2 (.int .i64 (c.cr 2 + 1)) hq rfl
    exact ⟨_, es, Fin.of (hQ _ E1)⟩
theorem rnew_wp {st : Int} {Q : Option Addr → Heap → Prop} (hQ : ∀ k, h k = none → B k = none → Q (some ⟨k, 0, none⟩) (h.set k (rsO (.slice none 0 0) st))) : C_reads_New B st h Q := by
  refine C_reads_New.of ?_
  unfold S_reads_New
  intro k a b h1 e
  subst e
  exact Fin.of (hQ k a b)
theorem Keep.apM {M' : List (Option (Nat × AObj))} (E : Keep B h0 (L ++ M) h) (E' : Keep B h M' h') : Keep B h0 (L ++ (M ++ M')) h' := by
  rw [← List.append_assoc]; exact E.append E'
def acO0 : AObj := .vec TY.acts_Acts (plains [.slice none 0 0, .slice none 0 0, .slice none 0 0, .slice none 0 0]) 4
theorem new_J1 {k7 : Nat} {Q : Option Addr → Heap → Prop} (E0 : Keep B h0 ((L ++ V.e v) ++ [some (k7, .vec TY.api_Regs (plains [.int .i64 g.a, .int .i64 g.b, .int .i64 g.c, .int .i64 g.d]) 4)]) h) (o : VOk V v)
    (hQ : ∀ K U h', SS B h0 (L ++ [some (K.kX, acO0), some (K.kK, skO (.slice none 0 0))]) h' V v K U (s0 v g) → Q (some ⟨K.kA, 0, none⟩) h') : S_attempt_New_J1 B k7 (some ⟨V.kV, 0, none⟩) h Q := by
  have pr : ∀ {M : List (Option (Nat × AObj))} {h1 : Heap}, Keep B h0 ((L ++ V.e v) ++ (some (k7, .vec TY.api_Regs (plains [.int .i64 g.a, .int .i64 g.b, .int .i64 g.c, .int .i64 g.d]) 4) :: M)) h1 → cellH B h1 (Addr.add ⟨V.kV, 0, none⟩ 3) = some (.int .i64 v.t) ∧ CellsAt B h1 ⟨k7, 0, none⟩ 0 [.int .i64 g.a, .int .i64 g.b, .int .i64 g.c, .int .i64 g.d] := fun {M h1} E => by
    refine ⟨?_, E.cM 0 rfl (i := 0) rfl, E.cM 0 rfl (i := 1) rfl, E.cM 0 rfl (i := 2) rfl, E.cM 0 rfl (i := 3) rfl, trivial⟩
    rw [List.append_assoc] at E
    exact cellH_vec ((VAt.mk (L := L) (x := V) (v := v)).at E 0 (by decide) rfl) rfl
  have fin : ∀ {kS kX kK : Nat} {x : StI} {h1 : Heap}, StI.Ok x StV.z → Keep B h0 ((L ++ V.e v) ++ [some (k7, .vec TY.api_Regs (plains [.int .i64 g.a, .int .i64 g.b, .int .i64 g.c, .int .i64 g.d]) 4), some (kS, rsO (.slice none 0 0) v.t), some (x.kd, drO_int x.vd), x.rd, some (x.ks, shtO x.kf), some (x.kf, drO_file_File x.vf), x.rf, some (x.kc, curO StV.z), some (kX, acO0), some (kK, skO (.slice none 0 0))]) h1 → S_attempt_New_J2 B k7 (some ⟨V.kV, 0, none⟩) ⟨V.kV, 0, none⟩ v.t g.a g.b g.c g.d (some ⟨kS, 0, none⟩) (some ⟨x.kd, 0, none⟩) (some ⟨x.ks, 0, none⟩) (some ⟨x.kc, 0, none⟩) g.a g.b g.c g.d ⟨kX, 0, none⟩ ⟨kK, 0, none⟩ h1 Q := fun {kS kX kK x h1} O E => by
    unfold S_attempt_New_J2
    intro kA a b h2 e2
    have E1 := E.nM a b e2
    refine ⟨(pr E1).1, (pr E1).2, Fin.of (hQ ⟨kA, kS, kX, kK⟩ ⟨.slice none 0 0, none, x⟩ _ ⟨?_, o, Row.nil _ _, O, AOk.zero o⟩)⟩
    rw [List.append_assoc] at E1 ⊢
    exact E1.sM [15, 16, 0, 1, 2, 3, 4, 5, 6, 17, 8, 99, 9, 10, 11, 12, 13, 14] (by decide)
  unfold S_attempt_New_J1
  refine ⟨_, rfl, v.t, (pr E0).1, g.a, g.b, g.c, g.d, (pr E0).2, ?_⟩
  refine ⟨?_, ?_, ?_⟩
  · skip
    refine rnew_wp fun q1 a1 b1 => ?_
    have E1 := E0.nM (o := rsO (.slice none 0 0) v.t) a1 b1 rfl
    refine ⟨(pr E1).1, (pr E1).2, ?_⟩
    refine ⟨?_, ?_, ?_⟩
    · skip
      refine fresh_wp (g := g) fun x2 h2 O2 F2 => ?_
      have E2 := E1.apM F2
      refine ⟨(pr E2).1, (pr E2).2, ?_⟩
      refine ⟨?_, ?_⟩
      · skip
        intro q3 a3 b3 h3 e3
        have E3 := E2.nM a3 b3 e3
        refine ⟨(pr E3).1, (pr E3).2, ?_⟩
        intro q4 a4 b4 h4 e4
        have E4 := E3.nM a4 b4 e4
        refine ⟨(pr E4).1, (pr E4).2, ?_⟩
        exact fin (by assumption) (E4.sM [0, 1, 2, 3, 4, 5, 6, 7, 8, 9] (by decide))
      · skip
        intro q5 a5 b5 h5 e5
        have E5 := E2.nM a5 b5 e5
        refine ⟨(pr E5).1, (pr E5).2, ?_⟩
        intro q6 a6 b6 h6 e6
        have E6 := E5.nM a6 b6 e6
        refine ⟨(pr E6).1, (pr E6).2, ?_⟩
        exact fin (by assumption) (E6.sM [0, 1, 2, 3, 4, 5, 6, 7, 9, 8] (by decide))
    · skip
      intro q7 a7 b7 h7 e7
      have E7 := E1.nM a7 b7 e7
      refine ⟨(pr E7).1, (pr E7).2, ?_⟩
      refine ⟨?_, ?_⟩
      · skip
        refine fresh_wp (g := g) fun x8 h8 O8 F8 => ?_
        have E8 := E7.apM F8
        refine ⟨(pr E8).1, (pr E8).2, ?_⟩
        intro q9 a9 b9 h9 e9
        have E9 := E8.nM a9 b9 e9
        refine ⟨(pr E9).1, (pr E9).2, ?_⟩
        exact fin (by assumption) (E9.sM [0, 1, 3, 4, 5, 6, 7, 8, 2, 9] (by decide))
      · skip
        intro q10 a10 b10 h10 e10
        have E10 := E7.nM a10 b10 e10
        refine ⟨(pr E10).1, (pr E10).2, ?_⟩
        refine fresh_wp (g := g) fun x11 h11 O11 F11 => ?_
        have E11 := E10.apM F11
        refine ⟨(pr E11).1, (pr E11).2, ?_⟩
        exact fin (by assumption) (E11.sM [0, 1, 4, 5, 6, 7, 8, 9, 2, 3] (by decide))
    · skip
      intro q12 a12 b12 h12 e12
      have E12 := E1.nM a12 b12 e12
      refine ⟨(pr E12).1, (pr E12).2, ?_⟩
      refine ⟨?_, ?_⟩
      · skip
        refine fresh_wp (g := g) fun x13 h13 O13 F13 => ?_
        have E13 := E12.apM F13
        refine ⟨(pr E13).1, (pr E13).2, ?_⟩
        intro q14 a14 b14 h14 e14
        have E14 := E13.nM a14 b14 e14
        refine ⟨(pr E14).1, (pr E14).2, ?_⟩
        exact fin (by assumption) (E14.sM [0, 1, 3, 4, 5, 6, 7, 8, 9, 2] (by decide))
      · skip
        intro q15 a15 b15 h15 e15
        have E15 := E12.nM a15 b15 e15
        refine ⟨(pr E15).1, (pr E15).2, ?_⟩
        refine fresh_wp (g := g) fun x16 h16 O16 F16 => ?_
        have E16 := E15.apM F16
        refine ⟨(pr E16).1, (pr E16).2, ?_⟩
        exact fin (by assumption) (E16.sM [0, 1, 4, 5, 6, 7, 8, 9, 3, 2] (by decide))
  · skip
    intro q17 a17 b17 h17 e17
    have E17 := E0.nM a17 b17 e17
    refine ⟨(pr E17).1, (pr E17).2, ?_⟩
    refine ⟨?_, ?_⟩
    · skip
      refine rnew_wp fun q18 a18 b18 => ?_
      have E18 := E17.nM (o := rsO (.slice none 0 0) v.t) a18 b18 rfl
      refine ⟨(pr E18).1, (pr E18).2, ?_⟩
      refine ⟨?_, ?_⟩
      · skip
        refine fresh_wp (g := g) fun x19 h19 O19 F19 => ?_
        have E19 := E18.apM F19
        refine ⟨(pr E19).1, (pr E19).2, ?_⟩
        intro q20 a20 b20 h20 e20
        have E20 := E19.nM a20 b20 e20
        refine ⟨(pr E20).1, (pr E20).2, ?_⟩
        exact fin (by assumption) (E20.sM [0, 2, 3, 4, 5, 6, 7, 8, 1, 9] (by decide))
      · skip
        intro q21 a21 b21 h21 e21
        have E21 := E18.nM a21 b21 e21
        refine ⟨(pr E21).1, (pr E21).2, ?_⟩
        refine fresh_wp (g := g) fun x22 h22 O22 F22 => ?_
        have E22 := E21.apM F22
        refine ⟨(pr E22).1, (pr E22).2, ?_⟩
        exact fin (by assumption) (E22.sM [0, 2, 4, 5, 6, 7, 8, 9, 1, 3] (by decide))
    · skip
      intro q23 a23 b23 h23 e23
      have E23 := E17.nM a23 b23 e23
      refine ⟨(pr E23).1, (pr E23).2, ?_⟩
      refine rnew_wp fun q24 a24 b24 => ?_
      have E24 := E23.nM (o := rsO (.slice none 0 0) v.t) a24 b24 rfl
      refine ⟨(pr E24).1, (pr E24).2, ?_⟩
      refine fresh_wp (g := g) fun x25 h25 O25 F25 => ?_
      have E25 := E24.apM F25
      refine ⟨(pr E25).1, (pr E25).2, ?_⟩
      exact fin (by assumption) (E25.sM [0, 3, 4, 5, 6, 7, 8, 9, 1, 2] (by decide))
  · skip
    intro q26 a26 b26 h26 e26
    have E26 := E0.nM a26 b26 e26
    refine ⟨(pr E26).1, (pr E26).2, ?_⟩
    refine ⟨?_, ?_⟩
    · skip
      refine rnew_wp fun q27 a27 b27 => ?_
      have E27 := E26.nM (o := rsO (.slice none 0 0) v.t) a27 b27 rfl
      refine ⟨(pr E27).1, (pr E27).2, ?_⟩
      refine ⟨?_, ?_⟩
      · skip
        refine fresh_wp (g := g) fun x28 h28 O28 F28 => ?_
        have E28 := E27.apM F28
        refine ⟨(pr E28).1, (pr E28).2, ?_⟩
        intro q29 a29 b29 h29 e29
        have E29 := E28.nM a29 b29 e29
        refine ⟨(pr E29).1, (pr E29).2, ?_⟩
        exact fin (by assumption) (E29.sM [0, 2, 3, 4, 5, 6, 7, 8, 9, 1] (by decide))
      · skip
        intro q30 a30 b30 h30 e30
        have E30 := E27.nM a30 b30 e30
        refine ⟨(pr E30).1, (pr E30).2, ?_⟩
        refine fresh_wp (g := g) fun x31 h31 O31 F31 => ?_
        have E31 := E30.apM F31
        refine ⟨(pr E31).1, (pr E31).2, ?_⟩
        exact fin (by assumption) (E31.sM [0, 2, 4, 5, 6, 7, 8, 9, 3, 1] (by decide))
    · skip
      intro q32 a32 b32 h32 e32
      have E32 := E26.nM a32 b32 e32
      refine ⟨(pr E32).1, (pr E32).2, ?_⟩
      refine rnew_wp fun q33 a33 b33 => ?_
      have E33 := E32.nM (o := rsO (.slice none 0 0) v.t) a33 b33 rfl
      refine ⟨(pr E33).1, (pr E33).2, ?_⟩
      refine fresh_wp (g := g) fun x34 h34 O34 F34 => ?_
      have E34 := E33.apM F34
      refine ⟨(pr E34).1, (pr E34).2, ?_⟩
      exact fin (by assumption) (E34.sM [0, 3, 4, 5, 6, 7, 8, 9, 2, 1] (by decide))
theorem anew_wp {Q : Option Addr → Heap → Prop} (E : Keep B h0 (L ++ V.e v) h) (o : VOk V v)
    (hQ : ∀ K U h', SS B h0 (L ++ [some (K.kX, acO0), some (K.kK, skO (.slice none 0 0))]) h' V v K U (s0 v g) → Q (some ⟨K.kA, 0, none⟩) h') : C_attempt_New B (some ⟨V.kV, 0, none⟩) g.a g.b g.c g.d h Q := by
  refine C_attempt_New.of ?_
  unfold S_attempt_New
  intro k7 a7 b7 h8 e8
  exact ⟨fun e => (by cases e), fun _ => Fin.of (new_J1 (E.made a7 b7 e8) o hQ)⟩
theorem AOk.re {s' : AV} (a : AOk v s) (e : s'.s = s.s) : AOk v s' := ⟨by rw [e]; exact a.so, by rw [e]; exact a.sd, by rw [e]; exact a.dk, by rw [e]; exact a.cr⟩
def noteS (v : VV) (s : AV) (k i : Int) : AV := { s with rs := (noteA v s.rs s.st k i).2.1, st := (noteA v s.rs s.st k i).2.2 }
def noteE (v : VV) (s : AV) (k i : Int) : Int := if (noteA v s.rs s.st k i).1 = true then 0 else 9
theorem anote_wp {k i : Int} {Q : Int → Heap → Prop} (S : SS B h0 L h V v K U s) (hn : s.rs.length ≤ 90000) (hQ : ∀ U' h', U'.x = U.x → SS B h0 L h' V v K U' (noteS v s k i) → Q (noteE v s k i) h') : C_attempt_Attempt_note B (some ⟨K.kA, 0, none⟩) k i h Q := by
  refine C_attempt_Attempt_note.of ?_
  unfold S_attempt_Attempt_note
  refine ⟨_, rfl, _, S.E.cM 7 rfl (i := 1) rfl, _, rfl, _, S.E.cM 7 rfl (i := 0) rfl, now_wp S.E VAt.mk S.o fun h1 E1 => ⟨E1.cM 7 rfl (i := 1) rfl, E1.cM 7 rfl (i := 0) rfl, ?_⟩⟩
  refine note_wp (j := L.length + 8) (vS := U.vS) (st := s.st) (r := U.rS) E1 ⟨upM 8 rfl, upM 9 rfl⟩ S.R hn S.o.v3 fun vS' r' h2 R' E2 => ?_
  rw [setM, show L.length + 8 + 1 = L.length + 9 from rfl, setM] at E2
  have S2 : SS B h0 L h2 V v K ⟨vS', r', U.x⟩ (noteS v s k i) := ⟨E2, S.o, R', S.O, S.a.re rfl⟩
  have hq := hQ ⟨vS', r', U.x⟩ _ rfl S2
  unfold noteE at hq
  refine ⟨fun hT => ⟨S2.E.cM 7 rfl (i := 1) rfl, S2.E.cM 7 rfl (i := 0) rfl, Fin.of ?_⟩, fun hF => ⟨S2.E.cM 7 rfl (i := 1) rfl, S2.E.cM 7 rfl (i := 0) rfl, Fin.of ?_⟩⟩
  · rw [if_pos hT] at hq; exact hq
  · rw [if_neg (by rw [hF]; simp)] at hq; exact hq
theorem SS.dat (S : SS B h0 L h V v K U s) : DAt_int (L ++ (V.e v ++ AE V K U s)) (L.length + 10) U.x.kd U.x.vd U.x.rd := ⟨upM 10 rfl, upM 11 rfl⟩
def inC (i : Int) : Bool := decide (0 ≤ i ∧ i < 8)
def loadA (v : VV) (s : AV) (i : Int) : AV × Int × Int :=
  if inC i = true then (match atD s.s.d i with
    | some x => (s, x, 0)
    | none => (noteS v s 0 i, if noteE v s 0 i = 0 then (cellAt_int v.c i).1 else 0, noteE v s 0 i)) else (s, 0, 1)
theorem load_wp {i : Int} {Q : Int → Int → Heap → Prop} (S : SS B h0 L h V v K U s) (hn : s.rs.length ≤ 90000) (hQ : ∀ U' h', U'.x = U.x → SS B h0 L h' V v K U' (loadA v s i).1 → Q (loadA v s i).2.1 (loadA v s i).2.2 h') : C_attempt_Attempt_Load B (some ⟨K.kA, 0, none⟩) i h Q := by
  refine C_attempt_Attempt_Load.of ?_
  unfold S_attempt_Attempt_Load
  have out : inC i = false → Q 0 1 h := fun hn => by
    have e : loadA v s i = (s, 0, 1) := by unfold loadA; rw [hn]; rfl
    rw [e] at hQ; exact hQ U h rfl S
  refine ⟨fun e => (by cases e), fun _ => ⟨fun h1 => Fin.of (out (decide_eq_false (by omega))), fun h1 => ⟨fun h2 => Fin.of (out (decide_eq_false (by omega))), fun h2 => Fin.of ?_⟩⟩⟩
  have hi : inC i = true := decide_eq_true (by omega)
  unfold S_attempt_Attempt_Load_J1
  refine ⟨_, rfl, _, S.E.cM 7 rfl (i := 2) rfl, get_int_wp S.E S.dat S.O.d S.a.sd (by have := S.a.dlen; omega) ?_⟩
  cases hd : atD s.s.d i with
  | some y =>
    have e : loadA v s i = (s, y, 0) := by unfold loadA; rw [if_pos hi, hd]
    rw [e] at hQ
    exact ⟨fun _ => Fin.of (hQ U h rfl S), fun e => by cases e⟩
  | none =>
    have e : loadA v s i = (noteS v s 0 i, if noteE v s 0 i = 0 then (cellAt_int v.c i).1 else 0, noteE v s 0 i) := by unfold loadA; rw [if_pos hi, hd]
    rw [e] at hQ
    refine ⟨fun e => (by cases e), fun _ => anote_wp S hn fun U' h1 e1 S1 => ?_⟩
    have hq := hQ U' h1 e1 S1
    refine ⟨fun h0 => ⟨_, rfl, _, S1.E.cM 7 rfl (i := 0) rfl, _, rfl, _, S1.E.cM 0 rfl (i := 0) rfl, get_wp_int (rowO_int_v (S1.E.gM 1 rfl)) (Fin.of ?_)⟩, fun h0 => Fin.of ?_⟩
    · simp only [h0, if_true] at hq ⊢; exact hq
    · simp only [if_neg h0] at hq; exact hq
def storeA (s : AV) (i x : Int) : AV × Int := if inC i = true then ({ s with s := { s.s with d := insD s.s.d i x } }, 0) else (s, 1)
theorem AOk.store {i x : Int} (a : AOk v s) (hi : inC i = true) : AOk v { s with s := { s.s with d := insD s.s.d i x } } := ⟨a.so, a.sd.ins, fun y hy => by
  rcases insD_mem hy with rfl | hy
  · exact of_decide_eq_true hi
  · exact a.dk y hy, a.cr⟩
theorem store_wp {i x : Int} {Q : Int → Heap → Prop} (S : SS B h0 L h V v K U s) (hQ : ∀ U' h', SS B h0 L h' V v K U' (storeA s i x).1 → Q (storeA s i x).2 h') : C_attempt_Attempt_Store B (some ⟨K.kA, 0, none⟩) i x h Q := by
  refine C_attempt_Attempt_Store.of ?_
  unfold S_attempt_Attempt_Store
  have out : inC i = false → Q 1 h := fun hn => by
    have e : storeA s i x = (s, 1) := by unfold storeA; rw [hn]; rfl
    rw [e] at hQ; exact hQ U h S
  refine ⟨fun e => (by cases e), fun _ => ⟨fun h1 => Fin.of (out (decide_eq_false (by omega))), fun h1 => ⟨fun h2 => Fin.of (out (decide_eq_false (by omega))), fun h2 => Fin.of ?_⟩⟩⟩
  have hi : inC i = true := decide_eq_true (by omega)
  unfold S_attempt_Attempt_Store_J1
  have e : storeA s i x = ({ s with s := { s.s with d := insD s.s.d i x } }, 0) := by unfold storeA; rw [if_pos hi]
  rw [e] at hQ
  refine ⟨_, rfl, _, S.E.cM 7 rfl (i := 2) rfl, put_int_wp S.E S.dat S.O.d S.a.sd (by have := S.a.dlen; omega) fun v' r' h1 R1 E1 => Fin.of ?_⟩
  rw [setM, show L.length + 10 + 1 = L.length + 11 from rfl, setM] at E1
  exact hQ ⟨U.vS, U.rS, { U.x with vd := v', rd := r' }⟩ _ ⟨E1, S.o, S.R, ⟨R1, S.O.f⟩, S.a.store hi⟩
theorem avalid_wp {Q : Bool → Heap → Prop} (S : SS B h0 L h V v K U s) (hn : s.rs.length ≤ 90000) (hQ : ∀ h', SS B h0 L h' V v K U s → Q (vld v s.rs) h') : C_attempt_Attempt_Valid B (some ⟨K.kA, 0, none⟩) h Q := by
  refine C_attempt_Attempt_Valid.of ?_
  unfold S_attempt_Attempt_Valid
  refine ⟨fun e => (by cases e), fun _ => ⟨_, rfl, _, S.E.cM 7 rfl (i := 1) rfl, _, rfl, _, S.E.cM 7 rfl (i := 0) rfl, now_wp S.E VAt.mk S.o fun h1 E1 => ⟨E1.cM 7 rfl (i := 1) rfl, E1.cM 7 rfl (i := 0) rfl, ?_⟩⟩⟩
  refine valid_wp (j := L.length + 8) (vS := U.vS) (st := s.st) (r := U.rS) E1 ⟨upM 8 rfl, upM 9 rfl⟩ S.R (by omega) S.o.v3 fun h2 E2 => ⟨E2.cM 7 rfl (i := 1) rfl, E2.cM 7 rfl (i := 0) rfl, Fin.of (hQ _ ⟨E2, S.o, S.R, S.O, S.a⟩)⟩
def recvA (v : VV) (s : AV) (i : Int) : AV × Int × Int :=
  if 0 ≤ i ∧ i < 3 then (if noteE v s 2 i = 0 then (if atOf v.ts i ((cellAt_int v.l i).1 + s.s.cr i) < 0 then (noteS v s 2 i, 0, 10) else ({ noteS v s 2 i with s := s.s.step i }, atOf v.ts i ((cellAt_int v.l i).1 + s.s.cr i), 0)) else (noteS v s 2 i, 0, noteE v s 2 i)) else (s, 0, 1)
theorem AOk.recv {i : Int} (a : AOk v s) (hi : 0 ≤ i ∧ i < 3) (hc : s.s.cr i < 64) {s' : AV} (e : s'.s = s.s.step i) : AOk v s' := by
  obtain ⟨e1, e2⟩ := StV.step_d s.s i
  refine ⟨by rw [e, e2]; exact a.so, by rw [e, e1]; exact a.sd, by rw [e, e1]; exact a.dk, fun j => ?_⟩
  rw [e, StV.step_cr _ hi]
  split
  · have := a.cr i; omega
  · exact a.cr j
theorem StI.Ok.of {x : StI} {a b : StV} (o : x.Ok a) (e1 : b.d = a.d) (e2 : b.f = a.f) : x.Ok b := ⟨by rw [e1]; exact o.d, by rw [e2]; exact o.f⟩
theorem recv_wp {i : Int} {Q : Int → Int → Heap → Prop} (S : SS B h0 L h V v K U s) (hn : s.rs.length ≤ 90000) (hQ : ∀ U' h', SS B h0 L h' V v K U' (recvA v s i).1 → Q (recvA v s i).2.1 (recvA v s i).2.2 h') : C_attempt_Attempt_Recv B (some ⟨K.kA, 0, none⟩) i h Q := by
  refine C_attempt_Attempt_Recv.of ?_
  unfold S_attempt_Attempt_Recv
  have out : ¬ (0 ≤ i ∧ i < 3) → Q 0 1 h := fun hn => by
    have e : recvA v s i = (s, 0, 1) := by unfold recvA; rw [if_neg hn]
    rw [e] at hQ; exact hQ U h S
  refine ⟨fun e => (by cases e), fun _ => ⟨fun h1 => Fin.of (out (by omega)), fun h1 => ⟨fun h2 => Fin.of (out (by omega)), fun h2 => Fin.of ?_⟩⟩⟩
  have hi : 0 ≤ i ∧ i < 3 := by omega
  unfold S_attempt_Attempt_Recv_J1
  refine anote_wp S hn fun U' h1 e1 S1 => ⟨fun h0 => ?_, fun h0 => Fin.of ?_⟩
  · refine ⟨_, rfl, _, S1.E.cM 7 rfl (i := 0) rfl, _, rfl, _, S1.E.cM 0 rfl (i := 2) rfl, feed_place_wp S.o.k.t3 (S1.E.gM 5 rfl) (S1.E.gM 6 rfl) ?_⟩
    refine ⟨_, rfl, _, S1.E.cM 7 rfl (i := 0) rfl, _, rfl, _, S1.E.cM 0 rfl (i := 2) rfl, _, rfl, _, S1.E.cM 7 rfl (i := 4) rfl, ?_⟩
    refine cat_wp (c := s.s) (S1.E.gM 15 rfl) hi ⟨S1.E.cM 7 rfl (i := 0) rfl, S1.E.cM 0 rfl (i := 2) rfl, S1.E.cM 7 rfl (i := 4) rfl, ?_⟩
    have hp := S.o.k.place i
    have hs := S.o.k.size i
    have hc := S.a.cr i
    rw [w64 (by omega) (by omega)]
    refine feed_at_wp S.o.k.t3 (S1.E.gM 5 rfl) ⟨S1.E.cM 7 rfl (i := 0) rfl, S1.E.cM 0 rfl (i := 2) rfl, S1.E.cM 7 rfl (i := 4) rfl, fun hlt => Fin.of ?_, fun hge => ?_⟩
    · have e : recvA v s i = (noteS v s 2 i, 0, 10) := by unfold recvA; rw [if_pos hi, if_pos h0, if_pos hlt]
      rw [e] at hQ; exact hQ _ _ S1
    · have e : recvA v s i = ({ noteS v s 2 i with s := s.s.step i }, atOf v.ts i ((cellAt_int v.l i).1 + s.s.cr i), 0) := by unfold recvA; rw [if_pos hi, if_pos h0, if_neg hge]
      rw [e] at hQ
      have hlt : s.s.cr i < 64 := by
        unfold atOf at hge
        split at hge
        · omega
        · omega
      refine ⟨_, rfl, _, S1.E.cM 7 rfl (i := 4) rfl, cstep_wp (c := s.s) (q := L.length + 15) S1.E (upM 15 rfl) hi ⟨hc.1, hlt⟩ fun h2 E2 => Fin.of ?_⟩
      rw [setM] at E2
      obtain ⟨e1, e2⟩ := StV.step_d s.s i
      exact hQ U' _ ⟨E2, S.o, S1.R, S1.O.of e1 e2, S.a.recv hi hlt rfl⟩
  · have e : recvA v s i = (noteS v s 2 i, 0, noteE v s 2 i) := by unfold recvA; rw [if_pos hi, if_neg h0]
    rw [e] at hQ; exact hQ _ _ S1
end
end Go.Proofs.Ytgldgabefiialaa.H
namespace Go.Proofs.Ytgldgabefiialaa.H
open Go Go.RowKit
set_option linter.unusedVariables false
set_option maxRecDepth 100000
def shI (V : VI) (U : AU) : ShI := ⟨V.kT, V.kR, V.vt, V.rt, U.x.ks, U.x.kf⟩
def restS (V : VI) (v : VV) (K : AK) (U : AU) (s : AV) : List (Option (Nat × AObj)) := [some (V.kV, viewO V v.t), some (V.kC, rowO_int v.c), some (V.kF, feedO v.ts V.kP), some (V.kP, rowO_int v.l), some (K.kA, attO V K U.x s.g), some (K.kS, rsO U.vS s.st), U.rS, some (U.x.kd, drO_int U.x.vd), U.x.rd, some (U.x.kc, curO s.s)]
def AU.w (U : AU) (vf : Value) (rf : Option (Nat × AObj)) : AU := { U with x := { U.x with vf := vf, rf := rf } }
def AV.wf (s : AV) (f : DFL) : AV := { s with s := { s.s with f := f } }
def VI.w (V : VI) (r : Option (Nat × AObj)) : VI := { V with rt := r }
section
variable {B : RO} {h0 h h' : Heap} {L M : List (Option (Nat × AObj))} {V : VI} {v : VV} {K : AK} {U : AU} {s : AV} {k : Nat} {i j : Int} {c : StV} {g : Reg4} {o o' : AObj} {y : Option (Nat × AObj)}
theorem toSh (E : Keep B h0 (L ++ (V.e v ++ AE V K U s)) h) : Keep B h0 ((L ++ restS V v K U s) ++ (shI V U).m U.x.vf U.x.rf) h := by
  rw [List.append_assoc]
  exact E.sM [0, 1, 5, 6, 7, 8, 9, 10, 11, 15, 2, 3, 4, 12, 13, 14] (by decide)
theorem ofSh {vd : Value} {rd : Option (Nat × AObj)} {f : DFL} (E : Keep B h0 ((L ++ restS V v K U s) ++ (shI V U).m vd rd) h) : Keep B h0 (L ++ (V.e v ++ AE V K (U.w vd rd) (s.wf f))) h := by
  rw [List.append_assoc] at E
  exact E.sM [0, 1, 10, 11, 12, 2, 3, 4, 5, 6, 7, 8, 13, 14, 15, 9] (by decide)
theorem atMid : ((L ++ [y]) ++ M)[L.length]? = some y := up_app _ (by rw [List.getElem?_append_right (Nat.le_refl _), Nat.sub_self]; rfl)
theorem setMid (z : Option (Nat × AObj)) : ((L ++ [y]) ++ M).set L.length z = (L ++ [z]) ++ M := by
  rw [List.append_assoc, List.set_append_right _ _ (Nat.le_refl _), Nat.sub_self, List.append_assoc]; rfl
theorem Keep.gP (E : Keep B h0 ((L ++ [some (k, o)]) ++ M) h) : h k = some o := E.at L.length atMid
theorem Keep.pP (E : Keep B h0 ((L ++ [some (k, o)]) ++ M) h) : Keep B h0 ((L ++ [some (k, o')]) ++ M) (h.set k o') := by
  have := E.put (o' := o') L.length atMid
  rwa [setMid] at this
theorem Keep.gP' (E : Keep B h0 ((L ++ [some (k, o)] ++ [y]) ++ M) h) : h k = some o := by
  rw [List.append_assoc (L ++ [some (k, o)])] at E
  exact E.gP
theorem SS.nP (S : SS B h0 L h V v K U s) (hk : h k = none) (hb : B k = none) (e : h' = h.set k o) : SS B h0 (L ++ [some (k, o)]) h' V v K U s := ⟨S.E.nP hk hb e, S.o, S.R, S.O, S.a⟩
theorem SS.dP (S : SS B h0 (L ++ [y]) h V v K U s) : SS B h0 L h V v K U s := ⟨S.E.dP, S.o, S.R, S.O, S.a⟩
theorem SS.pP (S : SS B h0 (L ++ [some (k, o)]) h V v K U s) : SS B h0 (L ++ [some (k, o')]) (h.set k o') V v K U s := ⟨S.E.pP, S.o, S.R, S.O, S.a⟩
theorem SS.gP (S : SS B h0 (L ++ [some (k, o)]) h V v K U s) : h k = some o := S.E.gP
theorem SS.gP' (S : SS B h0 (L ++ [some (k, o)] ++ [y]) h V v K U s) : h k = some o := S.E.gP'
theorem SS.f (S : SS B h0 L h V v K U s) {vd : Value} {rd : Option (Nat × AObj)} {f : DFL} {h1 : Heap} (E : Keep B h0 ((L ++ restS V v K U s) ++ (shI V U).m vd rd) h1) (R : DRow_file_File rd vd f) (a : SOk v.f f) : SS B h0 L h1 V v K (U.w vd rd) (s.wf f) :=
  ⟨ofSh E, S.o, S.R, ⟨S.O.d, R⟩, ⟨a, S.a.sd, S.a.dk, S.a.cr⟩⟩
end
end Go.Proofs.Ytgldgabefiialaa.H
namespace Go.Proofs.Ytgldgabefiialaa.H
open Go Go.RowKit
set_option linter.unusedVariables false
set_option maxRecDepth 100000
def apC (t : Int) (c : List (Int × Int)) (d : List (Int × Int)) : List (Int × Int) := d.foldl (fun c x => c.set x.1.toNat (x.2, t)) c
theorem apC_len (t : Int) : ∀ (d c : List (Int × Int)), (apC t c d).length = c.length := by
  intro d
  induction d with
  | nil => intro c; rfl
  | cons x d ih => intro c; exact (ih _).trans (List.length_set ..)
theorem apC_take {t : Int} {c d : List (Int × Int)} {q : Nat} {x : Int × Int} (h : d[q]? = some x) : apC t c (d.take (q + 1)) = (apC t c (d.take q)).set x.1.toNat (x.2, t) := by
  obtain ⟨h1, rfl⟩ := List.getElem?_eq_some_iff.1 h
  rw [List.take_succ_eq_append_getElem h1, apC, List.foldl_append]; rfl
def landN (t : Int) (ts : List ByteArray) (c : StV) (l : List (Int × Int)) : Nat → List (Int × Int)
  | 0 => l
  | j + 1 => if 0 < c.cr (j : Nat) then takeL ts (landN t ts c l j) (j : Nat) ((cellAt_int (landN t ts c l j) (j : Nat)).1 + c.cr (j : Nat)) t else landN t ts c l j
theorem FeedOk.land {t : Int} {ts : List ByteArray} {c : StV} {l : List (Int × Int)} (k : FeedOk ts l) : ∀ j, FeedOk ts (landN t ts c l j)
  | 0 => k
  | j + 1 => by
    unfold landN
    split
    · exact (FeedOk.land k j).take _ _ _
    · exact FeedOk.land k j
def landV (v : VV) (s : AV) : VV := ⟨apC (v.t + 1) v.c s.s.d, apD (v.t + 1) v.f s.s.f, v.ts, landN (v.t + 1) v.ts s.s v.l 3, v.t + 1⟩
theorem TomeOk.apD {t : Int} : ∀ (d : DFL) {l : FL}, TomeOk l → TomeOk (apD t l d) := by
  intro d
  induction d with
  | nil => intro l k; exact k
  | cons x d ih => intro l k; exact ih (k.set _ _ _ _)
section
variable {B : RO} {h0 h h' : Heap} {L M : List (Option (Nat × AObj))} {V : VI} {v : VV} {K : AK} {U : AU} {s : AV} {k : Nat} {i j : Int} {c : StV} {g : Reg4} {o o' : AObj} {y : Option (Nat × AObj)}
theorem AOk.view {v' : VV} (a : AOk v s) (k : TomeOk v'.f) : AOk v' s := ⟨⟨a.so.s, a.so.k, k.n6, k.good⟩, a.sd, a.dk, a.cr⟩
theorem land_wp {Q : Bool → Heap → Prop} (S : SS B h0 L h V v K U s) (hn : s.rs.length ≤ 90000) (ht : 0 ≤ v.t ∧ v.t < 1000000000)
    (hT : vld v s.rs = true → ∀ r' h', SS B h0 L h' (V.w r') (landV v s) K U s → Q true h') (hF : vld v s.rs = false → ∀ h', SS B h0 L h' V v K U s → Q false h') : C_attempt_Attempt_Land B (some ⟨K.kA, 0, none⟩) h Q := by
  refine C_attempt_Attempt_Land.of ?_
  unfold S_attempt_Attempt_Land
  refine avalid_wp S hn fun h3 S1 => ⟨fun hv => ?_, fun hv => Fin.of (hF hv _ S1)⟩
  refine ⟨_, rfl, _, S1.E.cM 7 rfl (i := 0) rfl, fun k8 a8 b8 h9 e9 => ?_⟩
  have S2 := S1.nP a8 b8 e9
  refine ⟨_, storeH_vec S2.gP rfl, ?_⟩
  have S3 := S2.pP (o' := .vec TY.p_attempt_View (plains [.pointer (some ⟨V.kV, 0, none⟩)]) 1)
  refine ⟨_, cellH_vec S3.gP rfl, _, rfl, v.t, S3.E.cM 0 rfl (i := 3) rfl, _, rfl, ?_⟩
  rw [w64 (by omega) (by omega)]
  refine ⟨_, storeH_vec (S3.E.gM 0 rfl) (show (plains [.pointer (some ⟨V.kC, 0, none⟩), .pointer (some ⟨V.kT, 0, none⟩), .pointer (some ⟨V.kF, 0, none⟩), .int .i64 v.t])[3]? = some (.plain (.int .i64 v.t)) from rfl), ?_⟩
  have E4 := S3.E.pM (o' := viewO V (v.t + 1)) 0 rfl
  refine ⟨_, rfl, _, Keep.cM E4 7 rfl (i := 2) rfl, dall_wp fun kc ac bc => ?_⟩
  have E5 := Keep.nP (o := .vec TY.p_draft_Draft_int [.plain (.pointer (some ⟨U.x.kd, 0, none⟩))] 1) E4 ac bc rfl
  have dl := S.a.dlen
  let LL := L ++ [some (k8, .vec TY.p_attempt_View (plains [.pointer (some ⟨V.kV, 0, none⟩)]) 1)] ++ [some (kc, .vec TY.p_draft_Draft_int [.plain (.pointer (some ⟨U.x.kd, 0, none⟩))] 1)]
  refine ⟨s.s.d, dG kc U.x.kd U.x.vd U.x.rd, fun q h' => Keep B h0 (LL ++ (V.e { v with c := apC (v.t + 1) v.c (s.s.d.take q), t := v.t + 1 } ++ AE V K U s)) h', dall_iter S.O.d (by omega), dG_ins, ?_, Fin.of E5, ?_, ?_⟩
  · intro q h' E
    exact ⟨Keep.gP E, E.gM 10 rfl, fun k o e => E.gM 11 (by show some U.x.rd = _; rw [e])⟩
  · clear E4 E5
    rintro q h69 i66 i67 hg E
    have hx := S.a.dk _ (List.mem_of_getElem? hg)
    simp only at hx
    refine ⟨_, cellH_vec (Keep.gP' E) rfl, _, rfl, _, E.cM 0 rfl (i := 0) rfl, _, cellH_vec (Keep.gP' E) rfl, _, rfl, _, E.cM 0 rfl (i := 3) rfl, set_wp_int (E.gM 1 rfl) (fun _ _ => Fin.of ?_) fun hn => ?_⟩
    · have E1 := E.pM (o' := rowO_int ((apC (v.t + 1) v.c (s.s.d.take q)).set i66.toNat (i67, v.t + 1))) 1 rfl
      rw [← apC_take (x := (i66, i67)) hg] at E1
      show Keep B h0 _ (h69.set V.kC (rowO_int ((apC (v.t + 1) v.c (s.s.d.take q)).set i66.toNat (i67, v.t + 1))))
      rw [← apC_take (x := (i66, i67)) hg]
      exact E1
    · rw [apC_len, S.o.c8] at hn; omega
  · clear E4 E5
    intro h69 E
    rw [List.take_length] at E
    refine Fin.of ?_
    unfold S_attempt_Attempt_Land_J1
    refine ⟨_, rfl, _, E.cM 7 rfl (i := 3) rfl, _, cellH_vec (Keep.gP' E) rfl, _, rfl, _, E.cM 0 rfl (i := 1) rfl, _, cellH_vec (Keep.gP' E) rfl, _, rfl, v.t + 1, E.cM 0 rfl (i := 3) rfl, ?_⟩
    refine sover_wp (x := shI V U) (toSh E) S.o.r S.O.f S.a.so fun r' h31 R' E1 => ?_
    have E2 := ofSh (V := V.w r') (v := ⟨apC (v.t + 1) v.c s.s.d, apD (v.t + 1) v.f s.s.f, v.ts, v.l, v.t + 1⟩) (K := K) (U := U) (s := s) (f := s.s.f) E1
    refine ⟨fun q m h' => ∃ j : Nat, j ≤ 3 ∧ q = j ∧ m = 3 - j ∧ Keep B h0 (LL ++ ((V.w r').e ⟨apC (v.t + 1) v.c s.s.d, apD (v.t + 1) v.f s.s.f, v.ts, landN (v.t + 1) v.ts s.s v.l j, v.t + 1⟩ ++ AE V K U s)) h', 3, Fin.of ⟨0, by omega, rfl, rfl, E2⟩, ?_⟩
    clear E1 E2 E
    rintro _ _ h34 ⟨j, hj, rfl, rfl, E⟩
    refine ⟨fun hlt => ⟨_, rfl, _, E.cM 7 rfl (i := 4) rfl, cread_wp (c := s.s) (E.gM 15 rfl) (by omega) ⟨fun hg => ?_, fun hg => Fin.of ?_⟩⟩, fun hge => Fin.of ?_⟩
    · have fk := S.o.k.land (t := v.t + 1) (c := s.s) j
      refine ⟨_, cellH_vec (Keep.gP' E) rfl, _, rfl, _, E.cM 0 rfl (i := 2) rfl, feed_place_wp (ts := v.ts) (l := landN (v.t + 1) v.ts s.s v.l j) fk.t3 (E.gM 5 rfl) (E.gM 6 rfl) ?_⟩
      refine ⟨_, cellH_vec (Keep.gP' E) rfl, _, rfl, _, E.cM 0 rfl (i := 2) rfl, _, cellH_vec (Keep.gP' E) rfl, _, rfl, v.t + 1, E.cM 0 rfl (i := 3) rfl, ?_⟩
      have hp := fk.place (j : Nat)
      have hs := fk.size (j : Nat)
      have hc := S.a.cr (j : Nat)
      rw [w64 (by omega) (by omega)]
      refine feed_take_wp fk (E.gM 5 rfl) (E.gM 6 rfl) (Fin.of ⟨3 - (j + 1), by omega, j + 1, by omega, wrapS (by omega), rfl, ?_⟩)
      have E3 := E.pM (o' := rowO_int (takeL v.ts (landN (v.t + 1) v.ts s.s v.l j) (j : Nat) ((cellAt_int (landN (v.t + 1) v.ts s.s v.l j) (j : Nat)).1 + s.s.cr (j : Nat)) (v.t + 1))) 6 rfl
      have e : landN (v.t + 1) v.ts s.s v.l (j + 1) = takeL v.ts (landN (v.t + 1) v.ts s.s v.l j) (j : Nat) ((cellAt_int (landN (v.t + 1) v.ts s.s v.l j) (j : Nat)).1 + s.s.cr (j : Nat)) (v.t + 1) := by rw [landN, if_pos hg]
      rw [e]
      exact E3
    · refine ⟨3 - (j + 1), by omega, j + 1, by omega, wrapS (by omega), rfl, ?_⟩
      have e : landN (v.t + 1) v.ts s.s v.l (j + 1) = landN (v.t + 1) v.ts s.s v.l j := by rw [landN, if_neg (by omega)]
      rw [e]
      exact E
    · have hj3 : j = 3 := by omega
      subst hj3
      have o' : VOk (V.w r') (landV v s) := ⟨R', by rw [← S.o.c8]; exact apC_len _ _ _, S.o.f.apD _, S.o.k.land 3⟩
      exact hT hv r' _ ⟨Keep.dP (Keep.dP E), o', S.R, S.O, S.a.view o'.f⟩
structure DeedR where
  k : Int
  a : Int
  b : Int
  c : UInt8
def DeedR.cells (d : DeedR) : List Value := [.int .i64 d.k, .int .i64 d.a, .int .i64 d.b, .int .u8 ((d.c.toNat : Nat) : Int)]
end
end Go.Proofs.Ytgldgabefiialaa.H
namespace Go.Proofs.Ytgldgabefiialaa.H
open Go Go.RowKit
set_option linter.unusedVariables false
set_option maxRecDepth 100000
structure Pas (v : VV) (U : AU) (s : AV) : Prop where
  R : ERow U.rS U.vS s.rs
  O : U.x.Ok s.s
  a : AOk v s
section
variable {B : RO} {h0 h h' : Heap} {L M : List (Option (Nat × AObj))} {V : VI} {v : VV} {K K1 K2 : AK} {U U1 U2 : AU} {s s1 s2 : AV} {k : Nat} {i j : Int} {c : StV} {g : Reg4} {o o' : AObj} {y : Option (Nat × AObj)}
theorem Keep.swap {A X : List (Option (Nat × AObj))} (E : Keep B h0 (L ++ (A ++ X)) h) : Keep B h0 ((L ++ X) ++ A) h := by
  refine E.remap (fun j => if j < L.length then j else if j < L.length + X.length then j + A.length else j - X.length) (fun j y hj => ?_) (fun i j hi hj e => ?_)
  · have hl := (List.getElem?_eq_some_iff.1 hj).1
    rw [List.length_append, List.length_append] at hl
    by_cases h1 : j < L.length
    · simp only [if_pos h1]
      rw [List.append_assoc, List.getElem?_append_left h1] at hj
      rw [List.getElem?_append_left h1]; exact hj
    · simp only [if_neg h1]
      by_cases h2 : j < L.length + X.length
      · simp only [if_pos h2]
        rw [List.append_assoc, List.getElem?_append_right (by omega), List.getElem?_append_left (by omega)] at hj
        rw [List.getElem?_append_right (by omega), List.getElem?_append_right (by omega), show j + A.length - L.length - A.length = j - L.length by omega]; exact hj
      · simp only [if_neg h2]
        rw [List.getElem?_append_right (by rw [List.length_append]; omega), List.length_append] at hj
        rw [List.getElem?_append_right (by omega), List.getElem?_append_left (by omega), show j - X.length - L.length = j - (L.length + X.length) by omega]; exact hj
  · rw [List.length_append, List.length_append] at hi hj
    have e : (if i < L.length then i else if i < L.length + X.length then i + A.length else i - X.length) = (if j < L.length then j else if j < L.length + X.length then j + A.length else j - X.length) := e
    split at e <;> split at e <;> (try split at e) <;> (try split at e) <;> omega
theorem SS.pas (S : SS B h0 L h V v K U s) : Pas v U s := ⟨S.R, S.O, S.a⟩
theorem SS.of (E : Keep B h0 (L ++ (V.e v ++ AE V K U s)) h) (o : VOk V v) (P : Pas v U s) : SS B h0 L h V v K U s := ⟨E, o, P.R, P.O, P.a⟩
theorem SS.out (S : SS B h0 L h V v K U s) : Keep B h0 ((L ++ AE V K U s) ++ V.e v) h := S.E.swap
theorem SS.flip (S : SS B h0 (L ++ AE V K1 U1 s1) h V v K2 U2 s2) (P : Pas v U1 s1) : SS B h0 (L ++ AE V K2 U2 s2) h V v K1 U1 s1 := by
  refine .of ?_ S.o P
  have E := S.E
  rw [List.append_assoc] at E ⊢
  exact E.sM [16, 17, 18, 19, 20, 21, 22, 23, 24, 9, 10, 11, 12, 13, 14, 15, 0, 1, 2, 3, 4, 5, 6, 7, 8] (by decide)
theorem SS.drop2 {X : List (Option (Nat × AObj))} (S : SS B h0 (L ++ X) h V v K U s) : SS B h0 L h V v K U s := by
  refine .of ?_ S.o S.pas
  have E := S.E
  rw [List.append_assoc] at E
  exact E.dropMid
theorem alive20_wp {Q : Bool → Heap → Prop} (hQ : ∀ h', Keep B h [] h' → Q true h') : C_countermandlaw20_alive B h Q := by
  refine C_countermandlaw20_alive.of ?_
  unfold S_countermandlaw20_alive
  refine newview_wp fun V h2 o E1 => ?_
  refine anew_wp (L := []) (g := ⟨0, 0, 0, 0⟩) E1 o fun Ka Ua h4 Sa => ?_
  have Sa := Sa.drop2
  refine anew_wp (g := ⟨0, 0, 0, 0⟩) Sa.out o fun Kb Ub h6 Sb => ?_
  have Pa := Sa.pas
  have Sb := Sb.drop2
  have Pb := Sb.pas
  refine store_wp (Sb.flip Pa) fun Ua1 h8 Sa1 => ⟨fun _ => ?_, fun hn => absurd rfl hn⟩
  refine load_wp Sa1 (by decide) fun Ua2 h10 e2 Sa2 => ?_
  have Pa2 := Sa2.pas
  refine load_wp (Sa2.flip Pb) (by decide) fun Ub2 h13 e3 Sb2 => ⟨fun _ => ⟨fun _ => ?_, fun hn => absurd rfl hn⟩, fun hn => absurd rfl hn⟩
  refine land_wp (Sb2.flip Pa2) (by decide) (by decide) (fun _ r' h16 S => ⟨fun _ => ⟨_, rfl, _, S.E.cM 0 rfl (i := 3) rfl, Fin.of ?_⟩, fun e => by cases e⟩) (fun hv => absurd hv (by decide))
  exact hQ _ (by have := S.E.take 0; simpa using this)
end
end Go.Proofs.Ytgldgabefiialaa.H
namespace Go.Proofs.Ytgldgabefiialaa.H
open Go Go.RowKit
set_option linter.unusedVariables false
set_option maxRecDepth 100000
def stA (j : Nat) : AV := ⟨if j = 0 then [] else [(2, 1, 0)], 0, ⟨[], [], 0, j, 0⟩, ⟨0, 0, 0, 0⟩⟩
theorem noteA_new' {v : VV} {rs : List RE} {st k i : Int} (h : ∀ e ∈ rs, ¬ (e.1 = k ∧ e.2.1 = i)) (hv : verOf v k i ≤ st) : noteA v rs st k i = (true, rs ++ [(k, i, verOf v k i)], st) := by
  unfold noteA; rw [fE_none.2 h]; simp only; rw [if_neg (by omega)]
theorem recv_step {v : VV} {text : ByteArray} {j : Nat} (hl : cellAt_int v.l 1 = (0, 0)) (ht : textAt v.ts 1 = text) (hj : j < text.size) : recvA v (stA j) 1 = (stA (j + 1), byteAt text j, 0) := by
  have hv : verOf v 2 1 = 0 := by show (cellAt_int v.l 1).2 = 0; rw [hl]
  have hn : noteA v (stA j).rs (stA j).st 2 1 = (true, [(2, 1, 0)], 0) := by
    by_cases h0 : j = 0
    · subst h0
      show noteA v [] 0 2 1 = _
      rw [noteA_new' (fun e he => by cases he) (by rw [hv]; exact Int.le_refl 0), hv]; rfl
    · have : (stA j).rs = [(2, 1, 0)] := by unfold stA; exact if_neg h0
      rw [this]
      unfold noteA
      have hf : fE [((2 : Int), (1 : Int), (0 : Int))] 2 1 = some 0 := rfl
      rw [hf]
      simp only [hv]; rfl
  have e1 : noteE v (stA j) 2 1 = 0 := by unfold noteE; rw [hn]; rfl
  have e2 : noteS v (stA j) 2 1 = { stA j with rs := [(2, 1, 0)] } := by unfold noteS; rw [hn]; rfl
  have hb := byteAt_bound text j
  have e3 : atOf v.ts 1 ((cellAt_int v.l 1).1 + (stA j).s.cr 1) = byteAt text j := by
    have hc : (stA j).s.cr 1 = (j : Nat) := rfl
    rw [hl, hc]
    unfold atOf
    rw [ht, if_pos ⟨by decide, by decide, by simp only; omega, by simp only; omega⟩]
    congr 1; simp only; omega
  unfold recvA
  rw [if_pos (by decide), if_pos e1, e3, if_neg (by omega), e2]
  have : stA (j + 1) = { stA j with rs := [(2, 1, 0)], s := (stA j).s.step 1 } := by
    show AV.mk (if j + 1 = 0 then [] else [(2, 1, 0)]) 0 ⟨[], [], 0, ((j + 1 : Nat) : Int), 0⟩ ⟨0, 0, 0, 0⟩ = ⟨[(2, 1, 0)], 0, ⟨[], [], 0, (j : Nat) + 1, 0⟩, ⟨0, 0, 0, 0⟩⟩
    rw [if_neg (by omega)]
    congr 2
  rw [this]
theorem stA_len {j : Nat} : (stA j).rs.length ≤ 90000 := by
  unfold stA
  show (if j = 0 then [] else [_]).length ≤ _
  split <;> exact Nat.le_of_ble_eq_true rfl
theorem wrapB (s : ByteArray) (i : Nat) : IntKind.wrap .i64 (byteAt s i) = byteAt s i := by have := byteAt_bound s i; exact w64 (by omega) (by omega)
section
variable {B : RO} {h0 h h' : Heap} {L M : List (Option (Nat × AObj))} {V : VI} {v : VV} {K K1 K2 Ka Kb : AK} {U U1 U2 Ua Ub : AU} {s s1 s2 : AV} {k : Nat} {i j : Int} {c : StV} {g : Reg4} {o o' : AObj} {y z : Option (Nat × AObj)} {text : ByteArray} {n m : Int}
theorem Pas.view {v' : VV} (P : Pas v U s) (k : TomeOk v'.f) : Pas v' U s := ⟨P.R, P.O, P.a.view k⟩
theorem landS {n : Nat} (hl : v.l = fl0) (ht : textAt v.ts 1 = text) (hn : 0 < n) (hs : n ≤ text.size) (hv : v.t = 0) : landV v (stA n) = ⟨v.c, v.f, v.ts, [(0, 0), (((n : Nat) : Int), 1), (0, 0)], 1⟩ := by
  have e : landN (v.t + 1) v.ts (stA n).s v.l 3 = [(0, 0), (((n : Nat) : Int), 1), (0, 0)] := by
    have e1 : landN (v.t + 1) v.ts (stA n).s v.l 1 = v.l := by
      show (if (0 : Int) < 0 then _ else v.l) = v.l
      exact if_neg (by decide)
    have e2 : landN (v.t + 1) v.ts (stA n).s v.l 2 = [(0, 0), (((n : Nat) : Int), 1), (0, 0)] := by
      have hc : (stA n).s.cr ((1 : Nat) : Int) = (n : Nat) := rfl
      show landN _ _ _ _ (1 + 1) = _
      rw [landN, e1, hc, if_pos (by omega), hl, hv]
      have hp : (cellAt_int fl0 ((1 : Nat) : Int)).1 = 0 := rfl
      have ht' : textAt v.ts ((1 : Nat) : Int) = text := ht
      have hb : takeB v.ts fl0 ((1 : Nat) : Int) ((cellAt_int fl0 ((1 : Nat) : Int)).1 + (n : Nat)) = true := by
        unfold takeB
        rw [hp, ht', decide_eq_true_eq]
        exact ⟨by decide, by decide, by omega, by omega⟩
      unfold takeL
      rw [if_pos hb, hp, Int.zero_add]; rfl
    show landN _ _ _ _ (2 + 1) = _
    rw [landN, e2]
    exact if_neg (by show ¬ (0 : Int) < 0; decide)
  unfold landV
  rw [e, hv]; rfl
theorem Sock_J4 {n : Nat} {Q : Bool → Heap → Prop} (E : Keep B h0 (L ++ V.e v) h) (o : VOk V v) (hl : v.l = [(0, 0), (((n : Nat) : Int), 1), (0, 0)]) (hv : v.t = 1) (ht : textAt v.ts 1 = text) (hs : n ≤ text.size) (hQ : ∀ h', Keep B h0 L h' → Q true h') : S_countermandlaw20_AttemptSockets_J4 B text (n : Int) (some ⟨V.kV, 0, none⟩) h Q := by
  unfold S_countermandlaw20_AttemptSockets_J4
  refine anew_wp (g := ⟨0, 0, 0, 0⟩) E o fun K U h26 S => ?_
  refine recv_wp S.drop2 (Nat.zero_le _) fun U' h28 S1 => ?_
  have hc : cellAt_int v.l 1 = (((n : Nat) : Int), 1) := by rw [hl]; rfl
  have hver : verOf v 2 1 = 1 := by show (cellAt_int v.l 1).2 = 1; rw [hc]
  have hn : noteA v (s0 v ⟨0, 0, 0, 0⟩).rs (s0 v ⟨0, 0, 0, 0⟩).st 2 1 = (true, [(2, 1, 1)], 1) := by
    show noteA v [] v.t 2 1 = _
    rw [noteA_new' (fun e he => by cases he) (by rw [hver, hv]; exact Int.le_refl 1), hver, hv]; rfl
  have e1 : noteE v (s0 v ⟨0, 0, 0, 0⟩) 2 1 = 0 := by unfold noteE; rw [hn]; rfl
  have ea : atOf v.ts 1 ((cellAt_int v.l 1).1 + (s0 v ⟨0, 0, 0, 0⟩).s.cr 1) = if n < text.size then byteAt text n else -1 := by
    have hz : (s0 v ⟨0, 0, 0, 0⟩).s.cr 1 = 0 := rfl
    rw [hc, hz]
    unfold atOf
    rw [ht]
    by_cases hlt : n < text.size
    · rw [if_pos hlt, if_pos ⟨by decide, by decide, by simp only; omega, by simp only; omega⟩]
      first | rfl | (congr 1; simp only; omega)
    · rw [if_neg hlt, if_neg (by simp only; omega)]
  have fin := hQ _ (by have E := S1.E; exact E.popL)
  have e2 : (recvA v (s0 v ⟨0, 0, 0, 0⟩) 1).2 = if n < text.size then (byteAt text n, 0) else (0, 10) := by
    unfold recvA
    rw [if_pos (by decide), if_pos e1, ea]
    have hb := byteAt_bound text n
    by_cases hlt : n < text.size
    · rw [if_pos hlt, if_neg (by omega), if_pos hlt]
    · rw [if_neg hlt, if_pos (by decide), if_neg hlt]
  rw [e2]
  refine ⟨fun he => Fin.of ?_, fun hne => ?_⟩
  · rw [if_neg (by omega)]; exact fin
  · have hlt : n < text.size := by omega
    rw [if_pos hlt]
    refine ⟨fun _ => ⟨by omega, by omega, Fin.of ?_⟩, fun e => absurd rfl e⟩
    rw [Int.toNat_natCast, wrapB, beq_self_eq_true]; exact fin
theorem Sock_J3 {n m : Nat} {Q : Bool → Heap → Prop} (Sb : SS B h0 (L ++ AE V Ka Ua (stA n)) h V v Kb Ub (stA m)) (Pa : Pas v Ua (stA n)) (hl : v.l = fl0) (hv : v.t = 0) (ht : textAt v.ts 1 = text) (hn : 0 < n) (hm : 0 < m) (hs : n ≤ text.size) (hQ : ∀ h', Keep B h0 L h' → Q true h') : S_countermandlaw20_AttemptSockets_J3 B text (n : Int) (some ⟨V.kV, 0, none⟩) (some ⟨Ka.kA, 0, none⟩) (some ⟨Kb.kA, 0, none⟩) h Q := by
  unfold S_countermandlaw20_AttemptSockets_J3
  refine ⟨_, rfl, _, Sb.E.cM 0 rfl (i := 2) rfl, feed_left_wp Sb.o.k (Sb.E.gM 5 rfl) (Sb.E.gM 6 rfl) ⟨Sb.E.cM 0 rfl (i := 2) rfl, fun _ => ?_, fun hne => ?_⟩⟩
  · have Pb := Sb.pas
    have rsn : ∀ {q : Nat}, 0 < q → (stA q).rs = [(2, 1, 0)] := fun {q} hq => if_neg (by omega)
    refine land_wp (Sb.flip Pa) (by rw [rsn hn]; decide) (by rw [hv]; decide) (fun _ r' h43 Sa => ⟨fun _ => ?_, fun e => by cases e⟩) (fun hF => ?_)
    · rw [landS hl ht hn hs hv] at Sa
      refine ⟨Sa.E.cM 0 rfl (i := 2) rfl, ?_⟩
      have Sb2 := SS.flip (V := V.w r') (K1 := Kb) (U1 := Ub) (s1 := stA m) Sa (Pb.view Sa.o.f)
      generalize hv2 : (⟨v.c, v.f, v.ts, [(0, 0), (((n : Nat) : Int), 1), (0, 0)], 1⟩ : VV) = v2 at Sa Sb2
      have l2 : v2.l = [(0, 0), (((n : Nat) : Int), 1), (0, 0)] := by rw [← hv2]
      have t2 : v2.t = 1 := by rw [← hv2]
      have ts2 : textAt v2.ts 1 = text := by rw [← hv2]; exact ht
      refine land_wp Sb2 (by rw [rsn hm]; decide) (by rw [t2]; decide) (fun hT => ?_) (fun _ h47 Sb3 => ⟨fun e => (by cases e), fun _ => ?_⟩)
      · exfalso
        rw [rsn hm] at hT
        unfold vld at hT
        simp only [List.all_cons, List.all_nil, Bool.and_true, decide_eq_true_eq] at hT
        have : verOf v2 2 1 = 1 := by show (cellAt_int v2.l 1).2 = 1; rw [l2]; rfl
        rw [this] at hT
        exact absurd hT (by decide)
      · refine ⟨Sb3.E.cM 0 rfl (i := 2) rfl, _, rfl, by omega, by omega, by omega, _, Sb3.E.cM 0 rfl (i := 2) rfl, feed_left_wp Sb3.o.k (Sb3.E.gM 5 rfl) (Sb3.E.gM 6 rfl) ⟨Sb3.E.cM 0 rfl (i := 2) rfl, fun _ => Fin.of ?_, fun hne => ?_⟩⟩
        · refine Sock_J4 (V := V.w r') Sb3.out Sb3.o l2 t2 ts2 hs fun h' E => hQ h' ?_
          rw [List.append_assoc] at E
          exact E.popL
        · exfalso
          apply hne
          unfold leftOf
          rw [ts2, l2, Int.toNat_natCast, Int.toNat_natCast]; rfl
    · exfalso
      rw [rsn hn] at hF
      unfold vld at hF
      simp only [List.all_cons, List.all_nil, Bool.and_true, decide_eq_false_iff_not] at hF
      apply hF
      show (cellAt_int v.l 1).2 = 0
      rw [hl]; rfl
  · exfalso
    apply hne
    unfold leftOf
    rw [ht, hl]
    exact ByteArray.extract_zero_size
theorem AttemptSockets_wp {Q : Bool → Heap → Prop} (hQ : ∀ h', Keep B h [] h' → Q true h') : C_countermandlaw20_AttemptSockets B text n m h Q := by
  refine C_countermandlaw20_AttemptSockets.of ?_
  unfold S_countermandlaw20_AttemptSockets
  refine alive20_wp fun h5 E0 => ⟨fun _ => ?_, fun e => by cases e⟩
  have out := hQ _ E0
  refine ⟨fun _ => Fin.of out, fun h1 => ⟨fun _ => Fin.of out, fun h2 => ⟨fun _ => Fin.of out, fun h3 => ⟨fun _ => Fin.of out, fun h4 => ⟨fun _ => Fin.of out, fun h6 => Fin.of ?_⟩⟩⟩⟩⟩
  clear out
  obtain ⟨n, rfl⟩ := Int.eq_ofNat_of_zero_le (by omega : 0 ≤ n)
  obtain ⟨m, rfl⟩ := Int.eq_ofNat_of_zero_le (by omega : 0 ≤ m)
  unfold S_countermandlaw20_AttemptSockets_J1
  refine newview_wp fun V h9 o E1 => ?_
  have E1 : Keep B h ([] ++ V.e vz) h9 := E0.append E1
  refine ⟨_, rfl, _, E1.cM 0 rfl (i := 2) rfl, feed_arrive_wp o.k (E1.gM 5 rfl) (by omega) ?_⟩
  have E2 := E1.pM (o' := feedO (arrT ts0 1 text) V.kP) 5 rfl
  have ha : arrE ts0 1 text = 0 := by
    have : textAt ts0 1 = ByteArray.empty := rfl
    have hz : ByteArray.empty.size = 0 := rfl
    unfold arrE
    rw [if_pos (by decide), this, hz, if_neg (by omega)]
  have ht : textAt (arrT ts0 1 text) 1 = text := by
    have h1 : textAt ts0 1 = ByteArray.empty := rfl
    unfold arrT
    rw [if_pos ha, textAt_set rfl (by decide) (by decide), if_pos rfl, h1]
    exact ByteArray.empty_append
  have o2 : VOk V { vz with ts := arrT ts0 1 text } := ⟨o.r, o.c8, o.f, o.k.arrive 1 text⟩
  generalize hvv : { vz with ts := arrT ts0 1 text } = v at o2
  have E3 : Keep B h ([] ++ V.e v) (h9.set V.kF (feedO (arrT ts0 1 text) V.kP)) := by rw [← hvv]; exact E2
  have hl : v.l = fl0 := by rw [← hvv]; rfl
  have hc : cellAt_int v.l 1 = (0, 0) := by rw [hl]; rfl
  have hv : v.t = 0 := by rw [← hvv]; rfl
  have hts : textAt v.ts 1 = text := by rw [← hvv]; exact ht
  have z0 : s0 v ⟨0, 0, 0, 0⟩ = stA 0 := by unfold s0; rw [hv]; rfl
  clear E1 E2 hvv
  show C_attempt_New B _ _ _ _ _ (h9.set V.kF (feedO (arrT ts0 1 text) V.kP)) _
  refine anew_wp (g := ⟨0, 0, 0, 0⟩) E3 o2 fun Ka Ua h16 Sa => ?_
  have Sa := Sa.drop2
  refine anew_wp (g := ⟨0, 0, 0, 0⟩) Sa.out o2 fun Kb Ub h18 Sb => ?_
  have Sb := Sb.drop2
  have Pa := Sa.pas
  have Pb := Sb.pas
  rw [z0] at Sb Pa Pb
  refine ⟨fun q m' h' => ∃ (j : Nat) (Ua : AU), j ≤ n ∧ q = j ∧ m' = n - j ∧ SS B h ([] ++ AE V Kb Ub (stA 0)) h' V v Ka Ua (stA j), n, Fin.of ⟨0, Ua, by omega, rfl, rfl, Sb.flip Pa⟩, ?_⟩
  clear Sa Sb Pa E3 E0
  rintro _ _ h68 ⟨j, Ua, hj, rfl, rfl, S⟩
  refine ⟨fun hlt => ?_, fun hge => Fin.of ?_⟩
  · refine recv_wp S stA_len fun U' h73 S1 => ?_
    have hj' : j < text.size := by omega
    rw [recv_step hc hts hj'] at S1 ⊢
    exact ⟨by omega, by omega, fun _ => ⟨fun _ => Fin.of ⟨n - (j + 1), by omega, j + 1, U', by omega, wrapS (by omega), rfl, S1⟩, fun e => absurd rfl e⟩, fun e => absurd (by rw [Int.toNat_natCast, wrapB]) e⟩
  have hjn : j = n := by omega
  subst hjn
  have Pa := S.pas
  unfold S_countermandlaw20_AttemptSockets_J2
  refine ⟨fun q m' h' => ∃ (i : Nat) (Ub : AU), i ≤ m ∧ q = i ∧ m' = m - i ∧ SS B h ([] ++ AE V Ka Ua (stA j)) h' V v Kb Ub (stA i), m, Fin.of ⟨0, Ub, by omega, rfl, rfl, S.flip Pb⟩, ?_⟩
  clear S
  rintro _ _ h59 ⟨i, Ub2, hi, rfl, rfl, S⟩
  refine ⟨fun hlt => ?_, fun hge => Fin.of ?_⟩
  · refine recv_wp S stA_len fun U' h73 S1 => ?_
    have hj' : i < text.size := by omega
    rw [recv_step hc hts hj'] at S1 ⊢
    exact ⟨by omega, by omega, fun _ => ⟨fun _ => Fin.of ⟨m - (i + 1), by omega, i + 1, U', by omega, wrapS (by omega), rfl, S1⟩, fun e => absurd rfl e⟩, fun e => absurd (by rw [Int.toNat_natCast, wrapB]) e⟩
  have him : i = m := by omega
  subst him
  exact Sock_J3 S Pa hl hv hts (by omega) (by omega) (by omega) hQ
end
theorem AttemptSockets_calls (W : World) (text : ByteArray) (wt : text.size ≤ 140737488351232) (n : Int) (wn : (Lit.int .i64 n).wf = true) (m : Int) (wm : (Lit.int .i64 m).wf = true) :
    Calls PG FN.countermandlaw20_AttemptSockets #[.string text, .int .i64 n, .int .i64 m] W fun e w' => e = .returned (.bool true) ∧ Below W.heap.size W w' := by
  refine Spec.calls (Spec.mono (AttemptSockets_wp (Q := fun b _ => b = true) fun _ _ => rfl) ?_)
  rintro v h' ⟨b, rfl, rfl⟩
  rfl
end Go.Proofs.Ytgldgabefiialaa.H
