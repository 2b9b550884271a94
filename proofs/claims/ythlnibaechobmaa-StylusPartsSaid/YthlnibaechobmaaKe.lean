/- The law StylusParts. No condition. -/
import Derived.Test.YthlnibaechobmaaKc
import Derived.Test.YthlnibaechobmaaHm
namespace Go.Proofs.Ythlnibaechobmaa.H
open Go Go.RowKit
set_option linter.unusedVariables false
set_option maxRecDepth 100000

theorem TK.slc_items : slcB PG TY.s_countermandlaw01_Item = some (TY.countermandlaw01_Item, 3, 32) := by kernel_rfl
theorem TK.zero_item : zeroB PG TY.countermandlaw01_Item = some [.int .i64 0, .int .i64 0, .string ByteArray.empty] := by kernel_rfl
theorem TK.sl_items : slT PG TY.s_countermandlaw01_Item = true := by kernel_rfl
theorem slT_facts {P : Program} {t : TypeId} (h : slT P t = true) : (P.underlying t).isSome = true ∧ intB P t = none := by
  unfold slT at h
  unfold intB
  split at h
  · rename_i e' hu; rw [hu]; exact ⟨rfl, rfl⟩
  · cases h
theorem Item.cells_length (x : Item) : x.cells.length = 3 := rfl
theorem Item.cells_one (x : Item) : ∀ y ∈ x.cells, isOne y = true := by simp [Item.cells, isOne]
theorem itemsB_append (a b : List Item) : itemsB (a ++ b) = itemsB a ++ itemsB b := by simp [itemsB]
theorem itemsRoom_append (a b : List Item) : itemsRoom (a ++ b) = itemsRoom a + itemsRoom b := by simp [itemsRoom]

section
variable {B : RO} {h : Heap}
theorem StylusParts_wp {a b : Option Addr} {c d : Nat} {l m : List Item} {Q : Bool → Heap → Prop} (hr : Reads B h a 3 Item.cells l) (hok : ∀ x ∈ l, x.ok) (hr2 : Reads B h b 3 Item.cells m) (hok2 : ∀ x ∈ m, x.ok) (hQ : Q true h) :
    C_countermandlaw01_StylusParts B a l.length c b m.length d h Q := by
  refine C_countermandlaw01_StylusParts.of ?_
  unfold S_countermandlaw01_StylusParts
  refine alive_wp ⟨fun _ => great_wp hr fun b1 hb1 => ⟨fun _ => Fin.of hQ, fun e1 => great_wp hr2 fun b2 hb2 => ⟨fun _ => Fin.of hQ, fun e2 => ⟨fun _ => Fin.of hQ, fun _ => Fin.of ?_⟩⟩⟩, fun e => by cases e⟩
  obtain ⟨p1, p2⟩ := hb1 e1
  obtain ⟨q1, q2⟩ := hb2 e2
  have r1 := itemsRoom_sum l
  have r2 := itemsRoom_sum m
  unfold S_countermandlaw01_StylusParts_J1
  refine put_wp hr hok (by omega) (put_wp hr2 hok2 (by omega) ?_)
  intro k18 a18 b18 h19 e19
  obtain ⟨g19, l19, f19⟩ := Heap.made a18 e19
  have n19 : NewOver B h h19 := by rw [e19]; exact (NewOver.refl B h).set b18
  have hl1 := flatMap_length Item.cells_length l
  have hl2 := flatMap_length Item.cells_length m
  have row0 : SlRow h19 (.slice (some ⟨k18, 0, none⟩) 0 0) TY.countermandlaw01_Item 3 [] := .inr ⟨k18, 0, 0, 0, [], rfl, g19, rfl, by omega, by omega⟩
  have tf := slT_facts TK.sl_items
  refine semH_append TK.slc_items TK.zero_item rfl (by omega) (by omega) tf.1 tf.2 row0 ((hr.over l19 n19).src Item.cells_length Item.cells_one) (by rw [hl1, List.length_nil]; omega) ?_
  intro v1 h20 ap1
  obtain ⟨a21, n22, c23, rfl⟩ := ap1.slice row0
  refine ⟨a21, n22, c23, rfl, ?_⟩
  have row1 := ap1.row row0
  obtain ⟨l20, o20⟩ := ap1.le (h0 := h) l19 (fun k m c e => by cases e; exact a18)
  obtain ⟨n20, o20'⟩ := ap1.news (fun k m c e => by cases e; exact b18)
  rw [List.nil_append] at row1
  refine semH_append TK.slc_items TK.zero_item rfl (by omega) (by omega) tf.1 tf.2 row1 ((hr2.over l20 (n19.trans n20)).src Item.cells_length Item.cells_one) (by rw [hl1, hl2]; omega) ?_
  intro v2 h24 ap2
  obtain ⟨a25, n26, c27, rfl⟩ := ap2.slice row1
  refine ⟨a25, n26, c27, rfl, ?_⟩
  have row2 := ap2.row row1
  obtain ⟨l24, o24⟩ := ap2.le (h0 := h) l20 o20
  rw [← List.flatMap_append] at row2
  obtain ⟨rfl, hr3⟩ := row2.reads (B := B) Item.cells_length (by omega)
  refine put_wp hr3 (fun x hx => (List.mem_append.1 hx).elim (hok x) (hok2 x)) (by rw [itemsRoom_append]; omega) ?_
  have s1 := itemsB_length l hok (by omega)
  have s2 := itemsB_length m hok2 (by omega)
  refine ⟨by rw [ba_size, ba_size]; omega, Fin.ent (Ent.forget l24) (Fin.of ?_)⟩
  rw [itemsB_append, ba_append, decide_eq_true rfl]
  exact hQ
end
theorem StylusParts_calls {H : Type} {enc : TypeId × Value → H} (W : World) {a b : Option Addr} {len cap len' cap' : Nat} {d d' : DataW H} {p p' : List MemPlace} (k : DataW.Trod enc PG W 0 (fun _ => true) true TY.s_countermandlaw01_Item (.slice a len cap) d p) (k' : DataW.Trod enc PG W 0 (fun _ => true) true TY.s_countermandlaw01_Item (.slice b len' cap') d' p') :
    Calls PG FN.countermandlaw01_StylusParts #[.slice a len cap, .slice b len' cap'] W fun e w' => e = .returned (.bool true) ∧ Below W.heap.size W w' := by
  obtain ⟨l, rfl, hr, hok⟩ := Item_arg k
  obtain ⟨m, rfl, hr2, hok2⟩ := Item_arg k'
  refine Spec.calls (Spec.mono (StylusParts_wp (Q := fun b _ => b = true) hr hok hr2 hok2 rfl) ?_)
  rintro v h' ⟨b, rfl, rfl⟩
  rfl
end Go.Proofs.Ythlnibaechobmaa.H
