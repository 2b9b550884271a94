/- The law StylusReturns. No condition. -/
import Derived.Test.YtoajfmmomgpjcaaKh
namespace Go.Proofs.Ytoajfmmomgpjcaa.H
open Go Go.RowKit
set_option linter.unusedVariables false
set_option maxRecDepth 100000

section
variable {B : RO} {h : Heap}
theorem StylusReturns_wp {a : Option Addr} {c : Nat} {l : List Item} {Q : Bool → Heap → Prop} (hr : Reads B h a 3 Item.cells l) (hok : ∀ x ∈ l, x.ok) (hQ : Q true h) : C_countermandlaw01_StylusReturns B a l.length c h Q := by
  refine C_countermandlaw01_StylusReturns.of ?_
  unfold S_countermandlaw01_StylusReturns
  refine alive_wp ⟨fun _ => great_wp hr fun b hb => ⟨fun _ => Fin.of hQ, fun e => ?_⟩, fun e => by cases e⟩
  obtain ⟨p1, p2⟩ := hb e
  have hroom := itemsRoom_sum l
  refine put_wp hr hok (by omega) (rof_wp (l := itemsB l) rfl fun k a1 b1 => ?_)
  refine ⟨fun i m h' => ∃ j : Nat, j ≤ l.length ∧ i = j ∧ m = l.length - j ∧ h' = h.set k (rdO (itemsB (l.drop j)) false), l.length, Fin.of ⟨0, by omega, rfl, by omega, by rw [List.drop_zero]⟩, ?_⟩
  rintro _ _ _ ⟨j, hj, rfl, rfl, rfl⟩
  have gs : (h.set k (rdO (itemsB (l.drop j)) false)) k = some (rdO (itemsB (l.drop j)) false) := Heap.set_same _ _ _
  refine ⟨fun hlt => ?_, fun hge => Fin.of ?_⟩
  · have hj' : j < l.length := by omega
    have hw : IntKind.wrap .i64 ((j : Int) + 1) = ((j + 1 : Nat) : Int) := by rw [w64 (by omega) (by omega)]; omega
    have hokk := hok l[j] (List.getElem_mem hj')
    have hrm := itemsRoom_at l j hj'
    obtain ⟨A, e1, e3, e4⟩ := hr j l[j] (List.getElem?_eq_getElem hj')
    have hAk : A.block ≠ k := fun e => by rw [e] at e3; exact e3 a1 b1
    have hdr : itemsB (l.drop j) = l[j].bytes ++ itemsB (l.drop (j + 1)) := by
      unfold itemsB; rw [List.drop_eq_getElem_cons hj', List.flatMap_cons]
    refine ⟨A, e1, by omega, hlt, l[j].kind, l[j].n, l[j].s, ?_, fun k34 a34 b34 h35 e35 => ?_⟩
    · have e5 := CellsAt.set (o := rdO (itemsB (l.drop j)) false) (b := k) (by rw [Addr.add_block']; exact hAk) e4
      simpa [Item.cells] using e5
    obtain ⟨g35, l35, f35⟩ := Heap.made a34 e35
    obtain ⟨n34, g35'⟩ := f35 _ _ gs
    refine ⟨_, stores_whole g35 rfl (by simp) (by simp [isOne]) (by simp), ?_⟩
    generalize e36 : h35.set k34 _ = h36
    obtain ⟨g36, f36, -⟩ := Heap.put e36
    have g36' : h36 k = _ := f36 _ (Ne.symm n34)
    rw [g35', hdr] at g36'
    have q36 : ∀ c o, c ≠ k → h c = some o → h36 c = some o := by
      intro c o hc hh
      have h1 : (h.set k (rdO (itemsB (l.drop j)) false)) c = some o := Heap.get_set hc hh
      rw [f36 c (fun e => by rw [e, a34] at h1; cases h1)]
      exact l35 _ _ h1
    have back : ∀ h', h' k = some (rdO (itemsB (l.drop (j + 1))) false) → (∀ c o, c ≠ k → h c = some o → h' c = some o) →
        Fin B h' (fun h' => ∃ m', m' < l.length - j ∧ ∃ j1 : Nat, j1 ≤ l.length ∧ IntKind.wrap .i64 ((j : Int) + 1) = (j1 : Int) ∧ m' = l.length - j1 ∧ h' = h.set k (rdO (itemsB (l.drop j1)) false)) := by
      intro h' q1 q2
      refine Fin.ent (Ent.forget (h' := h.set k (rdO (itemsB (l.drop (j + 1))) false)) ?_) (Fin.of ⟨_, by omega, j + 1, by omega, hw, rfl, rfl⟩)
      intro c o hc
      by_cases hck : c = k
      · subst hck; rw [Heap.set_same] at hc; rw [q1]; exact hc
      · rw [Heap.set_ne _ _ _ _ hck] at hc; exact q2 c o hck hc
    have cell : ∀ (o : AObj) (i : Nat) (v : Value), (plains [Value.int .i64 l[j].kind, .int .i64 l[j].n, .string l[j].s])[i]? = some (.plain v) → cellH B (h36.set k o) ⟨k34, i, none⟩ = some v := by
      intro o i v hv
      exact cellH_vec (Heap.get_set n34 g36) hv
    have after : ∀ h', h' = h36.set k (rdO (itemsB (l.drop (j + 1))) false) → h' k = some (rdO (itemsB (l.drop (j + 1))) false) ∧ (∀ c o, c ≠ k → h c = some o → h' c = some o) := by
      rintro h' rfl
      exact ⟨Heap.set_same _ _ _, fun c o hc hh => Heap.get_set hc (q36 c o hc hh)⟩
    refine ⟨l[j].kind, cellH_vec g36 rfl, fun hk0 => ?_, fun hk0 => ⟨fun hk1 => ?_, fun hk1 => ⟨fun hk2 => ?_, fun hk2 => ⟨fun hk3 => ?_, fun hk3 => ?_⟩⟩⟩⟩
    · refine ⟨l[j].n, cellH_vec g36 rfl, fun hneg => back h36 ?_ q36, fun hpos => ⟨l[j].n, cellH_vec g36 rfl, l[j].n, cellH_vec g36 rfl, ?_⟩⟩
      · have hb : l[j].bytes = [] := by simp [Item.bytes, hk0, natI, hneg]
        rw [g36', hb, List.nil_append]
      · have hb : l[j].bytes = natB l[j].n.toNat := by simp [Item.bytes, hk0, natI, hpos]
        rw [hb] at g36'
        have hrd := rNat_ok (n := l[j].n.toNat) (most := l[j].n) (by have := hokk.2; omega) (by omega) (itemsB (l.drop (j + 1)))
        refine rnat_wp hokk.2 g36' ?_
        rw [hrd]
        refine ⟨cell _ _ _ rfl, cell _ _ _ rfl, cell _ _ _ rfl, fun _ => back _ (after _ rfl).1 (after _ rfl).2, fun hne => absurd ?_ hne⟩
        simp only; omega
    · refine ⟨l[j].n, cellH_vec g36 rfl, ?_⟩
      have hb : l[j].bytes = natB (zig l[j].n) := by simp [Item.bytes, hk1]
      rw [hb] at g36'
      have hrd := rWord_ok (n := zig l[j].n) (zig_lt hokk.1 hokk.2) (itemsB (l.drop (j + 1)))
      refine rint_wp g36' ?_
      rw [hrd]
      exact ⟨cell _ _ _ rfl, fun _ => back _ (after _ rfl).1 (after _ rfl).2, fun hne => absurd (unzig_zig _) hne⟩
    · refine ⟨l[j].s, cellH_vec g36 rfl, l[j].s, cellH_vec g36 rfl, ?_⟩
      have hb : l[j].bytes = bl l[j].s := by simp [Item.bytes, hk2]
      rw [hb] at g36'
      have hrd := rRaw_ok (bl l[j].s) (itemsB (l.drop (j + 1)))
      rw [bl_length] at hrd
      refine rraw_wp g36' ?_
      rw [hrd]
      exact ⟨cell _ _ _ rfl, cell _ _ _ rfl, fun _ => back _ (after _ rfl).1 (after _ rfl).2, fun hne => absurd (ba_bl _) hne⟩
    · refine ⟨l[j].s, cellH_vec g36 rfl, l[j].s, cellH_vec g36 rfl, ?_⟩
      have hb : l[j].bytes = natB l[j].s.size ++ bl l[j].s := by simp [Item.bytes, hk3]
      rw [hb] at g36'
      have hrd := rText_ok (x := bl l[j].s) (most := ((bl l[j].s).length : Nat)) (by rw [bl_length]; omega) (by omega) (itemsB (l.drop (j + 1)))
      rw [bl_length] at hrd
      refine rtext_wp (by omega) g36' ?_
      rw [hrd]
      exact ⟨cell _ _ _ rfl, cell _ _ _ rfl, fun _ => back _ (after _ rfl).1 (after _ rfl).2, fun hne => absurd (ba_bl _) hne⟩
    · have hb : l[j].bytes = [] := by simp [Item.bytes, hk0, hk1, hk2, hk3]
      refine back h36 ?_ q36
      rw [g36', hb, List.nil_append]
  · have : j = l.length := by omega
    subst this
    rw [List.drop_length] at gs ⊢
    have gs : (h.set k (rdO (itemsB []) false)) k = some (rdO [] false) := gs
    unfold S_countermandlaw01_StylusReturns_J1
    exact rover_wp gs ⟨fun _ => rbad_wp gs ⟨fun e => (by cases e), fun _ => rleft_wp gs (Fin.ent (Ent.forget (Le.new a1)) (Fin.of hQ))⟩, fun e => by simp at e⟩
end
theorem StylusReturns_calls {H : Type} {enc : TypeId × Value → H} (W : World) {a : Option Addr} {len cap : Nat} {d : DataW H} {p : List MemPlace} (k : DataW.Trod enc PG W 0 (fun _ => true) true TY.s_countermandlaw01_Item (.slice a len cap) d p) :
    Calls PG FN.countermandlaw01_StylusReturns #[.slice a len cap] W fun e w' => e = .returned (.bool true) ∧ Below W.heap.size W w' := by
  obtain ⟨l, rfl, hr, hok⟩ := Item_arg k
  refine Spec.calls (Spec.mono (StylusReturns_wp (Q := fun b _ => b = true) hr hok rfl) ?_)
  rintro v h' ⟨b, rfl, rfl⟩
  rfl
end Go.Proofs.Ytoajfmmomgpjcaa.H
