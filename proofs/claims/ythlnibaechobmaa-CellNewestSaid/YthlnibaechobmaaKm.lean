/- What Len and Newest of a row of whole numbers do, and the document's answer for cells: contracts; the word of the law's package. No condition. -/
import Derived.Test.YthlnibaechobmaaCi
namespace Go.Proofs.Ythlnibaechobmaa.H
open Go
set_option linter.unusedVariables false
set_option maxRecDepth 100000

/-- The greatest version of all; 0 of none. -/
def newestOf (l : List (Int × Int)) : Int := l.foldl (fun n x => if x.2 > n then x.2 else n) 0
theorem newestOf_take_succ (l : List (Int × Int)) (k : Nat) (hk : k < l.length) : newestOf (l.take (k + 1)) = if l[k].2 > newestOf (l.take k) then l[k].2 else newestOf (l.take k) := by
  unfold newestOf; rw [List.take_succ_eq_append_getElem hk, List.foldl_append]; rfl

structure SetR where
  i : Int
  value : Int
  version : Int
def SetR.cells (x : SetR) : List Value := [.int .i64 x.i, .int .i64 x.value, .int .i64 x.version]
theorem SetR.cells_len (x : SetR) : x.cells.length = 3 := rfl
/-- The last one of those that were set at a number. -/
def lastSet (l : List SetR) (i : Int) : Option SetR := l.reverse.find? fun x => x.i == i
def ref08At (n first : Int) (l : List SetR) (i : Int) : Int × Int :=
  if 0 ≤ i ∧ i < n then (match lastSet l i with | some x => (x.value, x.version) | none => (first, 0)) else (0, 0)
theorem lastSet_take_succ (l : List SetR) (k : Nat) (hk : k < l.length) (i : Int) : lastSet (l.take (k + 1)) i = if l[k].i = i then some l[k] else lastSet (l.take k) i := by
  unfold lastSet
  rw [List.take_succ_eq_append_getElem hk, List.reverse_append, List.reverse_singleton, List.singleton_append, List.find?_cons]
  by_cases h : l[k].i = i
  · have e : (l[k].i == i) = true := by simpa using h
    rw [e, if_pos h]
  · have e : (l[k].i == i) = false := by simpa using h
    rw [e, if_neg h]

section
variable {B : RO} {h : Heap} {b : Nat}
theorem len_wp_int {l : List (Int × Int)} {Q : Int → Heap → Prop} (hv : RowV_int h b l) (hQ : Q (l.length : Nat) h) : C_cell_Row_int_Len B (some ⟨b, 0, none⟩) h Q := by
  refine C_cell_Row_int_Len.of ?_
  unfold S_cell_Row_int_Len
  refine ⟨(fun e => by cases e), fun _ => ⟨_, rfl, FV.ld hv fun a m c h1 sh => Fin.ent sh.2.1 (Fin.of ?_)⟩⟩
  rw [RowP_int.len sh.1]; exact hQ
theorem len_nil_int {Q : Int → Heap → Prop} (hQ : Q 0 h) : C_cell_Row_int_Len B none h Q := by
  refine C_cell_Row_int_Len.of ?_
  unfold S_cell_Row_int_Len
  exact ⟨fun _ => Fin.of hQ, fun e => absurd rfl e⟩
theorem newest_wp_int {l : List (Int × Int)} {Q : Int → Heap → Prop} (hlen : l.length ≤ 1000000000) (hv : RowV_int h b l) (hQ : Q (newestOf l) h) : C_cell_Row_int_Newest B (some ⟨b, 0, none⟩) h Q := by
  refine C_cell_Row_int_Newest.of ?_
  unfold S_cell_Row_int_Newest
  refine len_wp_int hv ⟨fun n i m h' => ∃ j : Nat, j ≤ l.length ∧ i = j ∧ m = l.length - j ∧ n = newestOf (l.take j) ∧ h = h', l.length, Fin.of ⟨0, by omega, rfl, by omega, rfl, rfl⟩, ?_⟩
  rintro _ _ _ _ ⟨j, hj, rfl, rfl, rfl, rfl⟩
  refine ⟨fun hlt => version_wp_int hv (Fin.of ⟨l.length - (j + 1), by omega, j + 1, by omega, ?_, rfl, ?_, rfl⟩), fun hge => Fin.of ?_⟩
  · rw [w64 (by omega) (by omega)]; omega
  · have hj' : j < l.length := by omega
    rw [cellAt_int_in (by omega) (by simpa using hj'), newestOf_take_succ l j hj']
    rfl
  · have : j = l.length := by omega
    subst this
    rw [List.take_length]; exact hQ
theorem newest_nil_int {Q : Int → Heap → Prop} (hQ : Q 0 h) : C_cell_Row_int_Newest B none h Q := by
  refine C_cell_Row_int_Newest.of ?_
  unfold S_cell_Row_int_Newest
  refine len_nil_int ⟨fun n i m h' => n = 0 ∧ i = 0 ∧ h = h', 0, Fin.of ⟨rfl, rfl, rfl⟩, ?_⟩
  rintro _ _ m _ ⟨rfl, rfl, rfl⟩
  exact ⟨fun hlt => absurd hlt (by decide), fun _ => Fin.of hQ⟩

theorem ref08_is_wp {n i : Int} {Q : Bool → Heap → Prop} (hn : PF h b 0 (.int .i64 n)) (hQ : Q (decide (0 ≤ i ∧ i < n)) h) : C_countermandref08_Row_Is B (some ⟨b, 0, none⟩) i h Q := by
  refine C_countermandref08_Row_Is.of ?_
  unfold S_countermandref08_Row_Is
  refine ⟨fun h0 => ⟨_, rfl, n, hn.cell, Fin.of ?_⟩, fun h0 => Fin.of ?_⟩
  · have : decide (i < n) = decide (0 ≤ i ∧ i < n) := by rw [decide_eq_decide]; exact ⟨fun x => ⟨by omega, x⟩, fun x => x.2⟩
    rw [this]; exact hQ
  · rw [decide_eq_false (by omega)] at hQ; exact hQ

theorem ref08_get_wp {n first i : Int} {l : List SetR} {Q : Int → Int → Heap → Prop} (hlen : l.length ≤ 1000000000) (hn : PF h b 0 (.int .i64 n)) (hf : PF h b 1 (.int .i64 first)) (hv : FV h b 2 TY.countermandref08_Set 3 (l.flatMap SetR.cells))
    (hQ : Q (ref08At n first l i).1 (ref08At n first l i).2 h) : C_countermandref08_Row_Get B (some ⟨b, 0, none⟩) i h Q := by
  refine C_countermandref08_Row_Get.of ?_
  unfold S_countermandref08_Row_Get
  refine ref08_is_wp hn ⟨fun hT => ⟨_, rfl, FV.ld hv fun a m c h1 sh => ?_⟩, fun hF => Fin.of ?_⟩
  · rw [decide_eq_true_eq] at hT
    rw [ref08At, if_pos hT] at hQ
    have hm : m = l.length := by have := sh.1.len; rw [flatMap_length SetR.cells_len] at this; omega
    refine ⟨fun i' m' h' => ∃ j : Nat, j ≤ l.length ∧ i' = (j : Int) - 1 ∧ j = m' ∧ lastSet l i = lastSet (l.take j) i ∧ h = h', l.length, Fin.ent sh.2.1 (Fin.of ⟨l.length, by omega, ?_, rfl, by rw [List.take_length], rfl⟩), ?_⟩
    · rw [hm, w64 (by omega) (by omega)]
    rintro _ _ _ ⟨j, hj, rfl, rfl, hls, rfl⟩
    refine ⟨fun hge => ?_, fun hlt => ?_⟩
    · obtain ⟨j, rfl⟩ : ∃ k, j = k + 1 := ⟨j - 1, by omega⟩
      have e1 : ((j + 1 : Nat) : Int) - 1 = ((j : Nat) : Int) := by omega
      rw [e1, Int.toNat_natCast]
      refine ⟨_, rfl, FV.ld hv fun a m c h2 sh2 => ?_⟩
      have hm2 : m = l.length := by have := sh2.1.len; rw [flatMap_length SetR.cells_len] at this; omega
      have hj' : j < l.length := by omega
      obtain ⟨_, hrd⟩ := sh2.1.2.reads (B := B) SetR.cells_len (by omega)
      obtain ⟨A, e, _, q⟩ := hrd j l[j] (List.getElem?_eq_getElem hj')
      refine ⟨A, e, by omega, by omega, _, q.1, fun heq => ?_, fun hne => ?_⟩
      · refine ⟨_, rfl, a, m, c, sh2.1.cell, A, e, by omega, by omega, _, q.2.1, _, rfl, a, m, c, sh2.1.cell, A, e, by omega, by omega, _, q.2.2.1, Fin.ent sh2.2.1 (Fin.of ?_)⟩
        rw [hls, lastSet_take_succ l j hj', if_pos heq] at hQ
        exact hQ
      · refine Fin.ent sh2.2.1 (Fin.of ⟨j, by omega, j, by omega, by rw [w64 (by omega) (by omega)], rfl, ?_, rfl⟩)
        rw [hls, lastSet_take_succ l j hj', if_neg hne]
    · obtain rfl : j = 0 := by omega
      refine ⟨_, rfl, first, hf.cell, Fin.of ?_⟩
      rw [hls, show lastSet (l.take 0) i = none from rfl] at hQ
      exact hQ
  · rw [decide_eq_false_iff_not] at hF
    rw [ref08At, if_neg hF] at hQ
    exact hQ

theorem alive08_wp {Q : Bool → Heap → Prop} (hQ : Q true h) : C_countermandlaw08_alive B h Q := by
  refine C_countermandlaw08_alive.of ?_
  unfold S_countermandlaw08_alive
  refine new_wp_int (by decide) fun k a1 b1 => ?_
  have e0 : List.replicate (2 : Int).toNat ((7 : Int), (0 : Int)) = [(7, 0), (7, 0)] := rfl
  rw [e0]
  have gs : (h.set k (rowO_int [(7, 0), (7, 0)])) k = some (rowO_int [(7, 0), (7, 0)]) := Heap.set_same _ _ _
  have v1 := rowO_int_v gs
  have back : ∀ o, Ent B (h.set k o) h := fun o => Ent.forget (Le.new a1)
  have c1 : cellAt_int [(7, 0), (7, 0)] 1 = (7, 0) := rfl
  refine get_wp_int v1 ?_
  rw [c1]
  refine ⟨fun _ => ⟨fun _ => len_wp_int v1 ⟨fun _ => set_wp_int gs (fun _ _ => ⟨fun _ => ?_, fun e => by cases e⟩) (fun hn => absurd (by decide) hn), fun hn => absurd rfl hn⟩, fun hn => absurd rfl hn⟩, fun hn => absurd rfl hn⟩
  rw [Heap.set_set]
  refine version_wp_int (rowO_int_v (Heap.set_same _ _ _)) (Fin.ent (back _) (Fin.of ?_))
  have c2 : cellAt_int ([((7 : Int), (0 : Int)), (7, 0)].set (1 : Int).toNat (5, 3)) 1 = (5, 3) := rfl
  rw [c2]
  exact hQ
end
end Go.Proofs.Ythlnibaechobmaa.H
