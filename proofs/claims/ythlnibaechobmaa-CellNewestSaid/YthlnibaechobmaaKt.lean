/- The law CellNewest. No condition. -/
import Derived.Test.YthlnibaechobmaaKn
import Derived.Test.YthlnibaechobmaaHp
namespace Go.Proofs.Ythlnibaechobmaa.H
open Go Go.RowKit
set_option linter.unusedVariables false
set_option maxRecDepth 100000

def maxOf (l : List Int) : Int := l.foldl (fun n x => if x > n then x else n) 0
theorem maxOf_append (l l' : List Int) : maxOf (l ++ l') = l'.foldl (fun n x => if x > n then x else n) (maxOf l) := by unfold maxOf; rw [List.foldl_append]
theorem maxOf_take_succ (l : List Int) (k : Nat) (hk : k < l.length) : maxOf (l.take (k + 1)) = if l[k] > maxOf (l.take k) then l[k] else maxOf (l.take k) := by
  rw [List.take_succ_eq_append_getElem hk, maxOf_append]; rfl
theorem foldMax_ge : ∀ (l : List Int) (n : Int), n ≤ l.foldl (fun n x => if x > n then x else n) n
  | [], n => Int.le_refl n
  | x :: l, n => by
    rw [List.foldl_cons]
    refine Int.le_trans ?_ (foldMax_ge l _)
    split <;> omega
theorem foldMax_zeros : ∀ (k : Nat) (n : Int), 0 ≤ n → (List.replicate k (0 : Int)).foldl (fun n x => if x > n then x else n) n = n
  | 0, n, _ => rfl
  | k + 1, n, h => by
    rw [List.replicate_succ, List.foldl_cons, if_neg (by omega)]
    exact foldMax_zeros k n h
theorem newestOf_eq (l : List (Int × Int)) : newestOf l = maxOf (l.map (·.2)) := by
  unfold newestOf maxOf; rw [List.foldl_map]
/-- The versions, one by one, as the law keeps them. -/
def verI (l : List (Int × Int)) : List Int := l.map (·.2) ++ List.replicate (64 - l.length) 0
def verV (l : List (Int × Int)) : List Value := (verI l).map (Value.int .i64)
theorem verI_len {l : List (Int × Int)} (h : l.length ≤ 64) : (verI l).length = 64 := by simp [verI]; omega
theorem verI_max (l : List (Int × Int)) : maxOf (verI l) = newestOf l := by
  rw [verI, maxOf_append, newestOf_eq]; exact foldMax_zeros _ _ (foldMax_ge _ 0)
theorem verI_init (n : Nat) (h : n ≤ 64) : verI (List.replicate n ((0 : Int), (0 : Int))) = List.replicate 64 0 := by
  rw [verI, List.map_replicate, List.length_replicate, List.replicate_append_replicate]
  congr 1; omega
theorem verI_set (l : List (Int × Int)) (i : Nat) (x v : Int) (hi : i < l.length) : (verI l).set i v = verI (l.set i (x, v)) := by
  unfold verI
  rw [List.set_append_left _ _ (by simpa using hi), List.map_set, List.length_set]
def cnL (kR k12 : Nat) (l : List (Int × Int)) : List (Option (Nat × AObj)) := [some (kR, rowO_int l), some (k12, .vec TY.a_64_int (plains (verV l)) 64)]
theorem addr_at (k i : Nat) : Addr.add ⟨k, 0, none⟩ i = ⟨k, i, none⟩ := by unfold Addr.add; split <;> simp_all

section
variable {B : RO} {h0 h : Heap} {kR k12 : Nat} {n : Int} {l : List (Int × Int)} {Q : Bool → Heap → Prop} {a : Option Addr} {c : Nat} {nn : Nat} {i14 : Int} {m16 : Nat} {J19 : Int → Nat → Heap → Prop}
theorem CellNewest_J3 (E : Keep B h0 (cnL kR k12 l) h) (hl : l.length ≤ 64) (hJ : Fin B h (fun h' => ∃ m', m' < m16 ∧ J19 (IntKind.wrap .i64 (i14 + 1)) m' h')) : S_countermandlaw08_CellNewest_J3 B a nn c (some ⟨kR, 0, none⟩) k12 i14 m16 J19 (newestOf l) h Q := by
  unfold S_countermandlaw08_CellNewest_J3
  exact newest_wp_int (by omega) (rowO_int_v (E.at 0 rfl)) ⟨fun _ => hJ, fun hne => absurd rfl hne⟩
theorem CellNewest_J2 (E : Keep B h0 (cnL kR k12 l) h) (hl : l.length ≤ 64) (hJ : Fin B h (fun h' => ∃ m', m' < m16 ∧ J19 (IntKind.wrap .i64 (i14 + 1)) m' h')) : S_countermandlaw08_CellNewest_J2 B a nn c (some ⟨kR, 0, none⟩) k12 i14 m16 J19 h Q := by
  unfold S_countermandlaw08_CellNewest_J2
  have hvl := verI_len hl
  refine ⟨verV l, by rw [verV, List.length_map]; exact hvl, CellsAt.of_vec _ 0 (E.at 1 rfl) fun j y hy => by simp [plains, hy], ?_⟩
  refine ⟨fun w i m h' => ∃ j : Nat, j ≤ 64 ∧ i = j ∧ m = 64 - j ∧ w = maxOf ((verI l).take j) ∧ h = h', 64, Fin.of ⟨0, by omega, rfl, by omega, rfl, rfl⟩, ?_⟩
  rintro _ _ _ _ ⟨j, hj, rfl, rfl, rfl, rfl⟩
  refine ⟨fun hlt => ?_, fun hge => ?_⟩
  · have hj' : j < 64 := by omega
    refine ⟨by omega, by omega, (verI l)[j]'(by omega), ?_, Fin.of ⟨64 - (j + 1), by omega, j + 1, by omega, ?_, rfl, ?_, rfl⟩⟩
    · simp [verV, hvl, hj']
    · rw [w64 (by omega) (by omega)]; omega
    · rw [maxOf_take_succ (verI l) j (by omega)]
  · have : j = 64 := by omega
    subst this
    rw [List.take_of_length_le (by omega), verI_max]
    exact Fin.of (CellNewest_J3 E hl hJ)
theorem CellNewest_J1 {list : List SetR} (w : Wk B h0 h) (hr : Reads B h0 a 3 SetR.cells list) (hlen : list.length ≤ 100) (hn : n ≤ 64) (hQ : Q true h0) : S_countermandlaw08_CellNewest_J1 B n a list.length c h Q := by
  unfold S_countermandlaw08_CellNewest_J1
  refine new_wp_int (by omega) fun kR aR bR => ?_
  intro k12 a12 b12 h13 e13
  have E := ((Keep.of w).new (o := rowO_int (List.replicate n.toNat ((0 : Int), (0 : Int)))) aR bR).made a12 b12 e13
  have e0 : (AObj.vec 38 (plains (List.replicate 64 (Value.int .i64 (0)))) 64) = .vec TY.a_64_int (plains (verV (List.replicate n.toNat ((0 : Int), (0 : Int))))) 64 := by
    rw [verV, verI_init _ (by omega), List.map_replicate]
  rw [e0] at E
  refine ⟨fun i m h' => ∃ (j : Nat) (l : List (Int × Int)), j ≤ list.length ∧ i = j ∧ m = list.length - j ∧ l.length = n.toNat ∧ Keep B h0 (cnL kR k12 l) h', list.length, Fin.of ⟨0, _, by omega, rfl, by omega, List.length_replicate, E⟩, ?_⟩
  clear e0 E e13
  rintro _ _ h15 ⟨j, l, hj, rfl, rfl, hl, E⟩
  refine ⟨fun hlt => ?_, fun hge => Fin.ent E.back (Fin.of hQ)⟩
  have hj' : j < list.length := by omega
  have hw : IntKind.wrap .i64 ((j : Int) + 1) = ((j + 1 : Nat) : Int) := by rw [w64 (by omega) (by omega)]; omega
  obtain ⟨A, e1, e3, e4⟩ := (hr.over E.le E.nw) j list[j] (List.getElem?_eq_getElem hj')
  refine ⟨A, e1, by omega, hlt, list[j].i, list[j].value, list[j].version, (by simpa [SetR.cells] using e4), fun k26 a26 b26 h27 e27 => ?_⟩
  have E1 := E.made a26 b26 e27
  refine ⟨_, stores_whole (E1.at 2 rfl) rfl (by simp) (by simp [isOne]) (by simp), ?_⟩
  have E2 := E1.put (o' := .vec TY.countermandref08_Set (plains list[j].cells) 3) 2 rfl
  have next : ∀ {h' : Heap} {l' : List (Int × Int)}, l'.length = n.toNat → Keep B h0 (cnL kR k12 l') h' → Fin B h' (fun h'' => ∃ m', m' < list.length - j ∧ ∃ (j' : Nat) (l : List (Int × Int)), j' ≤ list.length ∧ IntKind.wrap .i64 ((j : Int) + 1) = j' ∧ m' = list.length - j' ∧ l.length = n.toNat ∧ Keep B h0 (cnL kR k12 l) h'') :=
    fun hl' E' => Fin.of ⟨list.length - (j + 1), by omega, j + 1, _, by omega, hw, rfl, hl', E'⟩
  refine ⟨_, E2.cell 2 rfl rfl, _, E2.cell 2 rfl rfl, _, E2.cell 2 rfl rfl, set_wp_int (E2.at 0 rfl) (fun h1 h2 => ⟨fun _ => ?_, fun e => by cases e⟩) (fun _ => ⟨fun e => (by cases e), fun _ => Fin.of (CellNewest_J2 (E2.take 2) (by omega) (next hl (E2.take 2)))⟩)⟩
  have E3 := E2.put (o' := rowO_int (l.set list[j].i.toNat (list[j].value, list[j].version))) 0 rfl
  refine ⟨_, E3.cell 2 rfl rfl, fun hlt0 => absurd (show list[j].i < 0 from hlt0) (by omega), fun _ => ⟨_, E3.cell 2 rfl rfl, fun hgt => absurd (show list[j].i > 63 from hgt) (by omega), fun _ => Fin.of ?_⟩⟩
  unfold S_countermandlaw08_CellNewest_J4
  refine ⟨fun e => (by cases e), fun _ => ⟨_, E3.cell 2 rfl rfl, _, E3.cell 2 rfl rfl, h1, (by show list[j].i < (64 : Nat); omega), ?_⟩⟩
  rw [Nat.mul_one, addr_at]
  have hvl := verI_len (l := l) (by omega)
  have hg : (plains (verV l))[list[j].i.toNat]? = some (.plain (.int .i64 ((verI l)[list[j].i.toNat]'(by omega)))) := by
    simp only [plains, verV, List.getElem?_map]
    rw [List.getElem?_eq_getElem (by omega)]; rfl
  obtain ⟨es, E4⟩ := E3.store 1 list[j].i.toNat (.int .i64 list[j].version) rfl hg
  refine ⟨_, es, ?_⟩
  have e5 : (plains (verV l)).set list[j].i.toNat (.plain (.int .i64 list[j].version)) = plains (verV (l.set list[j].i.toNat (list[j].value, list[j].version))) := by
    unfold verV plains
    rw [← verI_set _ _ _ _ h2, List.map_set, List.map_set]
  rw [e5] at E4 ⊢
  have E5 : Keep B h0 (cnL kR k12 (l.set list[j].i.toNat (list[j].value, list[j].version))) _ := E4.take 2
  have hl' : (l.set list[j].i.toNat (list[j].value, list[j].version)).length = n.toNat := by rw [List.length_set]; exact hl
  exact Fin.of (CellNewest_J2 E5 (by omega) (next hl' E5))
theorem CellNewest_wp {list : List SetR} (hr : Reads B h a 3 SetR.cells list) (hQ : Q true h) : C_countermandlaw08_CellNewest B n a list.length c h Q := by
  refine C_countermandlaw08_CellNewest.of ?_
  unfold S_countermandlaw08_CellNewest
  exact alive08_wp ⟨fun _ => ⟨fun _ => Fin.of hQ, fun h1 => ⟨fun _ => Fin.of hQ, fun h2 => Fin.of (CellNewest_J1 (Wk.refl h) hr (by omega) (by omega) hQ)⟩⟩, fun e => by cases e⟩
end
theorem CellNewest_calls {H : Type} {enc : TypeId × Value → H} (W : World) (n : Int) (wn : (Lit.int .i64 n).wf = true) {a : Option Addr} {len cap : Nat} {d : DataW H} {p : List MemPlace} (k : DataW.Trod enc PG W 0 (fun _ => true) true TY.s_countermandref08_Set (.slice a len cap) d p) :
    Calls PG FN.countermandlaw08_CellNewest #[.int .i64 n, .slice a len cap] W fun e w' => e = .returned (.bool true) ∧ Below W.heap.size W w' := by
  obtain ⟨l, rfl, hr, hok⟩ := SetR_arg k
  refine Spec.calls (Spec.mono (CellNewest_wp (Q := fun b _ => b = true) hr rfl) ?_)
  rintro v h' ⟨b, rfl, rfl⟩
  rfl
end Go.Proofs.Ythlnibaechobmaa.H
