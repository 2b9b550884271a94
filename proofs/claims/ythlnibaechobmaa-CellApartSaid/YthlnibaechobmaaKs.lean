/- The law CellApart. No condition. -/
import Derived.Test.YthlnibaechobmaaKn
import Derived.Test.YthlnibaechobmaaCb
import Derived.Test.YthlnibaechobmaaHp
namespace Go.Proofs.Ythlnibaechobmaa.H
open Go Go.RowKit
set_option linter.unusedVariables false
set_option maxRecDepth 100000

def putAt (l : List (ByteArray × Int)) (i : Int) (x : ByteArray × Int) : List (ByteArray × Int) := if 0 ≤ i then l.set i.toNat x else l
theorem putAt_len (l : List (ByteArray × Int)) (i : Int) (x : ByteArray × Int) : (putAt l i x).length = l.length := by unfold putAt; split <;> simp
theorem putAt_same (l : List (ByteArray × Int)) (x : ByteArray × Int) (q : Nat) (hq : q < (putAt l q x).length) : (putAt l q x)[q] = x := by
  simp [putAt]
theorem putAt_ne (l : List (ByteArray × Int)) (i : Int) (x : ByteArray × Int) (q : Nat) (hn : (q : Int) ≠ i) (hq : q < (putAt l i x).length) : (putAt l i x)[q] = l[q]'(by rw [putAt_len] at hq; exact hq) := by
  unfold putAt
  split
  · rw [List.getElem_set_ne (by omega)]
  · rfl
def other8 : ByteArray := ByteArray.mk #[111, 116, 104, 101, 114]
def apL (k10 k12 k14 kA kB k26 k28 : Nat) (s : SetR) (stop : Int) (la lb : List (ByteArray × Int)) : List (Option (Nat × AObj)) :=
  [some (k10, .vec TY.countermandref08_Set (plains s.cells) 3), some (k12, .vec TY.int [.plain (.int .i64 stop)] 1), some (k14, .vec TY.bool (plains [.bool false]) 1), some (kA, rowO_string la), some (kB, rowO_string lb),
   some (k26, .vec TY.p_cell_Row_string (plains [.pointer (some ⟨kA, 0, none⟩)]) 1), some (k28, .vec TY.p_cell_Row_string (plains [.pointer (some ⟨kB, 0, none⟩)]) 1)]
def apR (k10 k12 k14 kA kB k26 k28 k39 k3 : Nat) (r : Option (Nat × AObj)) (a : Option Addr) (m c : Nat) (s : SetR) (stop : Int) (la : List (ByteArray × Int)) (q : Nat) : List (Option (Nat × AObj)) :=
  [some (k10, .vec TY.countermandref08_Set (plains s.cells) 3), some (k12, .vec TY.int [.plain (.int .i64 stop)] 1), some (k14, .vec TY.bool (plains [.bool false]) 1), some (kA, rowO_string la), some (kB, .vec TY.cell_Row_string [.plain (.slice a m c)] 1),
   some (k26, .vec TY.p_cell_Row_string (plains [.pointer (some ⟨kA, 0, none⟩)]) 1), some (k28, .vec TY.p_cell_Row_string (plains [.pointer (some ⟨kB, 0, none⟩)]) 1), some (k39, .vec TY.int (plains [.int .i64 (q : Nat)]) 1), r, some (k3, .vec TY.p_cell_Row_string (plains [.pointer (some ⟨kB, 0, none⟩)]) 1)]

section
variable {B : RO} {h0 h : Heap} {k10 k12 k14 kA kB k26 k28 k39 k3 : Nat} {r : Option (Nat × AObj)} {a : Option Addr} {m c : Nat} {s : SetR} {stop n : Int} {la lb : List (ByteArray × Int)} {q : Nat} {Q : Bool → Heap → Prop}
theorem set_any_string {b : Nat} {i : Int} {x : ByteArray} {v : Int} {l : List (ByteArray × Int)} {Q : Bool → Heap → Prop} (hb : h b = some (rowO_string l)) (hl : l.length ≤ 1000000)
    (hQ : ∀ t, Q t (h.set b (rowO_string (putAt l i (x, v))))) : C_cell_Row_string_Set B (some ⟨b, 0, none⟩) i x v h Q := by
  refine set_wp_string hb (fun h1 h2 => ?_) (fun hn => ?_)
  · have := hQ true
    rw [putAt, if_pos h1] at this
    exact this
  · have := hQ false
    have e : putAt l i (x, v) = l := by
      unfold putAt
      split
      · exact List.set_eq_of_length_le (by omega)
      · rfl
    rw [e, Heap.set_self _ _ _ hb] at this
    exact this
theorem CellApart_J3 (E : Keep B h0 (apR k10 k12 k14 kA kB k26 k28 k39 k3 r a m c s stop la q) h) (hq : (q : Int) = stop ∨ (q : Int) = max n 0) (hQ : Q true h0) : S_countermandlaw08_CellApart_J3 B n k12 k14 k39 h Q := by
  unfold S_countermandlaw08_CellApart_J3
  refine ⟨_, E.cell 7 rfl rfl, _, E.cell 1 rfl rfl, fun _ => ret8 (E.pf 2 rfl rfl) E.le (E.zero 2 rfl) hQ, fun hne => ⟨_, E.cell 7 rfl rfl, ret8 (E.pf 2 rfl rfl) E.le (E.zero 2 rfl) ?_⟩⟩
  have : ((q : Int) == (if (0 : Int) > n then (0 : Int) else n)) = true := by
    rw [beq_iff_eq]
    rcases hq with e | e
    · exact absurd e hne
    · rw [e]; split <;> omega
  rw [this]; exact hQ
theorem CellApart_J4 {J : Nat → Heap → Prop} (E : Keep B h0 (apR k10 k12 k14 kA kB k26 k28 k39 k3 r a m c s stop la q) h) (hq : q < 64) (hQ : Q true h0)
    (hJ : ∀ h', Keep B h0 (apR k10 k12 k14 kA kB k26 k28 k39 k3 r a m c s stop la (q + 1)) h' → J (q + 1) h') : S_countermandlaw08_CellApart_J4 B n k12 k14 k39 q J false h Q := by
  unfold S_countermandlaw08_CellApart_J4
  refine ⟨fun e => (by cases e), fun _ => ⟨_, E.cell 7 rfl rfl, ?_⟩⟩
  have hw : IntKind.wrap .i64 ((q : Int) + 1) = ((q + 1 : Nat) : Int) := by rw [w64 (by omega) (by omega)]; omega
  rw [hw]
  obtain ⟨e1, E1⟩ := E.store 7 0 (.int .i64 ((q + 1 : Nat) : Int)) rfl rfl
  refine ⟨_, e1, _, E1.cell 7 rfl rfl, _, E1.cell 1 rfl rfl, fun e => Fin.of (CellApart_J3 E1 (.inl e) hQ), fun hne => Fin.of (hJ _ E1)⟩
theorem CellApart_J2 (E : Keep B h0 (apL k10 k12 k14 kA kB k26 k28 s stop la la) h) (hl : ((la.length : Nat) : Int) = max n 0) (hn : n ≤ 64) (hQ : Q true h0) : S_countermandlaw08_CellApart_J2 B n k10 k12 k14 k26 k28 h Q := by
  unfold S_countermandlaw08_CellApart_J2
  refine ⟨_, E.cell 6 rfl rfl, _, E.cell 0 rfl rfl, _, E.cell 0 rfl rfl, set_any_string (E.at 4 rfl) (by omega) fun t => ?_⟩
  have E1 := E.put (o' := rowO_string (putAt la s.i (other8, s.version))) 4 rfl
  intro k39 a39 b39 h40 e40
  have E2 := E1.made a39 b39 e40
  obtain ⟨e3, E3⟩ := E2.store 7 0 (.int .i64 0) rfl rfl
  refine ⟨_, e3, _, E3.cell 6 rfl rfl, ?_⟩
  refine E3.openS 4 0 rfl rfl fun a m c r h1 R E4 => ?_
  refine all_wp_string fun k3 a3 b3 => ?_
  have E5 := E4.new (o := .vec TY.p_cell_Row_string (plains [.pointer (some ⟨kB, 0, none⟩)]) 1) a3 b3
  have it := all_iter_string (B := B) (k3 := k3) (b := kB) (a := a) (m := m) (c := c) (l := putAt la s.i (other8, s.version)) (by rw [putAt_len]; omega)
  refine ⟨allOf_string (putAt la s.i (other8, s.version)), AllG_string k3 kB a m c (putAt la s.i (other8, s.version)), fun q h => Keep B h0 (apR k10 k12 k14 kA kB k26 k28 k39 k3 r a m c s stop la q) h, it, all_ins_string, fun q h E => ⟨E.at 9 rfl, E.fp 4 8 rfl rfl rfl R⟩, Fin.of E5, ?_, ?_⟩
  · intro q hq i s56 hg E
    rw [allOf_string_get] at hg
    obtain ⟨x, hx, ex⟩ := Option.map_eq_some_iff.1 hg
    cases ex
    obtain ⟨hql, rfl⟩ := List.getElem?_eq_some_iff.1 hx
    have hqa : q < la.length := by rw [putAt_len] at hql; exact hql
    refine ⟨_, E.cell 5 rfl rfl, get_wp_string (rowO_string_v (E.at 3 rfl)) ?_⟩
    rw [cellAt_string_in (by omega) (by simpa using hqa)]
    refine ⟨_, E.cell 0 rfl rfl, fun he => ⟨fun _ => ?_, fun hne => absurd ?_ hne⟩, fun hne => ⟨_, E.cell 0 rfl rfl, fun he => absurd he hne, fun _ => ⟨fun _ => ?_, fun hns => absurd ?_ hns⟩⟩⟩
    · refine ⟨_, E.cell 6 rfl rfl, _, E.cell 0 rfl rfl, version_wp_string (FP.fv (E.fp 4 8 rfl rfl rfl R)) ?_⟩
      rw [cellAt_string_in (by omega) (by simpa using hql)]
      refine ⟨E.cell 0 rfl rfl, E.cell 6 rfl rfl, E.cell 0 rfl rfl, fun _ => ⟨_, E.cell 0 rfl rfl, fun _ => Fin.of (CellApart_J4 E (by omega) hQ fun _ x => x), fun hne => absurd he hne⟩, fun hne => absurd ?_ hne⟩
      have : (putAt la s.i (other8, s.version))[q] = (other8, s.version) := by
        have he' : (q : Int) = s.i := he
        simp only [← he']
        exact putAt_same _ _ _ _
      simpa using congrArg Prod.snd this
    · have : (putAt la s.i (other8, s.version))[q] = (other8, s.version) := by
        have he' : (q : Int) = s.i := he
        simp only [← he']
        exact putAt_same _ _ _ _
      exact congrArg Prod.fst this
    · refine ⟨_, E.cell 6 rfl rfl, version_wp_string (FP.fv (E.fp 4 8 rfl rfl rfl R)) ?_⟩
      rw [cellAt_string_in (by omega) (by simpa using hql)]
      refine ⟨E.cell 0 rfl rfl, fun _ => Fin.of (CellApart_J4 E (by omega) hQ fun _ x => x), fun hne2 => absurd ?_ hne2⟩
      have := putAt_ne la s.i (other8, s.version) q hne hql
      simpa using congrArg Prod.snd this
    · have := putAt_ne la s.i (other8, s.version) q hne hql
      simpa using congrArg Prod.fst this
  · intro hh E
    rw [allOf_string_len, putAt_len] at E
    exact Fin.of (CellApart_J3 E (.inr hl) hQ)
theorem CellApart_J1 {a : Option Addr} {c : Nat} {list : List SetR} (E : Keep B h0 [some (k10, .vec TY.countermandref08_Set (plains s.cells) 3), some (k12, .vec TY.int [.plain (.int .i64 stop)] 1), some (k14, .vec TY.bool (plains [.bool false]) 1)] h) (hr : Reads B h0 a 3 SetR.cells list) (hlen : list.length ≤ 100) (hn : n ≤ 64) (hQ : Q true h0) :
    S_countermandlaw08_CellApart_J1 B n a list.length c k10 k12 k14 h Q := by
  unfold S_countermandlaw08_CellApart_J1
  refine new_wp_string (by omega) fun kA aA bA => new_wp_string (by omega) fun kB aB bB => ?_
  have E2 := (E.new (o := rowO_string (List.replicate n.toNat (ByteArray.mk #[120], 0))) aA bA).new (o := rowO_string (List.replicate n.toNat (ByteArray.mk #[120], 0))) aB bB
  intro k26 a26 b26 h27 e27 k28 a28 b28 h29 e29
  have E4 := (E2.made a26 b26 e27).made a28 b28 e29
  obtain ⟨e5, E5⟩ := E4.store 5 0 (.pointer (some ⟨kA, 0, none⟩)) rfl rfl
  obtain ⟨e6, E6⟩ := E5.store 6 0 (.pointer (some ⟨kB, 0, none⟩)) rfl rfl
  refine ⟨_, e5, _, e6, ?_⟩
  refine ⟨fun i m h' => ∃ (j : Nat) (l : List (ByteArray × Int)), j ≤ list.length ∧ i = j ∧ m = list.length - j ∧ l.length = n.toNat ∧ Keep B h0 (apL k10 k12 k14 kA kB k26 k28 s stop l l) h', list.length, Fin.of ⟨0, _, by omega, rfl, by omega, List.length_replicate, E6⟩, ?_⟩
  rintro _ _ h122 ⟨j, l, hj, rfl, rfl, hl, E⟩
  refine ⟨fun hlt => ?_, fun hge => Fin.of (CellApart_J2 E (by rw [hl]; omega) hn hQ)⟩
  have hj' : j < list.length := by omega
  have hw : IntKind.wrap .i64 ((j : Int) + 1) = ((j + 1 : Nat) : Int) := by rw [w64 (by omega) (by omega)]; omega
  obtain ⟨A, e1, e3, e4⟩ := (hr.over E.le E.nw) j list[j] (List.getElem?_eq_getElem hj')
  refine ⟨A, e1, by omega, hlt, list[j].i, list[j].value, list[j].version, (by simpa [SetR.cells] using e4), fun k133 a133 b133 h134 e134 => ?_⟩
  have E1 := E.made a133 b133 e134
  refine ⟨_, stores_whole (E1.at 7 rfl) rfl (by simp) (by simp [isOne]) (by simp), ?_⟩
  have E2 := E1.put (o' := .vec TY.countermandref08_Set (plains list[j].cells) 3) 7 rfl
  refine ⟨_, E2.cell 5 rfl rfl, _, E2.cell 7 rfl rfl, _, E2.cell 7 rfl rfl, _, E2.cell 7 rfl rfl, set_any_string (E2.at 3 rfl) (by omega) fun t => ?_⟩
  have E3 := E2.put (o' := rowO_string (putAt l list[j].i (Utf8.encode (IntKind.wrap .i32 (IntKind.wrap .i64 ((97) + (IntKind.wrap .i64 ((BitVec.ofInt (IntKind.bits .i64) (list[j].value) &&& BitVec.ofInt (IntKind.bits .i64) (15)).toNat : Int))))), list[j].version))) 3 rfl
  refine ⟨_, E3.cell 6 rfl rfl, _, E3.cell 7 rfl rfl, _, E3.cell 7 rfl rfl, _, E3.cell 7 rfl rfl, set_any_string (E3.at 4 rfl) (by omega) fun t => ?_⟩
  have E4 := E3.put (o' := rowO_string (putAt l list[j].i (Utf8.encode (IntKind.wrap .i32 (IntKind.wrap .i64 ((97) + (IntKind.wrap .i64 ((BitVec.ofInt (IntKind.bits .i64) (list[j].value) &&& BitVec.ofInt (IntKind.bits .i64) (15)).toNat : Int))))), list[j].version))) 4 rfl
  exact Fin.of ⟨list.length - (j + 1), by omega, j + 1, _, by omega, hw, rfl, by rw [putAt_len]; exact hl, E4.take 7⟩
theorem CellApart_wp {a : Option Addr} {c : Nat} {list : List SetR} {si sx sv : Int} (hr : Reads B h a 3 SetR.cells list) (hQ : Q true h) : C_countermandlaw08_CellApart B n a list.length c si sx sv stop h Q := by
  refine C_countermandlaw08_CellApart.of ?_
  unfold S_countermandlaw08_CellApart
  intro k10 a10 b10 h11 e11 k12 a12 b12 h13 e13 k14 a14 b14 h15 e15
  have E := (((Keep.nil B h).made a10 b10 e11).made a12 b12 e13).made a14 b14 e15
  refine alive08_wp ⟨fun _ => ⟨fun _ => ret8 (E.pf 2 rfl rfl) E.le (E.zero 2 rfl) hQ, fun h1 => ⟨fun _ => ret8 (E.pf 2 rfl rfl) E.le (E.zero 2 rfl) hQ, fun h2 => Fin.of ?_⟩⟩, fun e => by cases e⟩
  exact CellApart_J1 (s := ⟨si, sx, sv⟩) E hr (by omega) (by omega) hQ
end
theorem CellApart_calls {H : Type} {enc : TypeId × Value → H} (W : World) (n : Int) (wn : (Lit.int .i64 n).wf = true) {a : Option Addr} {len cap : Nat} {d : DataW H} {p : List MemPlace} (k : DataW.Trod enc PG W 0 (fun _ => true) true TY.s_countermandref08_Set (.slice a len cap) d p)
    {cs : Array Value} {d' : DataW H} {p' : List MemPlace} (k' : DataW.Trod enc PG W 0 (fun _ => true) true TY.countermandref08_Set (.agg cs) d' p') (stop : Int) (wo : (Lit.int .i64 stop).wf = true) :
    Calls PG FN.countermandlaw08_CellApart #[.int .i64 n, .slice a len cap, .agg cs, .int .i64 stop] W fun e w' => e = .returned (.bool true) ∧ Below W.heap.size W w' := by
  obtain ⟨l, rfl, hr, hok⟩ := SetR_arg k
  obtain ⟨x, hx, _⟩ := SetR_key _ (arg_agg TK.set_kd k')
  obtain rfl : cs = #[.int .i64 x.i, .int .i64 x.value, .int .i64 x.version] := by rw [← Array.toList_inj, hx]; rfl
  refine Spec.calls (Spec.mono (CellApart_wp (Q := fun b _ => b = true) hr rfl) ?_)
  rintro v h' ⟨b, rfl, rfl⟩
  rfl
end Go.Proofs.Ythlnibaechobmaa.H
