/- The law TomeSets. No condition. -/
import Derived.Test.YtoajfmmomgpjcaaTe
namespace Go.Proofs.Ytoajfmmomgpjcaa.H
open Go Go.RowKit
set_option linter.unusedVariables false
set_option maxRecDepth 100000

theorem eqL_file (b : Bool) (s : ByteArray) : eqL [Value.bool b, Value.string s] [Value.bool b, Value.string s] = true := by
  have e : (s == s) = true := by cases s with | mk d => exact beq_self_eq_true d
  simp [eqL, leafEq, e]
theorem filesOf_at {l : FL} {i : Int} {b : Bool} {s : ByteArray} (h : (i, b, s) ∈ filesOf l) : ∃ (q : Nat) (v : Int), i = q ∧ b = true ∧ l[q]? = some ((true, s), v) := by
  obtain ⟨h1, h2⟩ := List.mem_filter.1 h
  obtain ⟨q, hq⟩ := List.getElem?_of_mem h1
  rw [allF_get] at hq
  obtain ⟨⟨⟨b', s'⟩, v⟩, hy, e⟩ := Option.map_eq_some_iff.1 hq
  simp only [Prod.mk.injEq] at e
  obtain ⟨rfl, rfl, rfl⟩ := e
  have hb : b' = true := h2
  subst hb
  exact ⟨q, v, rfl, rfl, hy⟩
theorem allF_sorted (l : FL) : (allF l).Pairwise fun x y => x.1 < y.1 := by
  rw [List.pairwise_iff_getElem]
  intro i j hi hj hij
  have e1 := allF_get l i
  have e2 := allF_get l j
  rw [allF_len] at hi hj
  rw [List.getElem?_eq_getElem (by rw [allF_len]; exact hi), List.getElem?_eq_getElem hi] at e1
  rw [List.getElem?_eq_getElem (by rw [allF_len]; exact hj), List.getElem?_eq_getElem hj] at e2
  rw [Option.some.inj e1, Option.some.inj e2]
  simp only; omega
theorem filesOf_sorted (l : FL) : (filesOf l).Pairwise fun x y => x.1 < y.1 := (allF_sorted l).sublist List.filter_sublist
theorem sorted_step {l : FL} {q : Nat} {x : Int × Bool × ByteArray} (h : (filesOf l)[q]? = some x) : ∀ y ∈ (filesOf l).drop (q + 1), x.1 < y.1 := fun y hy => by
  obtain ⟨hq, rfl⟩ := List.getElem?_eq_some_iff.1 h
  have hp : ((filesOf l).drop q).Pairwise fun x y => x.1 < y.1 := (filesOf_sorted l).sublist (List.drop_sublist _ _)
  rw [List.drop_eq_getElem_cons hq, List.pairwise_cons] at hp
  exact hp.1 y hy
def tsL (k6 kT kR k16 k18 : Nat) (v : Value) (r : Option (Nat × AObj)) (l : FL) : List (Option (Nat × AObj)) :=
  [some (k6, .vec TY.bool (plains [.bool false]) 1), some (kT, tomO kR), some (kR, frO v), r, some (k16, refO l), some (k18, .vec TY.p_countermandref10_Tome (plains [.pointer (some ⟨k16, 0, none⟩)]) 1)]

section
variable {B : RO} {h0 h h' : Heap} {a : Option Addr} {c : Nat} {list : List FSetR} {Q : Bool → Heap → Prop} {k6 kT kR k16 k18 k32 : Nat} {v : Value} {r : Option (Nat × AObj)} {l : FL} {n : Int}
theorem retB {k8 : Nat} {w : Bool} {u : Value} (p8 : PF h k8 0 u) (le : Le h0 h) (z : h0 k8 = none) (hQ : Q w h0) :
    ∃ h', storeH h ⟨k8, 0, none⟩ (Value.bool w) = some h' ∧ ∃ b : Bool, cellH B h' ⟨k8, 0, none⟩ = some (Value.bool b) ∧ Fin B h' (Q b) := by
  obtain ⟨t, fs, n, hb, hi⟩ := p8
  have hl := (List.getElem?_eq_some_iff.1 hi).1
  exact ⟨_, storeH_vec hb hi, w, cellH_vec (Heap.set_same _ _ _) (by simp [hl]), Fin.ent (Ent.forget (le.set z)) (Fin.of hQ)⟩
theorem TomeSets_J4 (E : Keep B h0 (tsL k6 kT kR k16 k18 v r l ++ [some (k32, .vec TY.file_File (plains [.bool false, .string ByteArray.empty]) 2)]) h) (R : FRow r v l) (k : TomeOk l) (hQ : Q true h0) : S_countermandlaw10_TomeSets_J4 B k6 (some ⟨kT, 0, none⟩) k18 k32 0 h Q := by
  unfold S_countermandlaw10_TomeSets_J4
  have hl := filesC_len l
  have h6 := k.n6
  refine ⟨_, E.cell 5 rfl rfl, _, rfl, filesC l, by omega, E.cellsP 4 rfl, tbytes_wp (i := 1) E ⟨rfl, rfl, rfl⟩ R k fun h53 E1 => ⟨E1.cell 5 rfl rfl, E1.cellsP 4 rfl, ref10_bytes_wp k ⟨E1.cell 5 rfl rfl, E1.cellsP 4 rfl, fun _ => ⟨_, E1.cell 6 rfl rfl, fun e => (by cases e), fun _ => ⟨fun _ => ?_, fun hn => absurd rfl hn⟩⟩, fun hn => absurd rfl hn⟩⟩⟩
  refine tset_nil ⟨fun e => (by cases e), fun _ => ⟨E1.cell 5 rfl rfl, E1.cellsP 4 rfl, tbytes_nil ⟨E1.cell 5 rfl rfl, E1.cellsP 4 rfl, retB (E1.pf 0 rfl rfl) E1.le (E1.zero 0 rfl) ?_⟩⟩⟩
  simp only [decide_true]; exact hQ
theorem TomeSets_J3 {x : Bool} {y : ByteArray} (E : Keep B h0 (tsL k6 kT kR k16 k18 v r l ++ [some (k32, .vec TY.file_File (plains [.bool x, .string y]) 2)]) h) (R : FRow r v l) (k : TomeOk l) (hQ : Q true h0) : S_countermandlaw10_TomeSets_J3 B k6 (some ⟨kT, 0, none⟩) k18 k32 h Q := by
  unfold S_countermandlaw10_TomeSets_J3
  refine tget_nil ⟨_, stores_whole (E.at 6 rfl) rfl (by simp) (by simp [isOne]) (by simp), ?_⟩
  have E1 := E.put (o' := .vec TY.file_File (plains [.bool false, .string ByteArray.empty]) 2) 6 rfl
  refine tall_wp fun kc ac bc => ?_
  have E2 := E1.new (o := .vec TY.p_tome_Tome [.plain (.pointer none)] 1) ac bc
  refine ⟨[], tN kc, fun q h' => Keep B h0 (tsL k6 kT kR k16 k18 v r l ++ [some (k32, .vec TY.file_File (plains [.bool false, .string ByteArray.empty]) 2)] ++ [some (kc, .vec TY.p_tome_Tome [.plain (.pointer none)] 1)]) h', tall_nil, tN_ins, fun q h' E => (show h' kc = _ from E.last), Fin.of E2, fun q h' i b s hq => by simp at hq, fun h14 E => Fin.of (TomeSets_J4 E.pop R k hQ)⟩
theorem TomeSets_J2 (E : Keep B h0 (tsL k6 kT kR k16 k18 v r l) h) (R : FRow r v l) (k : TomeOk l) (hQ : Q true h0) : S_countermandlaw10_TomeSets_J2 B n k6 (some ⟨kT, 0, none⟩) k18 h Q := by
  unfold S_countermandlaw10_TomeSets_J2
  refine tget_wp (i := 1) E ⟨rfl, rfl, rfl⟩ R fun h28 E1 => fun k32 a32 b32 h33 e33 => ?_
  have E2 := E1.made a32 b32 e33
  refine ⟨_, stores_whole E2.last rfl (by simp) (by simp [isOne]) (by simp), ?_⟩
  have E3 := E2.putLast (.vec TY.file_File (plains [.bool (fileAt l n).1.1, .string (fileAt l n).1.2]) 2)
  have h6 := k.n6
  have hJ := TomeSets_J3 E3 R k hQ
  have out : ¬ (0 ≤ n ∧ n < (l.length : Int)) → ∃ b97 : Bool, ∃ s98 : ByteArray, CellsAt B (h33.set k32 (.vec TY.file_File (plains [.bool (fileAt l n).1.1, .string (fileAt l n).1.2]) 2)) ⟨k32, 0, none⟩ 0 [(Value.bool b97), (Value.string s98)] ∧ b97 = false ∧ s98 = ByteArray.empty ∧ (fileAt l n).2 = 0 := fun hn => by
    rw [fileAt_out hn] at E3 ⊢
    exact ⟨_, _, ⟨cellH_vec E3.last rfl, cellH_vec E3.last rfl, trivial⟩, rfl, rfl, rfl⟩
  refine ⟨fun h1 => ?_, fun h1 => ⟨fun h2 => ?_, fun h2 => Fin.of hJ⟩⟩
  · obtain ⟨b97, s98, hc, rfl, rfl, e⟩ := out (by omega)
    exact ⟨_, _, hc, fun _ => ⟨fun _ => Fin.of hJ, fun hn => absurd e hn⟩, fun hn => absurd (eqL_file _ _) hn⟩
  · obtain ⟨b97, s98, hc, rfl, rfl, e⟩ := out (by omega)
    exact ⟨_, _, hc, fun _ => ⟨fun _ => Fin.of hJ, fun hn => absurd e hn⟩, fun hn => absurd (eqL_file _ _) hn⟩
theorem TomeSets_J1 (E : Keep B h0 (tsL k6 kT kR k16 k18 v r l) h) (R : FRow r v l) (k : TomeOk l) (hQ : Q true h0) : S_countermandlaw10_TomeSets_J1 B n k6 (some ⟨kT, 0, none⟩) k18 h Q := by
  unfold S_countermandlaw10_TomeSets_J1
  intro k23 a23 b23 h24 e24
  have E1 := E.made a23 b23 e24
  obtain ⟨e2, E2⟩ := E1.store 6 0 (.int .i64 (-1)) rfl rfl
  refine ⟨_, e2, tall_wp fun kc ac bc => ?_⟩
  have E3 := E2.new (o := .vec TY.p_tome_Tome [.plain (.pointer (some ⟨kT, 0, none⟩))] 1) ac bc
  have h6 := k.n6
  refine ⟨filesOf l, tG kc kT kR v r, fun q h' => ∃ last : Int, (∀ x ∈ (filesOf l).drop q, last < x.1) ∧ Keep B h0 (tsL k6 kT kR k16 k18 v r l ++ [some (k23, .vec TY.int (plains [.int .i64 last]) 1)] ++ [some (kc, .vec TY.p_tome_Tome [.plain (.pointer (some ⟨kT, 0, none⟩))] 1)]) h', tall_iter (B := B) R (by omega), tG_ins, ?_, Fin.of ⟨-1, fun x hx => ?_, E3⟩, ?_, ?_⟩
  · rintro q h' ⟨last, _, E⟩
    exact ⟨E.last, E.at 1 rfl, E.at 2 rfl, fun k o e => E.at 3 (by rw [← e]; rfl)⟩
  · obtain ⟨y, hy, e1, e2, e3⟩ := filesOf_mem (List.mem_of_mem_drop hx)
    omega
  · rintro q h120 i116 b117 s118 hg ⟨last, hlast, E⟩
    have hm := List.mem_of_getElem? hg
    have hgt : last < i116 := hlast (i116, b117, s118) (by
      obtain ⟨hq, e⟩ := List.getElem?_eq_some_iff.1 hg
      rw [List.drop_eq_getElem_cons hq, e]; simp)
    obtain ⟨p, ver, rfl, rfl, hx⟩ := filesOf_at hm
    have hp := (List.getElem?_eq_some_iff.1 hx).1
    intro k124 a124 b124 h125 e125
    have F1 := E.made a124 b124 e125
    refine ⟨_, stores_whole F1.last rfl (by simp) (by simp [isOne]) (by simp), ?_⟩
    have F2 := F1.putLast (.vec TY.file_File (plains [.bool true, .string s118]) 2)
    refine ⟨_, F2.cell 6 rfl rfl, fun hle => absurd hgt (by omega), fun _ => ⟨_, cellH_vec F2.last rfl, fun _ => ?_, fun e => by cases e⟩⟩
    refine ⟨_, _, ⟨cellH_vec F2.last rfl, cellH_vec F2.last rfl, trivial⟩, _, F2.cell 5 rfl rfl, _, rfl, by omega, by omega, _, _, F2.fileAt 4 rfl p _ hx, fun _ => ?_, fun hn => absurd (eqL_file _ _) hn⟩
    obtain ⟨e3, F3⟩ := F2.store 6 0 (.int .i64 (p : Int)) rfl rfl
    exact ⟨_, e3, Fin.of ⟨p, sorted_step hg, F3.take 8⟩⟩
  · rintro h120 ⟨last, _, E⟩
    exact Fin.of (TomeSets_J2 (E.take 6) R k hQ)
theorem TomeSets_wp (hr : Reads B h a 4 FSetR.cells list) (hQ : Q true h) : C_countermandlaw10_TomeSets B a list.length c n h Q := by
  refine C_countermandlaw10_TomeSets.of ?_
  unfold S_countermandlaw10_TomeSets
  intro k6 a6 b6 h7 e7
  have E0 := (Keep.nil B h).made a6 b6 e7
  refine alive10_wp ⟨fun _ => great10_wp (hr.over E0.le E0.nw) fun b hb => ⟨fun _ => retB (E0.pf 0 rfl rfl) E0.le (E0.zero 0 rfl) hQ, fun e => ?_⟩, fun e => by cases e⟩
  have hlen := (hb e).1
  refine tnew_wp fun kT kR v r h14 R E1 => ?_
  intro k16 a16 b16 h17 e17 k18 a18 b18 h19 e19
  have E2 := ((E0.append E1).made a16 b16 e17).made a18 b18 e19
  obtain ⟨e3, E3⟩ := E2.store 5 0 (.pointer (some ⟨k16, 0, none⟩)) rfl rfl
  refine ⟨_, e3, ?_⟩
  refine ⟨fun i m h' => ∃ (j : Nat) (r : Option (Nat × AObj)), j ≤ list.length ∧ i = j ∧ m = list.length - j ∧ FRow r v ((list.take j).foldl apF zF) ∧ Keep B h (tsL k6 kT kR k16 k18 v r ((list.take j).foldl apF zF)) h', list.length, Fin.of ⟨0, r, by omega, rfl, by omega, R, E3⟩, ?_⟩
  clear E3 e3 E2 E1 E0 e19 e17 e7 R
  rintro _ _ h146 ⟨j, r, hj, rfl, rfl, R, E⟩
  refine ⟨fun hlt => ?_, fun _ => Fin.of ?_⟩
  · have hj' : j < list.length := by omega
    have hw : IntKind.wrap .i64 ((j : Int) + 1) = ((j + 1 : Nat) : Int) := by rw [w64 (by omega) (by omega)]; omega
    have hft := fold_take (z := zF) j list[j] (List.getElem?_eq_getElem hj')
    have hok : TomeOk ((list.take j).foldl apF zF) := TomeOk.zero.foldl _
    have hok' : TomeOk ((list.take (j + 1)).foldl apF zF) := TomeOk.zero.foldl _
    rw [← hft] at hok'
    generalize (list.take j).foldl apF zF = l at R E hft hok hok'
    obtain ⟨A, e1, e3, e4⟩ := (hr.over E.le E.nw) j list[j] (List.getElem?_eq_getElem hj')
    refine ⟨A, e1, by omega, hlt, list[j].i, list[j].b, list[j].s, list[j].v, e4, fun k158 a158 b158 h159 e159 => ?_⟩
    have E1 := E.made a158 b158 e159
    refine ⟨_, stores_whole (E1.at 6 rfl) rfl (by simp) (by simp [isOne]) (by simp), ?_⟩
    have E2 := E1.put (o' := .vec TY.countermandlaw10_Set (plains list[j].cells) 4) 6 rfl
    refine ⟨_, E2.cell 6 rfl rfl, _, _, ⟨E2.cell 6 rfl rfl, E2.cell 6 rfl rfl, trivial⟩, _, E2.cell 6 rfl rfl, _, E2.cell 5 rfl rfl, _, E2.cell 6 rfl rfl, _, _, ⟨E2.cell 6 rfl rfl, E2.cell 6 rfl rfl, trivial⟩, _, E2.cell 6 rfl rfl, ?_⟩
    refine tset_wp (i := 1) E2 ⟨rfl, rfl, rfl⟩ R fun r' h184 R' E3 => ?_
    have E3 : Keep B h (tsL k6 kT kR k16 k18 v r' l ++ [some (k158, .vec TY.countermandlaw10_Set (plains list[j].cells) 4)]) h184 := E3
    refine ⟨E3.cell 6 rfl rfl, ⟨E3.cell 6 rfl rfl, E3.cell 6 rfl rfl, trivial⟩, E3.cell 6 rfl rfl, E3.cell 5 rfl rfl, E3.cell 6 rfl rfl, ⟨E3.cell 6 rfl rfl, E3.cell 6 rfl rfl, trivial⟩, E3.cell 6 rfl rfl, ?_⟩
    refine ref10_set_wp E3 (i := 4) rfl hok.n6 fun h193 E4 => ?_
    have E4 : Keep B h (tsL k6 kT kR k16 k18 v r' (apF l list[j]) ++ [some (k158, .vec TY.countermandlaw10_Set (plains list[j].cells) 4)]) h193 := E4
    refine ⟨E4.cell 6 rfl rfl, ⟨E4.cell 6 rfl rfl, E4.cell 6 rfl rfl, trivial⟩, E4.cell 6 rfl rfl, E4.cell 5 rfl rfl, E4.cell 6 rfl rfl, ⟨E4.cell 6 rfl rfl, E4.cell 6 rfl rfl, trivial⟩, E4.cell 6 rfl rfl, fun _ => ?_, fun hn => absurd rfl hn⟩
    have R' : FRow r' v (apF l list[j]) := R'
    generalize apF l list[j] = l' at hok' hft R' E4
    have hlc := filesC_len l'
    have h6 := hok'.n6
    refine ⟨_, E4.cell 5 rfl rfl, _, rfl, filesC l', by omega, E4.cellsP 4 rfl, ?_⟩
    refine ⟨fun i m h' => ∃ q : Nat, q ≤ 6 ∧ i = q ∧ m = 6 - q ∧ Keep B h (tsL k6 kT kR k16 k18 v r' l') h', 6, Fin.of ⟨0, by omega, rfl, by omega, E4.take 6⟩, ?_⟩
    rintro _ _ h208 ⟨q, hq, rfl, rfl, E⟩
    refine ⟨fun hlt2 => ?_, fun _ => Fin.of ⟨list.length - (j + 1), by omega, j + 1, r', by omega, hw, rfl, by rw [← hft]; exact R', by rw [← hft]; exact E⟩⟩
    have hq' : q < l'.length := by omega
    have hwq : IntKind.wrap .i64 ((q : Int) + 1) = ((q + 1 : Nat) : Int) := by rw [w64 (by omega) (by omega)]; omega
    have hfa : fileAt l' (q : Int) = l'[q] := fileAt_in (by omega) (by simpa using hq')
    have hx := List.getElem?_eq_getElem hq'
    generalize l'[q] = x at hx hfa
    refine ⟨by omega, by omega, x.1.1, x.1.2, extract_files l' q x hx, fun k216 a216 b216 h217 e217 => ?_⟩
    have F1 := E.made a216 b216 e217
    refine ⟨_, stores_whole F1.last rfl (by simp) (by simp [isOne]) (by simp), ?_⟩
    have F2 := F1.putLast (.vec TY.countermandref09_File (plains [.bool x.1.1, .string x.1.2]) 2)
    refine tget_wp (i := 1) F2 ⟨rfl, rfl, rfl⟩ R' fun h219 F3 => fun k223 a223 b223 h224 e224 => ?_
    have F4 := F3.made a223 b223 e224
    rw [hfa]
    refine ⟨_, stores_whole F4.last rfl (by simp) (by simp [isOne]) (by simp), ?_⟩
    have F5 := F4.putLast (.vec TY.file_File (plains [.bool x.1.1, .string x.1.2]) 2)
    refine ⟨_, _, ⟨cellH_vec F5.last rfl, cellH_vec F5.last rfl, trivial⟩, _, _, ⟨F5.cell 6 rfl rfl, F5.cell 6 rfl rfl, trivial⟩, fun _ => ?_, fun hn => absurd (eqL_file _ _) hn⟩
    exact ⟨_, F5.cell 5 rfl rfl, _, rfl, by omega, by omega, _, F5.verAt 4 rfl h6 q x hx, fun _ => Fin.of ⟨6 - (q + 1), by omega, q + 1, by omega, hwq, rfl, F5.take 6⟩, fun hn => absurd rfl hn⟩
  · have : j = list.length := by omega
    subst this
    exact TomeSets_J1 E R (TomeOk.zero.foldl _) hQ
end
theorem TomeSets_calls {H : Type} {enc : TypeId × Value → H} (W : World) {a : Option Addr} {len cap : Nat} {d : DataW H} {p : List MemPlace} (k : DataW.Trod enc PG W 0 (fun _ => true) true TY.s_countermandlaw10_Set (.slice a len cap) d p) (n : Int) (wn : (Lit.int .i64 n).wf = true) :
    Calls PG FN.countermandlaw10_TomeSets #[.slice a len cap, .int .i64 n] W fun e w' => e = .returned (.bool true) ∧ Below W.heap.size W w' := by
  obtain ⟨l, rfl, hr, hok⟩ := FSetR_arg k
  refine Spec.calls (Spec.mono (TomeSets_wp (Q := fun b _ => b = true) hr rfl) ?_)
  rintro v h' ⟨b, rfl, rfl⟩
  rfl
end Go.Proofs.Ytoajfmmomgpjcaa.H
