/- The laws TomeReads and TomeReturns. No condition. -/
import Derived.Test.YtoajfmmomgpjcaaTh
namespace Go.Proofs.Ytoajfmmomgpjcaa.H
open Go Go.RowKit
set_option linter.unusedVariables false
set_option maxRecDepth 100000

def trL (kT kR k : Nat) (v : Value) (r : Option (Nat × AObj)) (z : FL) : List (Option (Nat × AObj)) := tomE kT kR v r ++ [some (k, afO z)]
theorem fit_files {z : FL} (h6 : z.length = 6) : fitL [Kd.bool, Kd.str, Kd.bool, Kd.str, Kd.bool, Kd.str, Kd.bool, Kd.str, Kd.bool, Kd.str, Kd.bool, Kd.str] (filesC z) := by
  match z, h6 with
  | [a, b, c, d, e, f], _ => exact ⟨⟨_, rfl⟩, ⟨_, rfl⟩, ⟨_, rfl⟩, ⟨_, rfl⟩, ⟨_, rfl⟩, ⟨_, rfl⟩, ⟨_, rfl⟩, ⟨_, rfl⟩, ⟨_, rfl⟩, ⟨_, rfl⟩, ⟨_, rfl⟩, ⟨_, rfl⟩, trivial⟩
theorem unver_setF {z w : FL} (h : unver z = unver w) (n : Int) (b : Bool) (s : ByteArray) (v v' : Int) : unver (setF z n b s v) = unver (setF w n b s v') := by
  have hl : z.length = w.length := by have := congrArg List.length h; simpa [unver] using this
  unfold setF
  rw [setB_len hl]
  split
  · unfold unver at h ⊢
    rw [List.map_set, List.map_set, h]
  · exact h
theorem filesC_unver (l : FL) : filesC (unver l) = filesC l := by unfold filesC unver; rw [List.flatMap_map]; rfl
theorem same_answer {z w z' w' : FL} (k1 : TomeOk z) (k2 : TomeOk w) (h1 : unver z = unver z') (h2 : unver w = unver w') : decide (decide (tomeB z = tomeB w) = decide (eqL (filesC z') (filesC w') = true)) = true := by
  rw [decide_eq_true_eq, decide_eq_decide, eqL_files, ← filesC_unver z', ← filesC_unver w', ← h1, ← h2, filesC_unver, filesC_unver]
  exact ⟨tomeB_inj k1 k2, tomeB_eq⟩
section
variable {B : RO} {h0 h h' : Heap} {L : List (Option (Nat × AObj))} {Q : Bool → Heap → Prop} {k52 kT kR k16 k18 : Nat} {v : Value} {r : Option (Nat × AObj)} {z : FL} {n : Int} {s : ByteArray} {last : Int}
theorem TomeReads_J2 (E : Keep B h0 (trL kT kR k52 v r z) h) (R : FRow r v z) (K : StR z last) (hQ : Q true h0) : S_countermandlaw10_TomeReads_J2 B (some ⟨kT, 0, none⟩) k52 h Q := by
  unfold S_countermandlaw10_TomeReads_J2
  have h6 := K.n6
  have hlc := filesC_len z
  refine ⟨filesC z, by omega, E.cellsP 3 rfl, ?_⟩
  refine ⟨fun i m h' => ∃ q : Nat, q ≤ 6 ∧ i = q ∧ m = 6 - q ∧ Keep B h0 (trL kT kR k52 v r z) h', 6, Fin.of ⟨0, by omega, rfl, by omega, E⟩, ?_⟩
  clear E
  rintro _ _ h208 ⟨q, hq, rfl, rfl, E⟩
  refine ⟨fun hlt2 => ?_, fun _ => Fin.ent E.back (Fin.of hQ)⟩
  have hq' : q < z.length := by omega
  have hwq : IntKind.wrap .i64 ((q : Int) + 1) = ((q + 1 : Nat) : Int) := by rw [w64 (by omega) (by omega)]; omega
  have hfa : fileAt z (q : Int) = z[q] := fileAt_in (by omega) (by simpa using hq')
  have hv0 := K.v0 z[q] (List.getElem_mem hq')
  have hx := List.getElem?_eq_getElem hq'
  generalize z[q] = x at hx hfa hv0
  refine ⟨by omega, by omega, x.1.1, x.1.2, extract_files z q x hx, fun k216 a216 b216 h217 e217 => ?_⟩
  have F1 := E.made a216 b216 e217
  refine ⟨_, stores_whole F1.last rfl (by simp) (by simp [isOne]) (by simp), ?_⟩
  have F2 := F1.putLast (.vec TY.countermandref09_File (plains [.bool x.1.1, .string x.1.2]) 2)
  refine tget_wp (i := 0) F2 ⟨rfl, rfl, rfl⟩ R fun h219 F3 => fun k223 a223 b223 h224 e224 => ?_
  have F4 := F3.made a223 b223 e224
  rw [hfa]
  refine ⟨_, stores_whole F4.last rfl (by simp) (by simp [isOne]) (by simp), ?_⟩
  have F5 := F4.putLast (.vec TY.file_File (plains [.bool x.1.1, .string x.1.2]) 2)
  exact ⟨_, _, ⟨cellH_vec F5.last rfl, cellH_vec F5.last rfl, trivial⟩, _, _, ⟨F5.cell 4 rfl rfl, F5.cell 4 rfl rfl, trivial⟩, fun _ => ⟨fun _ => Fin.of ⟨6 - (q + 1), by omega, q + 1, by omega, hwq, rfl, F5.take 4⟩, fun hn => absurd hv0 hn⟩, fun hn => absurd (eqL_file _ _) hn⟩
theorem TomeReads_wp (hQ : Q true h) : C_countermandlaw10_TomeReads B s h Q := by
  refine C_countermandlaw10_TomeReads.of ?_
  unfold S_countermandlaw10_TomeReads
  refine alive10_wp ⟨fun _ => ⟨fun _ => Fin.of hQ, fun hlen => ?_⟩, fun e => by cases e⟩
  refine tread_wp (Keep.nil B h) (fun hN h6 E => ⟨fun e => (by cases e), fun _ => ?_⟩) (fun z hS kT kR v r h6 R E => ⟨fun _ => ?_, fun e => by cases e⟩)
  · refine ref10_read_wp (by omega) (fun _ => ⟨fun e => (by cases e), fun _ => fun k12 a12 b12 h13 e13 => ?_⟩) (fun z hS => by rw [hN] at hS; cases hS)
    have E1 := E.made a12 b12 e13
    refine ⟨rfl, _, stores_whole (us := filesC zF) E1.last rfl (by decide) (filesC_one zF) (by simp [filesC, zF, List.replicate, fileC]), ?_⟩
    have E2 := E1.putLast (.vec TY.a_6_countermandref09_File (plains (filesC zF)) 12)
    exact Fin.ent E2.back (Fin.of hQ)
  · obtain ⟨hb, last, K⟩ := readG_ok hS
    have h6' := K.n6
    have hlc := filesC_len z
    refine ref10_read_wp (by omega) (fun hN => by rw [hN] at hS; cases hS) fun z' hS' => ?_
    have : z' = z := by rw [hS] at hS'; exact (Option.some.inj hS').symm
    subst this
    refine ⟨fun _ => fun k52 a52 b52 h53 e53 => ?_, fun e => by cases e⟩
    have E1 : Keep B h (tomE kT kR v r ++ [some (k52, afO zF)]) h53 := E.made a52 b52 e53
    refine ⟨by omega, _, stores_whole (us := filesC zF) E1.last (by rw [hlc, h6']; rfl) (by omega) (filesC_one z') (fun e => by rw [e] at hlc; simp at hlc; omega), ?_⟩
    have E2 : Keep B h (trL kT kR k52 v r z') _ := E1.putLast (afO z')
    have e3 : afO z' = .vec TY.a_6_countermandref09_File (plains (filesC z')) 12 := by rw [afO, List.append_nil]
    rw [e3] at E2
    refine tbytes_wp (i := 0) E2 ⟨rfl, rfl, rfl⟩ R K.ok fun h83 E3 => ⟨fun _ => Fin.of (TomeReads_J2 E3 R K hQ), fun hn => absurd ?_ hn⟩
    rw [hb, ba_bl]
/-- Two tomes and the document's. -/
def tuL (kA kA' kB kB' k16 k18 : Nat) (va vb : Value) (ra rb : Option (Nat × AObj)) (wa wb : FL) : List (Option (Nat × AObj)) := tomE kA kA' va ra ++ (tomE kB kB' vb rb ++ [some (k16, refO wa), some (k18, refO wb)])
variable {kA kA' kB kB' : Nat} {va vb : Value} {ra rb : Option (Nat × AObj)} {za zb wa wb : FL} {a a4 : Option Addr} {c c6 : Nat} {list list4 : List FSetR}
theorem TomeReturns_J3 (E : Keep B h0 (tuL kA kA' kB kB' k16 k18 va vb ra rb wa wb) h) (Ra : FRow ra va za) (Rb : FRow rb vb zb) (ka : TomeOk za) (kb : TomeOk zb) (ea : unver za = unver wa) (eb : unver zb = unver wb) (la : wa.length = 6) (lb : wb.length = 6) (hQ : Q true h0) : S_countermandlaw10_TomeReturns_J3 B (some ⟨kA, 0, none⟩) (some ⟨kB, 0, none⟩) k16 k18 h Q := by
  unfold S_countermandlaw10_TomeReturns_J3
  refine tbytes_wp (i := 0) E ⟨rfl, rfl, rfl⟩ Ra ka fun h24 E1 => ?_
  have hg := readG_tome ka
  refine tread_wp E1 (fun hN => by rw [bl_ba, hg] at hN; cases hN) fun z hS kT kR v r h26 R E2 => ?_
  rw [bl_ba] at hS
  obtain ⟨hb, last, K⟩ := readG_ok hS
  refine ⟨fun _ => ?_, fun e => by cases e⟩
  refine tsame_wp (i := 0) (i2 := 8) E2 ⟨rfl, rfl, rfl⟩ Ra ka ⟨rfl, rfl, rfl⟩ R K.ok fun h35 E3 => ⟨fun _ => ?_, fun e => absurd hb.symm (by simpa using e)⟩
  have lca := filesC_len wa
  have lcb := filesC_len wb
  have fa := fit_files la
  have fb := fit_files lb
  have ans := same_answer ka kb ea eb
  have c1 : ∀ {h' : Heap}, Keep B h0 (tuL kA kA' kB kB' k16 k18 va vb ra rb wa wb ++ tomE kT kR v r) h' → CellsAt B h' ⟨k16, 0, none⟩ 0 (filesC wa) := fun E => E.cellsP 6 rfl
  have c2 : ∀ {h' : Heap}, Keep B h0 (tuL kA kA' kB kB' k16 k18 va vb ra rb wa wb ++ tomE kT kR v r) h' → CellsAt B h' ⟨k18, 0, none⟩ 0 (filesC wb) := fun E => E.cellsP 7 rfl
  have ret : ∀ {h' : Heap}, Keep B h0 (tuL kA kA' kB kB' k16 k18 va vb ra rb wa wb ++ tomE kT kR v r) h' → Fin B h' (Q (decide (decide (tomeB za = tomeB zb) = decide (eqL (filesC wa) (filesC wb) = true)))) := fun E => Fin.ent E.back (Fin.of (by rw [ans]; exact hQ))
  have tw : ∀ {Q' : Bool → Heap → Prop}, (∀ h', Keep B h0 (tuL kA kA' kB kB' k16 k18 va vb ra rb wa wb ++ tomE kT kR v r) h' → Q' (decide (tomeB za = tomeB zb)) h') → C_tome_Same B (some ⟨kA, 0, none⟩) (some ⟨kB, 0, none⟩) h35 Q' := fun hq => tsame_wp (i := 0) (i2 := 3) E3 ⟨rfl, rfl, rfl⟩ Ra ka ⟨rfl, rfl, rfl⟩ Rb kb hq
  refine ⟨tw fun h' E' => ⟨⟨_, by omega, c1 E', _, by omega, c2 E', fa, fb, ret E'⟩, ⟨_, by omega, c2 E', _, by omega, c1 E', fa, fb, ret E'⟩⟩, ⟨_, by omega, c1 E3, tw fun h' E' => ⟨_, by omega, c2 E', fa, fb, ret E'⟩, ⟨_, by omega, c2 E3, fa, fb, tw fun h' E' => ret E'⟩⟩, ⟨_, by omega, c2 E3, tw fun h' E' => ⟨_, by omega, c1 E', fa, fb, ret E'⟩, ⟨_, by omega, c1 E3, fa, fb, tw fun h' E' => ret E'⟩⟩⟩
theorem TomeReturns_J2 (E : Keep B h0 (tuL kA kA' kB kB' k16 k18 va vb ra rb wa zF) h) (Ra : FRow ra va za) (Rb : FRow rb vb zF) (ka : TomeOk za) (ea : unver za = unver wa) (la : wa.length = 6) (hr : Reads B h0 a4 4 FSetR.cells list4) (hl : list4.length ≤ 40) (hQ : Q true h0) : S_countermandlaw10_TomeReturns_J2 B a4 list4.length c6 (some ⟨kA, 0, none⟩) (some ⟨kB, 0, none⟩) k16 k18 h Q := by
  unfold S_countermandlaw10_TomeReturns_J2
  refine ⟨fun i m h' => ∃ (j : Nat) (rb : Option (Nat × AObj)) (zb wb : FL), j ≤ list4.length ∧ i = j ∧ m = list4.length - j ∧ FRow rb vb zb ∧ TomeOk zb ∧ unver zb = unver wb ∧ wb.length = 6 ∧ Keep B h0 (tuL kA kA' kB kB' k16 k18 va vb ra rb wa wb) h', list4.length, Fin.of ⟨0, rb, zF, zF, by omega, rfl, by omega, Rb, TomeOk.zero, rfl, rfl, E⟩, ?_⟩
  clear E Rb
  rintro _ _ h58 ⟨j, rb, zb, wb, hj, rfl, rfl, Rb, kb, eb, lb, E⟩
  refine ⟨fun hlt => ?_, fun _ => Fin.of (TomeReturns_J3 E Ra Rb ka kb ea eb la lb hQ)⟩
  have hj' : j < list4.length := by omega
  have hw : IntKind.wrap .i64 ((j : Int) + 1) = ((j + 1 : Nat) : Int) := by rw [w64 (by omega) (by omega)]; omega
  obtain ⟨A, e1, e3, e4⟩ := (hr.over E.le E.nw) j list4[j] (List.getElem?_eq_getElem hj')
  refine ⟨A, e1, by omega, hlt, list4[j].i, list4[j].b, list4[j].s, list4[j].v, e4, fun k70 a70 b70 h71 e71 => ?_⟩
  have E1 := E.made a70 b70 e71
  refine ⟨_, stores_whole (E1.at 8 rfl) rfl (by simp) (by simp [isOne]) (by simp), ?_⟩
  have E2 := E1.put (o' := .vec TY.countermandlaw10_Set (plains list4[j].cells) 4) 8 rfl
  refine ⟨_, E2.cell 8 rfl rfl, _, _, ⟨E2.cell 8 rfl rfl, E2.cell 8 rfl rfl, trivial⟩, ?_⟩
  refine tset_wp (i := 3) E2 ⟨rfl, rfl, rfl⟩ Rb fun rb' h76 Rb' E3 => ?_
  have E3 : Keep B h0 (tuL kA kA' kB kB' k16 k18 va vb ra rb' wa wb ++ [some (k70, .vec TY.countermandlaw10_Set (plains list4[j].cells) 4)]) h76 := E3
  refine ⟨_, E3.cell 8 rfl rfl, _, _, ⟨E3.cell 8 rfl rfl, E3.cell 8 rfl rfl, trivial⟩, ?_⟩
  refine ref10_set_wp E3 (i := 7) rfl lb fun h81 E4 => ?_
  exact Fin.of ⟨list4.length - (j + 1), by omega, j + 1, rb', _, setF wb list4[j].i list4[j].b list4[j].s 0, by omega, hw, rfl, Rb', kb.set _ _ _ _, unver_setF eb _ _ _ _ _, by rw [setF_len]; exact lb, E4.take 8⟩
theorem TomeReturns_wp (hr : Reads B h a 4 FSetR.cells list) (hr4 : Reads B h a4 4 FSetR.cells list4) (hQ : Q true h) : C_countermandlaw10_TomeReturns B a list.length c a4 list4.length c6 h Q := by
  refine C_countermandlaw10_TomeReturns.of ?_
  unfold S_countermandlaw10_TomeReturns
  refine alive10_wp ⟨fun _ => great10_wp hr fun b hb => ⟨fun _ => Fin.of hQ, fun e => great10_wp hr4 fun b4 hb4 => ⟨fun _ => Fin.of hQ, fun e4 => Fin.of ?_⟩⟩, fun e => by cases e⟩
  have hl := (hb e).1
  have hl4 := (hb4 e4).1
  unfold S_countermandlaw10_TomeReturns_J1
  refine tnew_wp fun kA kA' va ra h12 Ra E1 => tnew_wp fun kB kB' vb rb h14 Rb E2 => ?_
  intro k16 a16 b16 h17 e17 k18 a18 b18 h19 e19
  have E3 : Keep B h (tuL kA kA' kB kB' k16 k18 va vb ra rb zF zF) h19 := ((E1.append E2).made a16 b16 e17).made a18 b18 e19
  refine ⟨fun i m h' => ∃ (j : Nat) (ra : Option (Nat × AObj)) (za wa : FL), j ≤ list.length ∧ i = j ∧ m = list.length - j ∧ FRow ra va za ∧ TomeOk za ∧ unver za = unver wa ∧ wa.length = 6 ∧ Keep B h (tuL kA kA' kB kB' k16 k18 va vb ra rb wa zF) h', list.length, Fin.of ⟨0, ra, zF, zF, by omega, rfl, by omega, Ra, TomeOk.zero, rfl, rfl, E3⟩, ?_⟩
  clear E3 E2 E1 e17 e19 Ra
  rintro _ _ h84 ⟨j, ra, za, wa, hj, rfl, rfl, Ra, ka, ea, la, E⟩
  refine ⟨fun hlt => ?_, fun _ => Fin.of (TomeReturns_J2 E Ra Rb ka ea la hr4 hl4 hQ)⟩
  have hj' : j < list.length := by omega
  have hw : IntKind.wrap .i64 ((j : Int) + 1) = ((j + 1 : Nat) : Int) := by rw [w64 (by omega) (by omega)]; omega
  obtain ⟨A, e1, e3, e4⟩ := (hr.over E.le E.nw) j list[j] (List.getElem?_eq_getElem hj')
  refine ⟨A, e1, by omega, hlt, list[j].i, list[j].b, list[j].s, list[j].v, e4, fun k70 a70 b70 h71 e71 => ?_⟩
  have E1 := E.made a70 b70 e71
  refine ⟨_, stores_whole (E1.at 8 rfl) rfl (by simp) (by simp [isOne]) (by simp), ?_⟩
  have E2 := E1.put (o' := .vec TY.countermandlaw10_Set (plains list[j].cells) 4) 8 rfl
  refine ⟨_, E2.cell 8 rfl rfl, _, _, ⟨E2.cell 8 rfl rfl, E2.cell 8 rfl rfl, trivial⟩, _, E2.cell 8 rfl rfl, ?_⟩
  refine tset_wp (i := 0) E2 ⟨rfl, rfl, rfl⟩ Ra fun ra' h76 Ra' E3 => ?_
  have E3 : Keep B h (tuL kA kA' kB kB' k16 k18 va vb ra' rb wa zF ++ [some (k70, .vec TY.countermandlaw10_Set (plains list[j].cells) 4)]) h76 := E3
  refine ⟨_, E3.cell 8 rfl rfl, _, _, ⟨E3.cell 8 rfl rfl, E3.cell 8 rfl rfl, trivial⟩, ?_⟩
  refine ref10_set_wp E3 (i := 6) rfl la fun h81 E4 => ?_
  exact Fin.of ⟨list.length - (j + 1), by omega, j + 1, ra', _, setF wa list[j].i list[j].b list[j].s 0, by omega, hw, rfl, Ra', ka.set _ _ _ _, unver_setF ea _ _ _ _ _, by rw [setF_len]; exact la, E4.take 8⟩
end
theorem TomeReads_calls (W : World) (s : ByteArray) (ws : s.size ≤ 140737488351232) :
    Calls PG FN.countermandlaw10_TomeReads #[.string s] W fun e w' => e = .returned (.bool true) ∧ Below W.heap.size W w' := by
  refine Spec.calls (Spec.mono (TomeReads_wp (Q := fun b _ => b = true) rfl) ?_)
  rintro v h' ⟨b, rfl, rfl⟩
  rfl
theorem TomeReturns_calls {H : Type} {enc : TypeId × Value → H} (W : World) {a : Option Addr} {len cap : Nat} {d : DataW H} {p : List MemPlace} (k : DataW.Trod enc PG W 0 (fun _ => true) true TY.s_countermandlaw10_Set (.slice a len cap) d p)
    {a' : Option Addr} {len' cap' : Nat} {d' : DataW H} {p' : List MemPlace} (k' : DataW.Trod enc PG W 0 (fun _ => true) true TY.s_countermandlaw10_Set (.slice a' len' cap') d' p') :
    Calls PG FN.countermandlaw10_TomeReturns #[.slice a len cap, .slice a' len' cap'] W fun e w' => e = .returned (.bool true) ∧ Below W.heap.size W w' := by
  obtain ⟨l, rfl, hr, hok⟩ := FSetR_arg k
  obtain ⟨l', rfl, hr', hok'⟩ := FSetR_arg k'
  refine Spec.calls (Spec.mono (TomeReturns_wp (Q := fun b _ => b = true) hr hr' rfl) ?_)
  rintro v h' ⟨b, rfl, rfl⟩
  rfl
end Go.Proofs.Ytoajfmmomgpjcaa.H
