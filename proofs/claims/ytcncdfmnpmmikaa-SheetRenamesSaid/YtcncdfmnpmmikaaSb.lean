/- Sheets: Rename, Create; build, alive; SheetRenames. No condition. -/
import Derived.Test.YtcncdfmnpmmikaaSa
import Derived.Test.YtcncdfmnpmmikaaHk
import Derived.Test.YtcncdfmnpmmikaaHl
import Derived.Test.YtcncdfmnpmmikaaXhT
namespace Go.Proofs.Ytcncdfmnpmmikaa.H
open Go Go.RowKit
set_option linter.unusedVariables false
set_option maxRecDepth 100000

theorem TK.files_kd : leafB PG 6 TY.a_6_file_File = some [.bool, .str, .bool, .str, .bool, .str, .bool, .str, .bool, .str, .bool, .str] := by kernel_rfl
theorem Files_arg {H : Type} {enc : TypeId × Value → H} {w : World} {base : Nat} {spare : Nat → Bool} {held : Bool} {cs : Array Value} {d : DataW H} {p : List MemPlace} (h : DataW.Trod enc PG w base spare held TY.a_6_file_File (.agg cs) d p) :
    ∃ z : FL, z.length = 6 ∧ (∀ q x, z[q]? = some x → x.2 = ((q : Nat) : Int)) ∧ cs = (filesC z).toArray := by
  have hk := arg_agg TK.files_kd h
  obtain ⟨b1, v1, e1, g1⟩ := hk.bool
  obtain ⟨s1, w1, rfl, _, k1⟩ := g1.str
  obtain ⟨b2, v2, rfl, g2⟩ := k1.bool
  obtain ⟨s2, w2, rfl, _, k2⟩ := g2.str
  obtain ⟨b3, v3, rfl, g3⟩ := k2.bool
  obtain ⟨s3, w3, rfl, _, k3⟩ := g3.str
  obtain ⟨b4, v4, rfl, g4⟩ := k3.bool
  obtain ⟨s4, w4, rfl, _, k4⟩ := g4.str
  obtain ⟨b5, v5, rfl, g5⟩ := k4.bool
  obtain ⟨s5, w5, rfl, _, k5⟩ := g5.str
  obtain ⟨b6, v6, rfl, g6⟩ := k5.bool
  obtain ⟨s6, w6, rfl, _, k6⟩ := g6.str
  obtain rfl := k6.nil
  refine ⟨[((b1, s1), 0), ((b2, s2), 1), ((b3, s3), 2), ((b4, s4), 3), ((b5, s5), 4), ((b6, s6), 5)], rfl, fun q x hx => ?_, ?_⟩
  · match q, hx with
    | 0, hx => cases hx; rfl
    | 1, hx => cases hx; rfl
    | 2, hx => cases hx; rfl
    | 3, hx => cases hx; rfl
    | 4, hx => cases hx; rfl
    | 5, hx => cases hx; rfl
    | q + 6, hx => simp at hx
  · rw [← Array.toList_inj, e1]; rfl
theorem cur_set {α : Type} (z w : List α) (hl : z.length = w.length) {j : Nat} {x : α} (h : z[j]? = some x) : (z.take j ++ w.drop j).set j x = z.take (j + 1) ++ w.drop (j + 1) := by
  obtain ⟨hj, rfl⟩ := List.getElem?_eq_some_iff.1 h
  have h1 : (z.take j).length = j := by rw [List.length_take]; omega
  rw [List.set_append_right _ _ (by omega), h1, Nat.sub_self, List.drop_eq_getElem_cons (by omega : j < w.length), List.set_cons_zero, List.take_succ_eq_append_getElem hj, List.append_assoc]; rfl
section
variable {B : RO} {h0 h h' : Heap} {L : List (Option (Nat × AObj))} {r rd : Option (Nat × AObj)} {v vd : Value} {l z : FL} {d : DFL} {n : Int} {x : ShI} {f : FileS} {from' to : Int}
theorem blk_cells {k n : Nat} {t : TypeId} {cs : List Value} (g : h k = some (.vec t (plains cs) n)) : CellsAt B h ⟨k, 0, none⟩ 0 cs :=
  CellsAt.of_vec _ 0 g fun j y hj => by rw [plains_get, Nat.zero_add, hj]; rfl
theorem srename_wp {Q : Bool → Heap → Prop} (E : Keep B h0 (L ++ x.m vd rd) h) (R : FRow x.rt x.vt l) (Rd : DRow_file_File rd vd d) (s : SortD d) (hd : d.length ≤ 900) (h1 : 0 ≤ from' ∧ from' < 6) (h2 : 0 ≤ to ∧ to < 6) (hne : from' ≠ to) (his : (getS l d from').1.1 = true)
    (hQ : ∀ vd' rd' h', DRow_file_File rd' vd' (putS l (putS l d to (getS l d from').1) from' (false, ByteArray.empty)) → Keep B h0 (L ++ x.m vd' rd') h' → Q true h') : C_sheet_Sheet_Rename B (some ⟨x.ks, 0, none⟩) (some ⟨x.kT, 0, none⟩) from' to h Q := by
  refine C_sheet_Sheet_Rename.of ?_
  unfold S_sheet_Sheet_Rename
  refine sget_wp E R Rd s (by omega) fun h6 E1 => ?_
  intro k10 a10 b10 h11 e11
  have E2 := E1.nM a10 b10 e11
  refine ⟨_, stores_whole (E2.gM 6 rfl) rfl (by simp) (by simp [isOne]) (by simp), fun e => (by cases e), fun _ => ⟨fun hn => by omega, fun _ => ⟨fun hn => by omega, fun _ => ⟨fun hn => by omega, fun _ => ⟨fun hn => by omega, fun _ => Fin.of ?_⟩⟩⟩⟩⟩
  have E3 := E2.pM (o' := fO (getS l d from').1) 6 rfl
  unfold S_sheet_Sheet_Rename_J2
  refine ⟨fun e => (by cases e), fun _ => ⟨_, E3.cM 6 rfl (i := 0) rfl, fun _ => ⟨fun e => absurd e hne, fun _ => Fin.of ?_⟩, fun hb => by rw [his] at hb; cases hb⟩⟩
  unfold S_sheet_Sheet_Rename_J1
  refine ⟨_, _, ⟨E3.cM 6 rfl (i := 0) rfl, E3.cM 6 rfl (i := 1) rfl, trivial⟩, ?_⟩
  have E4 := E3.tM 6
  refine sput_wp (f := (getS l d from').1) E4 R Rd s (by omega) h2 fun v1 r1 h17 R1 E5 => ?_
  have hl1 := putS_len l d to (getS l d from').1
  exact sput_wp (f := (false, ByteArray.empty)) E5 R R1 (putS_sort s _ _) (by omega) h1 fun v2 r2 h19 R2 E6 => Fin.of (hQ v2 r2 _ R2 E6)
theorem make_wp {b : Bool} {s : ByteArray} {Q : Bool → ByteArray → Heap → Prop} (hQ : ∀ h', Wk B h h' → Q true s h') : C_file_Make B b s h Q := by
  refine C_file_Make.of ?_
  unfold S_file_Make
  intro k5 a5 b5 h6 e6 k7 a7 b7 h8 e8
  have E := ((Keep.nil B h).made a5 b5 e6).made a7 b7 e8
  refine ⟨_, E.cell 0 rfl rfl, _, stores_whole E.last rfl (by simp) (by simp [isOne]) (by simp), ?_⟩
  have E1 := E.putLast (fO (true, s))
  exact ⟨_, _, ⟨cellH_vec E1.last rfl, cellH_vec E1.last rfl, trivial⟩, Fin.of (hQ _ E1.w)⟩
theorem screate_wp {Q : Bool → Heap → Prop} (E : Keep B h0 (L ++ x.m vd rd) h) (R : FRow x.rt x.vt l) (Rd : DRow_file_File rd vd d) (s : SortD d) (hd : d.length ≤ 900) (h1 : 0 ≤ n ∧ n < 6)
    (hQ : ∀ vd' rd' h', DRow_file_File rd' vd' (putS l d n (true, (getS l d n).1.2)) → Keep B h0 (L ++ x.m vd' rd') h' → Q true h') : C_sheet_Sheet_Create B (some ⟨x.ks, 0, none⟩) (some ⟨x.kT, 0, none⟩) n h Q := by
  refine C_sheet_Sheet_Create.of ?_
  unfold S_sheet_Sheet_Create
  refine sget_wp E R Rd s (by omega) fun h5 E1 => ?_
  intro k9 a9 b9 h10 e10
  have E2 := E1.nM a9 b9 e10
  refine ⟨_, stores_whole (E2.gM 6 rfl) rfl (by simp) (by simp [isOne]) (by simp), ?_⟩
  have E3 := E2.pM (o' := fO (getS l d n).1) 6 rfl
  refine ⟨_, _, ⟨E3.cM 6 rfl (i := 0) rfl, E3.cM 6 rfl (i := 1) rfl, trivial⟩, make_wp fun h14 w => ?_⟩
  have E4 := (E3.wk w).tM 6
  exact sput_wp (f := (true, (getS l d n).1.2)) E4 R Rd s (by omega) h1 fun v1 r1 h17 R1 E5 => Fin.of (hQ v1 r1 _ R1 E5)
theorem snew_wp {Q : Option Addr → Heap → Prop} (hQ : ∀ ks kf h', Keep B h [some (ks, shtO kf), some (kf, drO_file_File (.slice none 0 0)), none] h' → Q (some ⟨ks, 0, none⟩) h') : C_sheet_New B h Q := by
  refine C_sheet_New.of ?_
  unfold S_sheet_New
  intro k2 a2 b2 h3 e3 k4 a4 b4 h5 e5
  have E := ((Keep.nil B h).made a2 b2 e3).made a4 b4 e5
  exact Fin.of (hQ k4 k2 h5 (E.gap.picks [1, 0, 2] (by decide)))
theorem is14_wp {Q : Bool → Heap → Prop} (hQ : Q (decide (0 ≤ n ∧ n ≤ 5)) h) : C_countermandref14_Is B n h Q := by
  refine C_countermandref14_Is.of ?_
  unfold S_countermandref14_Is
  refine ⟨fun h1 => Fin.of ?_, fun h1 => Fin.of ?_⟩
  · have : decide (0 ≤ n ∧ n ≤ 5) = decide (n ≤ 5) := by simp; omega
    rw [this] at hQ; exact hQ
  · rw [decide_eq_false (by omega)] at hQ; exact hQ
theorem alive14_wp {Q : Bool → Heap → Prop} (hQ : ∀ h', Keep B h [] h' → Q true h') : C_countermandlaw14_alive B h Q := by
  refine C_countermandlaw14_alive.of ?_
  unfold S_countermandlaw14_alive
  refine snew_wp fun ks kf h2 E1 => tnew_wp fun kT kR v r h4 R E2 => ?_
  let x : ShI := ⟨kT, kR, v, r, ks, kf⟩
  have E3 : Keep B h ([] ++ x.m (.slice none 0 0) none) h4 := (E1.append E2).picks [3, 4, 5, 0, 1, 2] (by decide)
  have hR : FRow x.rt x.vt zF := R
  have hz : ∀ m : Int, getS zF [] m = ((fileAt zF m).1, false) := fun m => getS_none rfl
  have hz0 : ∀ m : Int, (fileAt zF m).1 = (false, ByteArray.empty) := fun m => by
    unfold fileAt
    split
    · cases hq : zF[m.toNat]? with
      | none => rfl
      | some y =>
        have := List.mem_of_getElem? hq
        rw [zF, List.mem_replicate] at this
        rw [this.2]; rfl
    · rfl
  refine screate_wp (x := x) (d := ([] : DFL)) E3 hR (Row.nil _ _) List.Pairwise.nil (by simp) (by omega) fun v1 r1 h35 R1 E4 => ⟨fun _ => ?_, fun e => by cases e⟩
  have d1 : putS zF [] 1 (true, (getS zF [] 1).1.2) = insD [] 1 (true, ByteArray.empty) := by
    rw [hz, hz0]; unfold putS; rw [if_neg (by rw [hz, hz0]; simp)]
  rw [d1] at R1
  have g1 : ∀ m, getS zF (insD [] 1 (true, ByteArray.empty)) m = if m = 1 then ((true, ByteArray.empty), true) else ((false, ByteArray.empty), false) := fun m => by
    rw [getS_ins, hz, hz0]
  refine srename_wp (x := x) E4 hR R1 (SortD.ins List.Pairwise.nil) (by have := insD_len (l := ([] : DFL)) (i := 1) (v := (true, ByteArray.empty)); simp at this ⊢; omega) (by omega) (by omega) (by omega) (by rw [g1]; rfl) fun v2 r2 h37 R2 E5 => ⟨fun _ => Fin.of ?_, fun e => by cases e⟩
  rw [g1, if_pos rfl] at R2
  have d2 : putS zF (insD [] 1 (true, ByteArray.empty)) 2 (true, ByteArray.empty) = insD (insD [] 1 (true, ByteArray.empty)) 2 (true, ByteArray.empty) := by
    unfold putS; rw [if_neg (by rw [g1, if_neg (by omega)]; simp)]
  rw [d2] at R2
  have d3 : putS zF (insD (insD [] 1 (true, ByteArray.empty)) 2 (true, ByteArray.empty)) 1 (false, ByteArray.empty) = insD (insD (insD [] 1 (true, ByteArray.empty)) 2 (true, ByteArray.empty)) 1 (false, ByteArray.empty) := by
    unfold putS; rw [if_neg (by rw [getS_ins, if_neg (by omega), g1, if_pos rfl]; simp)]
  rw [d3] at R2
  have s2 : SortD (insD (insD (insD ([] : DFL) 1 (true, ByteArray.empty)) 2 (true, ByteArray.empty)) 1 (false, ByteArray.empty)) := SortD.ins (SortD.ins (SortD.ins List.Pairwise.nil))
  have l2 : (insD (insD (insD ([] : DFL) 1 (true, ByteArray.empty)) 2 (true, ByteArray.empty)) 1 (false, ByteArray.empty)).length ≤ 1000 := by
    have a1 := insD_len (l := ([] : DFL)) (i := 1) (v := (true, ByteArray.empty))
    have a2 := insD_len (l := insD ([] : DFL) 1 (true, ByteArray.empty)) (i := 2) (v := (true, ByteArray.empty))
    have a3 := insD_len (l := insD (insD ([] : DFL) 1 (true, ByteArray.empty)) 2 (true, ByteArray.empty)) (i := 1) (v := (false, ByteArray.empty))
    simp only [List.length_nil] at a1
    omega
  have g2 : getS zF (insD (insD (insD [] 1 (true, ByteArray.empty)) 2 (true, ByteArray.empty)) 1 (false, ByteArray.empty)) 2 = ((true, ByteArray.empty), true) := by
    rw [getS_ins, if_neg (by omega), getS_ins, if_pos rfl]
  have g3 : getS zF (insD (insD (insD [] 1 (true, ByteArray.empty)) 2 (true, ByteArray.empty)) 1 (false, ByteArray.empty)) 1 = ((false, ByteArray.empty), true) := by
    rw [getS_ins, if_pos rfl]
  unfold S_countermandlaw14_alive_J1
  refine sget_wp (x := x) E5 hR R2 s2 l2 fun h8 E6 => ?_
  rw [g2]
  refine ⟨fun _ k23 a23 b23 h24 e24 => ?_, fun e => by cases e⟩
  have E7 := E6.made a23 b23 e24
  refine ⟨_, stores_whole E7.last rfl (by simp) (by simp [isOne]) (by simp), ?_⟩
  have E8 := E7.putLast (fO (true, ByteArray.empty))
  have E9 : Keep B h ([some (k23, fO (true, ByteArray.empty))] ++ x.m v2 r2) _ := E8.picks [6, 0, 1, 2, 3, 4, 5] (by decide)
  refine sget_wp (x := x) E9 hR R2 s2 l2 fun h26 E10 => ?_
  rw [g3]
  intro k30 a30 b30 h31 e31
  have E11 := E10.made a30 b30 e31
  refine ⟨_, stores_whole E11.last rfl (by simp) (by simp [isOne]) (by simp), ?_⟩
  have E12 := E11.putLast (fO (false, ByteArray.empty))
  exact ⟨_, E12.cell 0 rfl rfl, fun _ => ⟨_, cellH_vec E12.last rfl, Fin.of (hQ _ (E12.take 0))⟩, fun e => by cases e⟩
theorem build_wp {Q : Option Addr → Option Addr → Option Addr → Bool → Heap → Prop} (E : Keep B h0 L h) (h6 : z.length = 6) (hv : ∀ q x, z[q]? = some x → x.2 = ((q : Nat) : Int)) (hN : ∀ h', Keep B h0 L h' → Q none none none false h')
    (hS : ∀ (x : ShI) p h', (∀ y ∈ z, goodF y.1.1 y.1.2 = true) → FRow x.rt x.vt z → Keep B h0 (L ++ x.m (.slice none 0 0) none) h' → Q (some ⟨x.kT, 0, none⟩) (some ⟨x.ks, 0, none⟩) p true h') : C_countermandlaw14_build B (filesC z) h Q := by
  refine C_countermandlaw14_build.of ?_
  unfold S_countermandlaw14_build
  have hzl := filesC_len z
  intro k6 a6 b6 h7 e7
  have E1 := E.start.nM a6 b6 e7
  refine tnew_wp fun kT kR v r h8 R E2 => ?_
  have E3 := E1.append E2
  rw [List.append_assoc] at E3
  intro k10 a10 b10 h11 e11
  have E4 := E3.nM a10 b10 e11
  refine ⟨filesC z, by omega, blk_cells (E4.gM 0 rfl), ?_⟩
  refine ⟨fun ix m h' => ∃ (j : Nat) (r : Option (Nat × AObj)) (us : List Value), j ≤ 6 ∧ ix = j ∧ m = 6 - j ∧ us.length = 30 ∧ (∀ y ∈ z.take j, goodF y.1.1 y.1.2 = true) ∧ FRow r v (z.take j ++ zF.drop j) ∧ Keep B h0 (L ++ [some (kT, tomO kR), some (kR, frO v), r, some (k10, .vec TY.countermandref14_Sheet (plains us) 30)]) h', 6, Fin.of ⟨0, r, _, by omega, rfl, by omega, ?_, fun y hy => (by simp at hy), R, E4.sM [1, 2, 3, 4] (by decide)⟩, ?_⟩
  · rfl
  clear E1 E2 E3 E4 e7 e11 R
  rintro _ _ h18 ⟨j, r, us, hj, rfl, rfl, hus, hgd, R, E⟩
  have hcl : (z.take j ++ zF.drop j).length = 6 := by
    rw [List.length_append, List.length_take, List.length_drop, h6]; show min j 6 + (6 - j) = 6; omega
  refine ⟨fun hlt => ?_, fun hge => Fin.of ?_⟩
  · have hj' : j < z.length := by omega
    have hw : IntKind.wrap .i64 ((j : Int) + 1) = ((j + 1 : Nat) : Int) := by rw [w64 (by omega) (by omega)]; omega
    have hx := List.getElem?_eq_getElem hj'
    have hv0 := hv j _ hx
    generalize z[j] = y at hx hv0
    obtain ⟨⟨fb, fs⟩, fv⟩ := y
    simp only at hv0
    subst hv0
    refine ⟨by omega, by omega, fb, fs, by rw [Int.toNat_natCast]; exact extract_files z j _ hx, fun k26 a26 b26 h27 e27 => ?_⟩
    have E1 := E.nM a26 b26 e27
    refine ⟨_, stores_whole (E1.gM 4 rfl) rfl (by simp) (by simp [isOne]) (by simp), ?_⟩
    have E2 := E1.pM (o' := fO (fb, fs)) 4 rfl
    refine ⟨fb, fs, ⟨E2.cM 4 rfl (i := 0) rfl, E2.cM 4 rfl (i := 1) rfl, trivial⟩, ?_⟩
    refine tset_wp (i := L.length) E2 ⟨upM 0 rfl, ⟨upM 1 rfl, upM 2 rfl⟩⟩ R fun r' h31 R' E3 => ⟨fun hb => ?_, fun hb => ?_⟩
    · rw [setF, if_pos hb, Int.toNat_natCast, cur_set z zF (by rw [h6]; rfl) hx] at R'
      rw [setM] at E3
      refine ⟨fb, fs, ⟨E3.cM 4 rfl (i := 0) rfl, E3.cM 4 rfl (i := 1) rfl, trivial⟩, by omega, by omega, ?_⟩
      have hsp : us = us.take (j * 2) ++ us.drop (j * 2) := (List.take_append_drop _ _).symm
      have l1 : (us.take (j * 2)).length = j * 2 := by rw [List.length_take]; omega
      obtain ⟨h35, st, E4⟩ := E3.vM 3 (k := k10) (nn := 30) (t := TY.countermandref14_Sheet) (fs := us.take (j * 2)) (gs := us.drop (j * 2)) (by rw [← hsp]; rfl) [.bool fb, .string fs] (by simp [isOne]) (j * 2) l1 (by simp; omega)
      have l2 : (us.take (j * 2) ++ [Value.bool fb, Value.string fs] ++ (us.drop (j * 2)).drop [Value.bool fb, Value.string fs].length).length = 30 := by
        simp only [List.length_append, List.length_drop, List.length_cons, List.length_nil, l1]; omega
      have c1 : CellsAt B h35 ⟨k10, j * 2, none⟩ 0 [.bool fb, .string fs] := E4.cellsV (L.length + 3) (upM 3 rfl) (j * 2) l1
      generalize us.take (j * 2) ++ [Value.bool fb, Value.string fs] ++ (us.drop (j * 2)).drop [Value.bool fb, Value.string fs].length = us2 at E4 l2
      have hsp2 : us2 = us2.take (12 + j * 2) ++ us2.drop (12 + j * 2) := (List.take_append_drop _ _).symm
      have l3 : (us2.take (12 + j * 2)).length = 12 + j * 2 := by rw [List.length_take]; omega
      obtain ⟨h38, st2, E5⟩ := E4.vM 3 (k := k10) (nn := 30) (t := TY.countermandref14_Sheet) (fs := us2.take (12 + j * 2)) (gs := us2.drop (12 + j * 2)) (by rw [← hsp2]; rfl) [.bool fb, .string fs] (by simp [isOne]) (12 + j * 2) l3 (by simp; omega)
      rw [Int.toNat_natCast, addr_more, addr_more, Nat.zero_add]
      refine ⟨h35, st, by omega, by omega, fb, fs, c1, by omega, by omega, h38, st2, Fin.of ⟨6 - (j + 1), by omega, j + 1, r', _, by omega, hw, rfl, ?_, fun y hy => ?_, R', E5.tM 4⟩⟩
      rotate_left
      · rw [List.take_succ_eq_append_getElem hj', List.mem_append, List.mem_singleton] at hy
        rcases hy with hy | rfl
        · exact hgd y hy
        · have hz : z[j] = ((fb, fs), ((j : Nat) : Int)) := by rw [List.getElem?_eq_getElem hj'] at hx; exact Option.some.inj hx
          rw [hz]
          unfold setB at hb
          rw [Bool.and_eq_true] at hb
          exact hb.1
      simp only [List.length_append, List.length_drop, List.length_cons, List.length_nil, l3]; omega
    · rw [setM] at E3
      exact Fin.of (hN _ E3.zM)
  · have : j = 6 := by omega
    subst this
    have e1 : z.take 6 ++ zF.drop 6 = z := by rw [← h6, List.take_length, List.drop_of_length_le (by rw [h6]; exact Nat.le_refl 6), List.append_nil]
    rw [e1] at R
    have hgd : ∀ y ∈ z, goodF y.1.1 y.1.2 = true := fun y hy => hgd y (by rw [← h6, List.take_length]; exact hy)
    unfold S_countermandlaw14_build_J1
    refine snew_wp fun ks kf h14 E1 => Fin.of (hS ⟨kT, kR, v, r, ks, kf⟩ _ h14 hgd R ?_)
    have E2 := E.append E1
    rw [List.append_assoc] at E2
    exact E2.sM [0, 1, 2, 4, 5, 6] (by decide)
def afB (z : FL) : AObj := .vec TY.a_6_file_File (plains (filesC z ++ [])) 12
theorem getS_nil (m : Int) : getS l ([] : DFL) m = ((fileAt l m).1, false) := getS_none rfl
theorem Renames_J4 {k5 : Nat} {Q : Bool → Heap → Prop} (E : Keep B h0 ([some (k5, afB z)] ++ x.m vd rd) h) (R : FRow x.rt x.vt z) (Rd : DRow_file_File rd vd d) (s : SortD d) (hd : d.length ≤ 100) (h6 : z.length = 6) (h1 : 0 ≤ to ∧ to < 6) (h2 : 0 ≤ from' ∧ from' < 6) (hne : to ≠ from') (his : (getS z d to).1.1 = true)
    (hall : ∀ (q : Nat) (y : FileS × Int), z[q]? = some y → (getS z (putS z (putS z d from' (getS z d to).1) to (false, ByteArray.empty)) q).1 = y.1) (hQ : Q true h0) :
    S_countermandlaw14_SheetRenames_J4 B from' to k5 (some ⟨x.kT, 0, none⟩) (some ⟨x.ks, 0, none⟩) h Q := by
  unfold S_countermandlaw14_SheetRenames_J4
  refine srename_wp E R Rd s (by omega) h1 h2 hne his fun v2 r2 h82 R2 E1 => ?_
  have l1 := putS_len z d from' (getS z d to).1
  have l2 := putS_len z (putS z d from' (getS z d to).1) to (false, ByteArray.empty)
  have s2 : SortD (putS z (putS z d from' (getS z d to).1) to (false, ByteArray.empty)) := putS_sort (putS_sort s _ _) _ _
  generalize putS z (putS z d from' (getS z d to).1) to (false, ByteArray.empty) = d2 at hall R2 l2 s2
  refine ⟨fun ix m h' => ∃ j : Nat, j ≤ 6 ∧ ix = j ∧ m = 6 - j ∧ Keep B h0 ([some (k5, afB z)] ++ x.m v2 r2) h', 6, Fin.of ⟨0, by omega, rfl, by omega, E1⟩, ?_⟩
  clear E E1
  rintro _ _ h85 ⟨j, hj, rfl, rfl, E⟩
  refine ⟨fun hlt => ?_, fun hge => Fin.ent E.back (Fin.of hQ)⟩
  have hj' : j < z.length := by omega
  have hw : IntKind.wrap .i64 ((j : Int) + 1) = ((j + 1 : Nat) : Int) := by rw [w64 (by omega) (by omega)]; omega
  have hx := List.getElem?_eq_getElem hj'
  have hg := hall j _ hx
  generalize z[j] = y at hx hg
  refine sget_wp E R R2 s2 (by omega) fun h91 E1 => ?_
  intro k95 a95 b95 h96 e96
  have E2 := E1.nM a95 b95 e96
  refine ⟨_, stores_whole (E2.gM 6 rfl) rfl (by simp) (by simp [isOne]) (by simp), ?_⟩
  have E3 := E2.pM (o' := fO (getS z d2 j).1) 6 rfl
  refine ⟨_, _, ⟨E3.cM 6 rfl (i := 0) rfl, E3.cM 6 rfl (i := 1) rfl, trivial⟩, by omega, by omega, y.1.1, y.1.2, by rw [Int.toNat_natCast]; exact E3.fileAt 0 (zs := []) rfl j y hx, fun _ => Fin.of ⟨6 - (j + 1), by omega, j + 1, by omega, hw, rfl, E3.tM 6⟩, fun hn => absurd ?_ hn⟩
  rw [hg]
  exact eqL_refl _ _
theorem Renames_J3 {k5 : Nat} {p q : Nat} {Q : Bool → Heap → Prop} (E : Keep B h0 ([some (k5, afB z)] ++ x.m (.slice none 0 0) none) h) (R : FRow x.rt x.vt z) (h6 : z.length = 6) (hp : p < 6) (hq : q < 6) (hne : (p : Int) ≠ (q : Int)) {fp fq : FileS × Int} (zp : z[p]? = some fp) (zq : z[q]? = some fq) (hisp : fp.1.1 = true) (hq0 : fq.1 = (false, ByteArray.empty)) (hQ : Q true h0) :
    S_countermandlaw14_SheetRenames_J3 B p q k5 (some ⟨x.kT, 0, none⟩) (some ⟨x.ks, 0, none⟩) h Q := by
  unfold S_countermandlaw14_SheetRenames_J3
  have fat : ∀ (m : Nat) (y : FileS × Int), z[m]? = some y → (fileAt z m).1 = y.1 := fun m y hy => by
    obtain ⟨hm, rfl⟩ := List.getElem?_eq_some_iff.1 hy
    rw [fileAt_in (by omega) (by rw [Int.toNat_natCast]; exact hm)]; simp
  have g0 : ∀ m : Int, getS z ([] : DFL) m = ((fileAt z m).1, false) := fun m => getS_nil m
  refine srename_wp (d := ([] : DFL)) E R (Row.nil _ _) List.Pairwise.nil (by simp) (by omega) (by omega) hne (by rw [g0, fat p fp zp]; exact hisp) fun v1 r1 h64 R1 E1 => ?_
  rw [g0, fat p fp zp] at R1
  have gg : ∀ m : Int, (getS z (putS z (putS z ([] : DFL) q fp.1) p (false, ByteArray.empty)) m).1 = if m = p then (false, ByteArray.empty) else if m = q then fp.1 else (fileAt z m).1 := fun m => by
    rw [getS_put, getS_put, g0]
  have l1 := putS_len z ([] : DFL) q fp.1
  have l2 := putS_len z (putS z ([] : DFL) q fp.1) p (false, ByteArray.empty)
  have s1 : SortD (putS z (putS z ([] : DFL) q fp.1) p (false, ByteArray.empty)) := putS_sort (putS_sort List.Pairwise.nil _ _) _ _
  generalize putS z (putS z ([] : DFL) q fp.1) p (false, ByteArray.empty) = d1 at gg R1 l2 s1
  simp only [List.length_nil] at l1
  have gq : (getS z d1 q).1 = fp.1 := by rw [gg, if_neg (fun e => hne e.symm), if_pos rfl]
  have gp : (getS z d1 p).1 = (false, ByteArray.empty) := by rw [gg, if_pos rfl]
  refine sget_wp E1 R R1 s1 (by omega) fun h66 E2 => ?_
  intro k70 a70 b70 h71 e71
  have E3 := E2.nM a70 b70 e71
  refine ⟨_, stores_whole (E3.gM 6 rfl) rfl (by simp) (by simp [isOne]) (by simp), ?_⟩
  have E4 := E3.pM (o' := fO (getS z d1 q).1) 6 rfl
  have E5 : Keep B h0 ([some (k5, afB z), some (k70, fO (getS z d1 q).1)] ++ x.m v1 r1) _ := E4.picks [0, 7, 1, 2, 3, 4, 5, 6] (by decide)
  refine sget_wp E5 R R1 s1 (by omega) fun h73 E6 => ?_
  intro k77 a77 b77 h78 e78
  have E7 := E6.nM a77 b77 e78
  refine ⟨_, stores_whole (E7.gM 6 rfl) rfl (by simp) (by simp [isOne]) (by simp), ?_⟩
  have E8 := E7.pM (o' := fO (getS z d1 p).1) 6 rfl
  refine ⟨_, _, ⟨E8.cell 1 rfl (j := 0) rfl, E8.cell 1 rfl (j := 1) rfl, trivial⟩, by omega, by omega, fp.1.1, fp.1.2, by rw [Int.toNat_natCast]; exact E8.fileAt 0 (zs := []) rfl p fp zp, fun _ => ⟨_, E8.cM 6 rfl (i := 0) rfl, fun hb => (by rw [gp] at hb; cases hb), fun _ => Fin.of ?_⟩, fun hn => absurd (by rw [gq]; exact eqL_refl _ _) hn⟩
  refine Renames_J4 (E8.picks [0, 2, 3, 4, 5, 6, 7] (by decide)) R R1 s1 (by omega) h6 (by omega) (by omega) (fun e => hne e.symm) (by rw [gq]; exact hisp) (fun m y hy => ?_) hQ
  rw [getS_put, getS_put, gq, gg]
  by_cases e1 : ((m : Nat) : Int) = q
  · rw [if_pos e1]
    have : m = q := by omega
    subst this
    rw [zq] at hy; cases hy; exact hq0.symm
  · rw [if_neg e1]
    by_cases e2 : ((m : Nat) : Int) = p
    · rw [if_pos e2]
      have : m = p := by omega
      subst this
      rw [zp] at hy; cases hy; rfl
    · rw [if_neg e2, if_neg e2, if_neg e1, fat m y hy]
theorem SheetRenames_wp {i2 i3 : Int} {Q : Bool → Heap → Prop} (h6 : z.length = 6) (hv : ∀ q x, z[q]? = some x → x.2 = ((q : Nat) : Int)) (hQ : Q true h) : C_countermandlaw14_SheetRenames B (filesC z) i2 i3 h Q := by
  refine C_countermandlaw14_SheetRenames.of ?_
  unfold S_countermandlaw14_SheetRenames
  intro k5 a5 b5 h6' e6
  have hzl := filesC_len z
  have E0 : Keep B h [some (k5, afB z)] h6' := by
    have := (Keep.nil B h).made a5 b5 e6
    rw [show (filesC z).length = 12 by omega] at this
    unfold afB; rw [List.append_nil]; exact this
  refine alive14_wp fun h7 E1 => ⟨fun _ => ?_, fun e => by cases e⟩
  have E2 : Keep B h [some (k5, afB z)] h7 := E0.append E1
  refine ⟨filesC z, by omega, E2.cellsP (zs := []) 0 rfl, ?_⟩
  refine build_wp E2 h6 hv (fun h10 E3 => ⟨fun e => (by cases e), fun _ => Fin.ent E3.back (Fin.of hQ)⟩) fun x p h10 hgd R E3 => ⟨fun _ => ?_, fun e => by cases e⟩
  have done : ∀ {h1 : Heap}, h1 = h10 → Fin B h1 (Q true) := fun e => by subst e; exact Fin.ent E3.back (Fin.of hQ)
  refine is14_wp ⟨fun hi2 => is14_wp ⟨fun hi3 => ⟨fun _ => done rfl, fun hne => ?_⟩, fun _ => done rfl⟩, fun _ => done rfl⟩
  have hi2 := of_decide_eq_true hi2
  have hi3 := of_decide_eq_true hi3
  obtain ⟨pn, rfl⟩ := Int.eq_ofNat_of_zero_le hi2.1
  obtain ⟨qn, rfl⟩ := Int.eq_ofNat_of_zero_le hi3.1
  have hp : pn < z.length := by omega
  have hq : qn < z.length := by omega
  have zp := List.getElem?_eq_getElem hp
  have zq := List.getElem?_eq_getElem hq
  have hgq := hgd _ (List.getElem_mem hq)
  generalize z[pn] = fp at zp
  generalize z[qn] = fq at zq hgq
  have cp := E3.fileAt 0 (zs := []) rfl pn fp zp
  have cq := E3.fileAt 0 (zs := []) rfl qn fq zq
  refine ⟨by omega, by omega, fp.1.1, by rw [Int.toNat_natCast]; exact cp.1, fun hb => ⟨by omega, by omega, fq.1.1, by rw [Int.toNat_natCast]; exact cq.1, fun _ => done rfl, fun hb2 => Fin.of ?_⟩, fun _ => done rfl⟩
  refine Renames_J3 E3 R h6 (by omega) (by omega) hne zp zq hb ?_ hQ
  obtain ⟨⟨b, s⟩, w⟩ := fq
  simp only at hb2 hgq ⊢
  subst hb2
  unfold goodF at hgq
  simp at hgq
  rw [hgq.2]; rfl
end
theorem SheetRenames_calls {H : Type} {enc : TypeId × Value → H} (W : World) {cs : Array Value} {d' : DataW H} {p' : List MemPlace} (k' : DataW.Trod enc PG W 0 (fun _ => true) true TY.a_6_file_File (.agg cs) d' p') (n : Int) (wn : (Lit.int .i64 n).wf = true) (m : Int) (wm : (Lit.int .i64 m).wf = true) :
    Calls PG FN.countermandlaw14_SheetRenames #[.agg cs, .int .i64 n, .int .i64 m] W fun e w' => e = .returned (.bool true) ∧ Below W.heap.size W w' := by
  obtain ⟨z, h6, hv, rfl⟩ := Files_arg k'
  refine Spec.calls (Spec.mono (SheetRenames_wp (Q := fun b _ => b = true) h6 hv rfl) ?_)
  rintro v h' ⟨b, rfl, rfl⟩
  rfl
end Go.Proofs.Ytcncdfmnpmmikaa.H
