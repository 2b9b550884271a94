/- Sheets: Rename, Create; build, alive; SheetRenames. No condition. -/
import Derived.Test.YtcncdfmnpmmikaaSa
import Derived.Test.YtcncdfmnpmmikaaHk
import Derived.Test.YtcncdfmnpmmikaaHl
import Derived.Test.YtcncdfmnpmmikaaXmT
namespace Go.Proofs.Ytcncdfmnpmmikaa.H
open Go Go.RowKit
set_option linter.unusedVariables false
set_option maxRecDepth 100000

theorem TK.files_kd : leafB PG 6 TY.a_6_file_File = some [.bool, .str, .bool, .str, .bool, .str, .bool, .str, .bool, .str, .bool, .str] := by kernel_rfl
theorem Files_arg {H : Type} {enc : TypeId × Value → H} {w : World} {base : Nat} {spare : Nat → Bool} {held : Bool} {cs : Array Value} {d : DataW H} {p : List MemPlace} (h : DataW.Trod enc PG w base spare held TY.a_6_file_File (.agg cs) d p) :
    ∃ z : FL, z.length = 6 ∧ (∀ q x, z[q]? = some x → x.2 = ((q : Nat) : Int)) ∧ cs = (filesC z).toArray := by
  have hk := arg_agg TK.files_kd h
  obtain ⟨b1, v1, e1, g1⟩ := hk.bool
  obtain ⟨s1, w1, rfl, _, k1⟩ := g1.str
  obtain ⟨b2, v2, rfl, g2⟩ := k1.bool
  obtain ⟨s2, w2, rfl, _, k2⟩ := g2.str
  obtain ⟨b3, v3, rfl, g3⟩ := k2.bool
  obtain ⟨s3, w3, rfl, _, k3⟩ := g3.str
  obtain ⟨b4, v4, rfl, g4⟩ := k3.bool
  obtain ⟨s4, w4, rfl, _, k4⟩ := g4.str
  obtain ⟨b5, v5, rfl, g5⟩ := k4.bool
  obtain ⟨s5, w5, rfl, _, k5⟩ := g5.str
  obtain ⟨b6, v6, rfl, g6⟩ := k5.bool
  obtain ⟨s6, w6, rfl, _, k6⟩ := g6.str
  obtain rfl := k6.nil
  refine ⟨[((b1, s1), 0), ((b2, s2), 1), ((b3, s3), 2), ((b4, s4), 3), ((b5, s5), 4), ((b6, s6), 5)], rfl, fun q x hx => ?_, ?_⟩
  · match q, hx with
    | 0, hx => cases hx; rfl
    | 1, hx => cases hx; rfl
    | 2, hx => cases hx; rfl
    | 3, hx => cases hx; rfl
    | 4, hx => cases hx; rfl
    | 5, hx => cases hx; rfl
    | q + 6, hx => simp at hx
  · rw [← Array.toList_inj, e1]; rfl
theorem cur_set {α : Type} (z w : List α) (hl : z.length = w.length) {j : Nat} {x : α} (h : z[j]? = some x) : (z.take j ++ w.drop j).set j x = z.take (j + 1) ++ w.drop (j + 1) := by
  obtain ⟨hj, rfl⟩ := List.getElem?_eq_some_iff.1 h
  have h1 : (z.take j).length = j := by rw [List.length_take]; omega
  rw [List.set_append_right _ _ (by omega), h1, Nat.sub_self, List.drop_eq_getElem_cons (by omega : j < w.length), List.set_cons_zero, List.take_succ_eq_append_getElem hj, List.append_assoc]; rfl
section
variable {B : RO} {h0 h h' : Heap} {L : List (Option (Nat × AObj))} {r rd : Option (Nat × AObj)} {v vd : Value} {l z : FL} {d : DFL} {n : Int} {x : ShI} {f : FileS} {from' to : Int}
theorem blk_cells {k n : Nat} {t : TypeId} {cs : List Value} (g : h k = some (.vec t (plains cs) n)) : CellsAt B h ⟨k, 0, none⟩ 0 cs :=
  CellsAt.of_vec _ 0 g fun j y hj => by rw [plains_get, Nat.zero_add, hj]; rfl
theorem make_wp {b : Bool} {s : ByteArray} {Q : Bool → ByteArray → Heap → Prop} (hQ : ∀ h', Wk B h h' → Q true s h') : C_file_Make B b s h Q := by
  refine C_file_Make.of ?_
  unfold S_file_Make
  intro k5 a5 b5 h6 e6 k7 a7 b7 h8 e8
  have E := ((Keep.nil B h).made a5 b5 e6).made a7 b7 e8
  refine ⟨_, E.cell 0 rfl rfl, _, stores_whole E.last rfl (by simp) (by simp [isOne]) (by simp), ?_⟩
  have E1 := E.putLast (fO (true, s))
  exact ⟨_, _, ⟨cellH_vec E1.last rfl, cellH_vec E1.last rfl, trivial⟩, Fin.of (hQ _ E1.w)⟩
theorem screate_wp {Q : Bool → Heap → Prop} (E : Keep B h0 (L ++ x.m vd rd) h) (R : FRow x.rt x.vt l) (Rd : DRow_file_File rd vd d) (s : SortD d) (hd : d.length ≤ 900) (h1 : 0 ≤ n ∧ n < 6)
    (hQ : ∀ vd' rd' h', DRow_file_File rd' vd' (putS l d n (true, (getS l d n).1.2)) → Keep B h0 (L ++ x.m vd' rd') h' → Q true h') : C_sheet_Sheet_Create B (some ⟨x.ks, 0, none⟩) (some ⟨x.kT, 0, none⟩) n h Q := by
  refine C_sheet_Sheet_Create.of ?_
  unfold S_sheet_Sheet_Create
  refine sget_wp E R Rd s (by omega) fun h5 E1 => ?_
  intro k9 a9 b9 h10 e10
  have E2 := E1.nM a9 b9 e10
  refine ⟨_, stores_whole (E2.gM 6 rfl) rfl (by simp) (by simp [isOne]) (by simp), ?_⟩
  have E3 := E2.pM (o' := fO (getS l d n).1) 6 rfl
  refine ⟨_, _, ⟨E3.cM 6 rfl (i := 0) rfl, E3.cM 6 rfl (i := 1) rfl, trivial⟩, make_wp fun h14 w => ?_⟩
  have E4 := (E3.wk w).tM 6
  exact sput_wp (f := (true, (getS l d n).1.2)) E4 R Rd s (by omega) h1 fun v1 r1 h17 R1 E5 => Fin.of (hQ v1 r1 _ R1 E5)
theorem snew_wp {Q : Option Addr → Heap → Prop} (hQ : ∀ ks kf h', Keep B h [some (ks, shtO kf), some (kf, drO_file_File (.slice none 0 0)), none] h' → Q (some ⟨ks, 0, none⟩) h') : C_sheet_New B h Q := by
  refine C_sheet_New.of ?_
  unfold S_sheet_New
  intro k2 a2 b2 h3 e3 k4 a4 b4 h5 e5
  have E := ((Keep.nil B h).made a2 b2 e3).made a4 b4 e5
  exact Fin.of (hQ k4 k2 h5 (E.gap.picks [1, 0, 2] (by decide)))
def afB (z : FL) : AObj := .vec TY.a_6_file_File (plains (filesC z ++ [])) 12
theorem getS_nil (m : Int) : getS l ([] : DFL) m = ((fileAt l m).1, false) := getS_none rfl
end
end Go.Proofs.Ytcncdfmnpmmikaa.H
