/- Sheets: Get, put, Rename, Create: contracts. No condition. -/
import Derived.Test.YtcncdfmnpmmikaaRa
import Derived.Test.YtcncdfmnpmmikaaTe
import Derived.Test.YtcncdfmnpmmikaaHy
import Derived.Test.YtcncdfmnpmmikaaXmT
namespace Go.Proofs.Ytcncdfmnpmmikaa.H
open Go Go.RowKit
set_option linter.unusedVariables false
set_option maxRecDepth 100000

theorem Addr.add2 (A : Addr) (m n : Nat) : (A.add m).add n = A.add (m + n) := by
  unfold Addr.add
  by_cases hm : m = 0
  · subst hm; simp
  · by_cases hn : n = 0
    · subst hn; simp
    · simp [hm, hn, Nat.add_assoc]
theorem eqL_refl (b : Bool) (s : ByteArray) : eqL [Value.bool b, Value.string s] [Value.bool b, Value.string s] = true := by
  have e : (s == s) = true := by cases s with | mk d => exact beq_self_eq_true d
  simp [eqL, leafEq, e]
theorem eqL_file_eq {b b' : Bool} {s s' : ByteArray} (h : eqL [Value.bool b, Value.string s] [Value.bool b', Value.string s'] = true) : (b, s) = (b', s') := by
  simp only [eqL, leafEq, Bool.and_eq_true, Bool.and_true] at h
  obtain ⟨h1, h2⟩ := h
  have e1 : b = b' := by simpa using h1
  have e2 : s = s' := by
    cases s with
    | mk d => cases s' with
      | mk d' =>
        have h3 : (d == d') = true := h2
        rw [eq_of_beq h3]
  rw [e1, e2]
def shtO (kf : Nat) : AObj := .vec TY.sheet_Sheet (plains [.pointer (some ⟨kf, 0, none⟩)]) 1
def fO (f : FileS) : AObj := .vec TY.file_File (plains [.bool f.1, .string f.2]) 2
structure ShI where
  kT : Nat
  kR : Nat
  vt : Value
  rt : Option (Nat × AObj)
  ks : Nat
  kf : Nat
def ShI.m (x : ShI) (vd : Value) (rd : Option (Nat × AObj)) : List (Option (Nat × AObj)) := [some (x.kT, tomO x.kR), some (x.kR, frO x.vt), x.rt, some (x.ks, shtO x.kf), some (x.kf, drO_file_File vd), rd]
def getS (l : FL) (d : DFL) (n : Int) : FileS × Bool := match atD d n with
  | some f => (f, true)
  | none => ((fileAt l n).1, false)
theorem getS_some {l : FL} {d : DFL} {n : Int} {f : FileS} (h : atD d n = some f) : getS l d n = (f, true) := by rw [getS, h]
theorem getS_none {l : FL} {d : DFL} {n : Int} (h : atD d n = none) : getS l d n = ((fileAt l n).1, false) := by rw [getS, h]
def putS (l : FL) (d : DFL) (n : Int) (f : FileS) : DFL := if (getS l d n).1 = f then d else insD d n f
theorem getS_ins (l : FL) (d : DFL) (n m : Int) (f : FileS) : getS l (insD d n f) m = if m = n then (f, true) else getS l d m := by
  by_cases h : m = n
  · rw [if_pos h]
    exact getS_some (by rw [atD_ins, if_pos h])
  · rw [if_neg h]
    unfold getS
    rw [atD_ins, if_neg h]
theorem getS_put (l : FL) (d : DFL) (n m : Int) (f : FileS) : (getS l (putS l d n f) m).1 = if m = n then f else (getS l d m).1 := by
  unfold putS
  split
  · rename_i h
    by_cases e : m = n
    · subst e; rw [if_pos rfl, h]
    · rw [if_neg e]
  · rw [getS_ins]
    by_cases e : m = n
    · rw [if_pos e, if_pos e]
    · rw [if_neg e, if_neg e]
theorem putS_sort {l : FL} {d : DFL} (s : SortD d) (n : Int) (f : FileS) : SortD (putS l d n f) := by
  unfold putS; split
  · exact s
  · exact s.ins
theorem putS_len (l : FL) (d : DFL) (n : Int) (f : FileS) : (putS l d n f).length ≤ d.length + 1 := by
  unfold putS; split
  · omega
  · exact insD_len
section
variable {B : RO} {h0 h h' : Heap} {L : List (Option (Nat × AObj))} {r rd : Option (Nat × AObj)} {i k : Nat} {a : Option Addr} {m c : Nat} {v vd : Value} {l : FL} {d : DFL} {n : Int} {x : ShI} {f : FileS}
theorem get_file_File_wp {Q : Bool → ByteArray → Bool → Heap → Prop} (E : Keep B h0 L h) (A : DAt_file_File L i k v r) (R : DRow_file_File r v d) (s : SortD d) (hl : d.length ≤ 1000000)
    (hQ : ∀ h', Keep B h0 L h' → Q ((atD d n).getD (false, ByteArray.empty)).1 ((atD d n).getD (false, ByteArray.empty)).2 (atD d n).isSome h') : C_draft_Draft_file_File_Get B (some ⟨k, 0, none⟩) n h Q := by
  refine C_draft_Draft_file_File_Get.of ?_
  unfold S_draft_Draft_file_File_Get
  intro k6 a6 b6 h7 e7 k8 a8 b8 h9 e9
  have E1 := (E.start.nM a6 b6 e7).nM a8 b8 e9
  refine ⟨fun e => (by cases e), fun _ => find_file_File_wp (i := i) E1 ⟨up_app _ A.p, up_app _ A.q⟩ R s hl fun p K => ⟨fun hf => ?_, fun hf => ?_⟩⟩
  · obtain ⟨y, hy, rfl⟩ := foundD_some hf
    have hpl := (List.getElem?_eq_some_iff.1 hy).1
    rw [atD_old K hy rfl] at hQ
    obtain ⟨a, m, c, rfl⟩ := Row.slice R
    obtain ⟨rfl, hrd⟩ := Row.rd (B := B) R entC_file_File_len (by omega)
    obtain ⟨A', e1, _, e4⟩ := hrd h9 (fun k o e => E1.at (i + 1) (by rw [up_app _ A.q, e])) p y hy
    obtain ⟨f1, f2, f3, _⟩ := e4
    refine ⟨_, rfl, .inl ⟨a, _, c, E1.cell i (up_app _ A.p) rfl, A', e1, by omega, by omega, y.2.1, y.2.2, ⟨?_, ?_, trivial⟩, ?_⟩⟩
    · rw [Int.toNat_natCast]; exact f2
    · rw [Int.toNat_natCast, Addr.add2]; exact f3
    · refine ⟨_, stores_whole (E1.gM 0 rfl) rfl (by simp) (by simp [isOne]) (by simp), ?_⟩
      have E2 := E1.pM (o' := fO y.2) 0 rfl
      exact ⟨_, _, ⟨E2.cM 0 rfl (i := 0) rfl, E2.cM 0 rfl (i := 1) rfl, trivial⟩, Fin.of (hQ _ E2.zM)⟩
  · rw [atD_new s K hf] at hQ
    refine ⟨_, _, ⟨E1.cM 1 rfl (i := 0) rfl, E1.cM 1 rfl (i := 1) rfl, trivial⟩, _, stores_whole (E1.gM 0 rfl) rfl (by simp) (by simp [isOne]) (by simp), ?_⟩
    have E2 := E1.pM (o' := fO (false, ByteArray.empty)) 0 rfl
    exact ⟨_, _, ⟨E2.cM 0 rfl (i := 0) rfl, E2.cM 0 rfl (i := 1) rfl, trivial⟩, Fin.of (hQ _ E2.zM)⟩
theorem sget_wp {Q : Bool → ByteArray → Bool → Heap → Prop} (E : Keep B h0 (L ++ x.m vd rd) h) (R : FRow x.rt x.vt l) (Rd : DRow_file_File rd vd d) (s : SortD d) (hd : d.length ≤ 1000)
    (hQ : ∀ h', Keep B h0 (L ++ x.m vd rd) h' → Q (getS l d n).1.1 (getS l d n).1.2 (getS l d n).2 h') : C_sheet_Sheet_Get B (some ⟨x.ks, 0, none⟩) (some ⟨x.kT, 0, none⟩) n h Q := by
  refine C_sheet_Sheet_Get.of ?_
  unfold S_sheet_Sheet_Get
  intro k7 a7 b7 h8 e8
  have E1 := E.nM a7 b7 e8
  refine ⟨fun e => (by cases e), fun _ => ⟨_, rfl, _, E1.cM 3 rfl (i := 0) rfl, ?_⟩⟩
  refine get_file_File_wp (i := L.length + 4) E1 ⟨upM 4 rfl, upM 5 rfl⟩ Rd s (by omega) fun h27 E2 => ?_
  cases hat : atD d n with
  | some f =>
    rw [getS_some hat] at hQ
    refine ⟨fun _ k34 a34 b34 h35 e35 => ?_, fun e => by cases e⟩
    have E3 := E2.nM a34 b34 e35
    refine ⟨_, stores_whole (E3.gM 7 rfl) rfl (by simp) (by simp [isOne]) (by simp), ?_⟩
    have E4 := E3.pM (o' := fO f) 7 rfl
    refine ⟨_, _, ⟨E4.cM 7 rfl (i := 0) rfl, E4.cM 7 rfl (i := 1) rfl, trivial⟩, _, stores_whole (E4.gM 6 rfl) rfl (by simp) (by simp [isOne]) (by simp), ?_⟩
    have E5 := E4.pM (o' := fO f) 6 rfl
    exact ⟨_, _, ⟨E5.cM 6 rfl (i := 0) rfl, E5.cM 6 rfl (i := 1) rfl, trivial⟩, Fin.of (hQ _ (E5.tM 6))⟩
  | none =>
    rw [getS_none hat] at hQ
    refine ⟨fun e => (by cases e), fun _ k31 a31 b31 h32 e32 => ?_⟩
    have E3 := E2.nM a31 b31 e32
    refine ⟨_, stores_whole (E3.gM 7 rfl) rfl (by simp) (by simp [isOne]) (by simp), Fin.of ?_⟩
    have E4 := (E3.pM (o' := fO (false, ByteArray.empty)) 7 rfl).tM 7
    unfold S_sheet_Sheet_Get_J1
    refine tget_wp (i := L.length) E4 ⟨upM 0 rfl, ⟨upM 1 rfl, upM 2 rfl⟩⟩ R fun h11 E5 => ?_
    intro k15 a15 b15 h16 e16
    have E6 := E5.nM a15 b15 e16
    refine ⟨_, stores_whole (E6.gM 7 rfl) rfl (by simp) (by simp [isOne]) (by simp), ?_⟩
    have E7 := E6.pM (o' := fO (fileAt l n).1) 7 rfl
    refine ⟨_, _, ⟨E7.cM 7 rfl (i := 0) rfl, E7.cM 7 rfl (i := 1) rfl, trivial⟩, _, stores_whole (E7.gM 6 rfl) rfl (by simp) (by simp [isOne]) (by simp), ?_⟩
    have E8 := E7.pM (o' := fO (fileAt l n).1) 6 rfl
    exact ⟨_, _, ⟨E8.cM 6 rfl (i := 0) rfl, E8.cM 6 rfl (i := 1) rfl, trivial⟩, Fin.of (hQ _ (E8.tM 6))⟩
theorem sput_wp {Q : Bool → Heap → Prop} (E : Keep B h0 (L ++ x.m vd rd) h) (R : FRow x.rt x.vt l) (Rd : DRow_file_File rd vd d) (s : SortD d) (hd : d.length ≤ 1000) (hn : 0 ≤ n ∧ n < 6)
    (hQ : ∀ vd' rd' h', DRow_file_File rd' vd' (putS l d n f) → Keep B h0 (L ++ x.m vd' rd') h' → Q true h') : C_sheet_Sheet_put B (some ⟨x.ks, 0, none⟩) (some ⟨x.kT, 0, none⟩) n f.1 f.2 h Q := by
  refine C_sheet_Sheet_put.of ?_
  unfold S_sheet_Sheet_put
  intro k7 a7 b7 h8 e8
  have E1 : Keep B h0 ((some (k7, fO f) :: L) ++ x.m vd rd) h8 := by
    have := E.made a7 b7 e8
    refine this.remap (fun j => if j = 0 then (L ++ x.m vd rd).length else j - 1) (fun j y hy => ?_) (fun i j hi hj e => ?_)
    · cases j with
      | zero =>
        simp only [List.cons_append, List.getElem?_cons_zero] at hy
        simp only [if_true]
        rw [List.getElem?_append_right (Nat.le_refl _), Nat.sub_self]; exact hy
      | succ j =>
        simp only [List.cons_append, List.getElem?_cons_succ] at hy
        simp only [Nat.add_one_ne_zero, if_false, Nat.add_sub_cancel]
        exact up_app _ hy
    · simp only [List.length_append, List.length_cons] at hi hj
      have e : (if i = 0 then (L ++ x.m vd rd).length else i - 1) = (if j = 0 then (L ++ x.m vd rd).length else j - 1) := e
      rw [List.length_append] at e
      split at e <;> split at e <;> omega
  refine ⟨fun e => (by cases e), fun _ => ⟨fun hlt => by omega, fun _ => ⟨fun hge => by omega, fun _ => Fin.of ?_⟩⟩⟩
  unfold S_sheet_Sheet_put_J1
  refine sget_wp E1 R Rd s hd fun h11 E2 => ?_
  intro k15 a15 b15 h16 e16
  have E3 := E2.nM a15 b15 e16
  refine ⟨_, stores_whole (E3.gM 6 rfl) rfl (by simp) (by simp [isOne]) (by simp), ?_⟩
  have E4 := E3.pM (o' := fO (getS l d n).1) 6 rfl
  refine ⟨_, _, ⟨E4.cM 6 rfl (i := 0) rfl, E4.cM 6 rfl (i := 1) rfl, trivial⟩, _, _, ⟨E4.cell 0 rfl (j := 0) rfl, E4.cell 0 rfl (j := 1) rfl, trivial⟩, fun he => ?_, fun hne => ?_⟩
  · have hf : (getS l d n).1 = f := eqL_file_eq he
    unfold putS at hQ
    rw [if_pos hf] at hQ
    refine Fin.of (hQ vd rd _ Rd ?_)
    have E5 : Keep B h0 (some (k7, fO f) :: (L ++ x.m vd rd)) _ := E4.tM 6
    exact E5.remap (fun j => j + 1) (fun j y hy => by simpa using hy) (fun i j _ _ e => by simpa using e)
  · have hf : ¬ (getS l d n).1 = f := fun e => hne (by rw [← e]; exact eqL_refl _ _)
    unfold putS at hQ
    rw [if_neg hf] at hQ
    refine ⟨_, rfl, _, E4.cM 3 rfl (i := 0) rfl, _, _, ⟨E4.cell 0 rfl (j := 0) rfl, E4.cell 0 rfl (j := 1) rfl, trivial⟩, ?_⟩
    refine put_file_File_wp (i := (some (k7, fO f) :: L).length + 4) E4 ⟨upM 4 rfl, upM 5 rfl⟩ Rd s (by omega) fun v' r' h65 R' E5 => ?_
    rw [setM, show (some (k7, fO f) :: L).length + 4 + 1 = (some (k7, fO f) :: L).length + 5 from rfl, setM] at E5
    refine ⟨E5.cM 3 rfl (i := 0) rfl, ⟨E5.cell 0 rfl (j := 0) rfl, E5.cell 0 rfl (j := 1) rfl, trivial⟩, Fin.of (hQ v' r' _ R' ?_)⟩
    have E6 : Keep B h0 (some (k7, fO f) :: (L ++ x.m v' r')) _ := E5.tM 6
    exact E6.remap (fun j => j + 1) (fun j y hy => by simpa using hy) (fun i j _ _ e => by simpa using e)
end
end Go.Proofs.Ytcncdfmnpmmikaa.H
