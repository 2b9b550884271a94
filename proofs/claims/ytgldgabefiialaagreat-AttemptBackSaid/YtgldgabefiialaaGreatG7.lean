/- What the law's proof stands on, part 7. No condition. -/
import Derived.Shelf.Strings.Repeat
import Derived.Test.YtgldgabefiialaaGreatG6
namespace Go.Proofs.YtgldgabefiialaaGreat.H
open Go
set_option linter.unusedVariables false
set_option maxRecDepth 100000
def repRen : Go.Shelf.Ren := ⟨fun x => match x with | 99 => 144 | 105 => 136 | 165 => 145 | 166 => 146 | 169 => 148 | 170 => 147 | 206 => 157 | 212 => 143 | 240 => 158 | 241 => 159 | 263 => 155 | 264 => 156 | 276 => 161 | 277 => 162 | _ => 0, fun x => match x with | 0 => 0 | 3 => 3 | 4 => 4 | 5 => 5 | 9 => 9 | 20 => 20 | 37 => 226 | 46 => 234 | 51 => 259 | 53 => 262 | 70 => 245 | 72 => 247 | 75 => 249 | 76 => 250 | 80 => 252 | 109 => 242 | 127 => 265 | 146 => 260 | 148 => 263 | 164 => 266 | _ => 0, fun x => x⟩
theorem repLays : Lays.n105 PG repRen := ⟨by kernel_rfl, by kernel_rfl, by kernel_rfl, by kernel_rfl, by kernel_rfl, by kernel_rfl, by kernel_rfl, by kernel_rfl, by kernel_rfl, by kernel_rfl, by kernel_rfl, by kernel_rfl, by kernel_rfl, by kernel_rfl, by kernel_rfl, by kernel_rfl, fun w => by kernel_rfl, fun w => by kernel_rfl, fun w => by kernel_rfl, by kernel_rfl, fun w => by kernel_rfl, fun w => by kernel_rfl, fun w => by kernel_rfl, by kernel_rfl, fun w => by kernel_rfl, fun w => by kernel_rfl, fun w => by kernel_rfl, by kernel_rfl, fun w => by kernel_rfl, fun w => by kernel_rfl, fun w => by kernel_rfl, by kernel_rfl, fun w => by kernel_rfl, fun w => by kernel_rfl, fun w => by kernel_rfl, by kernel_rfl, fun w => by kernel_rfl, fun w => by kernel_rfl, fun w => by kernel_rfl, by kernel_rfl, fun w => by kernel_rfl, fun w => by kernel_rfl, fun w => by kernel_rfl, by kernel_rfl, fun w => by kernel_rfl, fun w => by kernel_rfl, fun w => by kernel_rfl, by kernel_rfl, fun w => by kernel_rfl, fun w => by kernel_rfl, fun w => by kernel_rfl, by kernel_rfl, fun w => by kernel_rfl, fun w => by kernel_rfl, fun w => by kernel_rfl, by kernel_rfl, fun w => by kernel_rfl, fun w => by kernel_rfl, fun w => by kernel_rfl, by kernel_rfl, fun w => by kernel_rfl, fun w => by kernel_rfl, fun w => by kernel_rfl, by kernel_rfl, fun w => by kernel_rfl, fun w => by kernel_rfl, fun w => by kernel_rfl, by kernel_rfl, fun w => by kernel_rfl, fun w => by kernel_rfl, fun w => by kernel_rfl, by kernel_rfl, fun w => by kernel_rfl, fun w => by kernel_rfl, fun w => by kernel_rfl, by kernel_rfl, fun w => by kernel_rfl, fun w => by kernel_rfl, fun w => by kernel_rfl, by kernel_rfl, fun w => by kernel_rfl, fun w => by kernel_rfl, fun w => by kernel_rfl, by kernel_rfl, fun w => by kernel_rfl, fun w => by kernel_rfl, fun w => by kernel_rfl, by kernel_rfl, fun w => by kernel_rfl, fun w => by kernel_rfl, fun w => by kernel_rfl⟩
theorem repExtra : Builder.Extra PG repRen := { sizeBuilder := by kernel_rfl, liesBuilder := by kernel_rfl, t5 := repLays.t5, a5 := repLays.a5, z5 := repLays.z5, v5 := repLays.v5, infoByte := by kernel_rfl, cellsByte := by kernel_rfl, sizeByte := by kernel_rfl, neB5 := by decide }
theorem repF : repRen.f 105 = FN.strings_Repeat := by kernel_rfl
end Go.Proofs.YtgldgabefiialaaGreat.H
namespace Go.Proofs.YtgldgabefiialaaGreat.H
open Go Go.RowKit
set_option linter.unusedVariables false
set_option maxRecDepth 100000
theorem Rel.below {B : RO} {F : Fr} {h : Heap} {w w' : World} (R : Rel B F h w) (b : Below w.heap.size w w') : Rel B F h w' := by
  obtain ⟨own, R⟩ := R
  obtain ⟨b1, b2, b3, b4, hk⟩ := b
  exact ⟨own, b1.trans R.os, b2.trans R.tape, b3.trans R.output, Nat.le_trans R.low b4, fun c o hc => ⟨(hk c (lt_of_get (R.fr c o hc).1)).trans (R.fr c o hc).1, (R.fr c o hc).2⟩,
    fun c o hc => ⟨(hk c (lt_of_get (R.ro c o hc).1)).trans (R.ro c o hc).1, (R.ro c o hc).2⟩, fun c o hc => ⟨(R.obj c o hc).1, (R.obj c o hc).2.keep (hk c (R.obj c o hc).2.lt) (fun k i h' => ⟨h', hk k (R.owned k _ h')⟩)⟩,
    fun k p hk' => Nat.lt_of_lt_of_le (R.owned k p hk') b4⟩
theorem Spec.below {P : Program} {B : RO} {f : FuncId} {args : Array Value} {h : Heap} {v0 : Value} {Q : Value → Heap → Prop} (hc : ∀ w, Calls P f args w fun e w' => e = .returned v0 ∧ Below w.heap.size w w') (hQ : Q v0 h) : Spec P B f args h Q := by
  intro F w R
  refine (hc w).mono ?_
  rintro e w' ⟨rfl, bel⟩
  exact ⟨v0, h, rfl, R.below bel, hQ⟩
section
variable {B : RO} {h h0 : Heap} {L : List (Option (Nat × AObj))} {b : Bool} {s : ByteArray}
theorem repeat_wp {n : Nat} (hn : n ≤ 100000) {Q : ByteArray → Heap → Prop} (hQ : Q (ba (List.replicate n 0)) h) : C_strings_Repeat B (ByteArray.mk #[0]) (n : Int) h Q := by
  unfold C_strings_Repeat
  refine Spec.below (v0 := .string (ba (List.replicate n 0))) (fun w => ?_) ⟨_, rfl, hQ⟩
  have hc := Any.strings_Repeat repLays repExtra (ByteArray.mk #[0]) n w (by omega) (by show 1 * n ≤ _; omega)
  rw [repF] at hc
  refine hc.mono fun e w' ⟨he, hb⟩ => ⟨?_, hb⟩
  rw [he]
  have := Lib.repeatL_replicate 0 1 n
  rw [Nat.mul_one] at this
  have e1 : (ByteArray.mk #[0]).data.toList = List.replicate 1 0 := rfl
  rw [e1, this]; rfl
theorem cut_in {s : ByteArray} {n : Nat} (h : n ≤ s.size) : s.extract 0 n = ba (cutT (bl s) n) := by
  refine bl_inj ?_
  rw [bl_extract, bl_ba, cutT, padT_self (by rw [bl_length]; exact h)]; simp
theorem cut_out {s : ByteArray} {n : Nat} (h : s.size ≤ n) : s ++ ba (List.replicate (n - s.size) 0) = ba (cutT (bl s) n) := by
  refine bl_inj ?_
  rw [bl_append, bl_ba, bl_ba, cutT, List.take_of_length_le (by rw [padT_len, bl_length]; omega), padT, bl_length]
theorem fcut_wp {n : Int} (hs : s.size ≤ 1000000) {Q : Bool → ByteArray → Heap → Prop} (hQ : ∀ h', Wk B h h' → Q (cutF (b, s) n).1 (cutF (b, s) n).2 h') : C_file_Cut B b s n h Q := by
  refine C_file_Cut.of ?_
  unfold S_file_Cut
  intro k7 a7 b7 h8 e8 k9 a9 b9 h10 e10
  have E := ((Keep.nil B h).made a7 b7 e8).made a9 b9 e10
  have E : Keep B h [some (k7, fiO (b, s)), some (k9, fiO (false, ByteArray.empty))] h10 := E
  have done : ¬ (b = true ∧ 0 ≤ n ∧ n ≤ 32) → ∃ b45 : Bool, ∃ s46 : ByteArray, CellsAt B h10 ⟨k7, 0, none⟩ 0 [(.bool b45), (.string s46)] ∧ ∃ h47 : Heap, StoresAt ⟨k9, 0, none⟩ h10 0 [(.bool b45), (.string s46)] h47 ∧
      ∃ b48 : Bool, ∃ s49 : ByteArray, CellsAt B h47 ⟨k9, 0, none⟩ 0 [(.bool b48), (.string s49)] ∧ Fin B h47 (Q (b48) s49) := fun hn => by
    unfold cutF at hQ
    rw [if_neg hn] at hQ
    refine ⟨b, s, ⟨E.cell 0 rfl (j := 0) rfl, E.cell 0 rfl (j := 1) rfl, trivial⟩, _, stores_whole (E.at 1 rfl) rfl (by simp) (by simp [isOne]) (by simp), ?_⟩
    have E1 := E.put (o' := fiO (b, s)) 1 rfl
    exact ⟨_, _, ⟨E1.cell 1 rfl (j := 0) rfl, E1.cell 1 rfl (j := 1) rfl, trivial⟩, Fin.of (hQ _ E1.w)⟩
  refine ⟨b, E.cell 0 rfl (j := 0) rfl, fun hb => ⟨fun hlt => done (by omega), fun hge => ⟨fun h32 => done (by omega), fun hlt => Fin.of ?_⟩⟩, fun hb => done (by simp [hb])⟩
  clear done
  have hin : b = true ∧ 0 ≤ n ∧ n ≤ 32 := ⟨hb, by omega, by omega⟩
  unfold cutF at hQ
  rw [if_pos hin] at hQ
  obtain ⟨k, rfl⟩ := Int.eq_ofNat_of_zero_le hin.2.1
  rw [Int.toNat_natCast] at hQ
  unfold S_file_Cut_J1
  refine ⟨s, E.cell 0 rfl (j := 1) rfl, fun hle => ⟨s, E.cell 0 rfl (j := 1) rfl, by omega, by omega, hle, ?_⟩, fun hgt => ⟨s, E.cell 0 rfl (j := 1) rfl, s, E.cell 0 rfl (j := 1) rfl, ?_⟩⟩
  · rw [show Int.toNat 0 = 0 from rfl, Int.toNat_natCast, cut_in (by omega)]
    refine ⟨_, stores_whole (E.at 1 rfl) rfl (by simp) (by simp [isOne]) (by simp), ?_⟩
    have E1 := E.put (o' := fiO (true, ba (cutT (bl s) k))) 1 rfl
    exact ⟨_, _, ⟨E1.cell 1 rfl (j := 0) rfl, E1.cell 1 rfl (j := 1) rfl, trivial⟩, Fin.of (hQ _ E1.w)⟩
  · have e1 : IntKind.wrap .i64 ((k : Int) - (s.size : Nat)) = ((k - s.size : Nat) : Int) := by rw [w64 (by omega) (by omega)]; omega
    rw [e1]
    refine repeat_wp (by omega) ⟨E.cell 0 rfl (j := 1) rfl, E.cell 0 rfl (j := 1) rfl, by rw [ba_size, List.length_replicate]; omega, ?_⟩
    rw [cut_out (by omega)]
    refine ⟨_, stores_whole (E.at 1 rfl) rfl (by simp) (by simp [isOne]) (by simp), ?_⟩
    have E1 := E.put (o' := fiO (true, ba (cutT (bl s) k))) 1 rfl
    exact ⟨_, _, ⟨E1.cell 1 rfl (j := 0) rfl, E1.cell 1 rfl (j := 1) rfl, trivial⟩, Fin.of (hQ _ E1.w)⟩
end
end Go.Proofs.YtgldgabefiialaaGreat.H
namespace Go.Proofs.YtgldgabefiialaaGreat.H
open Go Go.RowKit
set_option linter.unusedVariables false
set_option maxRecDepth 100000
def inR (n : Int) : Bool := decide (0 ≤ n ∧ n < 6)
theorem inR_t {n : Int} (h : inR n = true) : 0 ≤ n ∧ n < 6 := of_decide_eq_true h
theorem inR_f {n : Int} (h : inR n = false) : ¬ (0 ≤ n ∧ n < 6) := of_decide_eq_false h
def upS (l : FL) (d : DFL) (n : Int) (f : FileS) : DFL := if inR n = true then putS l d n f else d
def f0 : FileS := (false, ByteArray.empty)
structure SOk (l : FL) (d : DFL) : Prop where
  s : SortD d
  k : ∀ x ∈ d, (0 ≤ x.1 ∧ x.1 < 6) ∧ goodF x.2.1 x.2.2 = true
  l6 : l.length = 6
  g : ∀ y ∈ l, goodF y.1.1 y.1.2 = true
theorem sort_len6 : ∀ (d : DFL) (a : Nat), SortD d → (∀ x ∈ d, (a : Int) ≤ x.1 ∧ x.1 < 6) → d.length ≤ 6 - a := by
  intro d
  induction d with
  | nil => intro a _ _; simp
  | cons x d ih =>
    intro a s h
    obtain ⟨h1, h2⟩ := h x (by simp)
    obtain ⟨s1, s2⟩ := List.pairwise_cons.1 s
    have := ih (a + 1) s2 (fun y hy => ⟨by have := s1 y hy; omega, (h y (by simp [hy])).2⟩)
    simp only [List.length_cons]; omega
theorem SOk.len {l : FL} {d : DFL} (o : SOk l d) : d.length ≤ 6 := sort_len6 d 0 o.s fun x hx => (o.k x hx).1
theorem atD_mem {d : DFL} {n : Int} {f : FileS} (h : atD d n = some f) : ∃ x ∈ d, x.1 = n ∧ x.2 = f := by
  unfold atD at h
  cases hf : d.find? (fun x => x.1 == n) with
  | none => rw [hf] at h; cases h
  | some x =>
    rw [hf] at h
    have h1 := List.find?_some hf
    exact ⟨x, List.mem_of_find?_eq_some hf, by simpa using h1, by simpa using h⟩
theorem SOk.fat {l : FL} {d : DFL} (o : SOk l d) (n : Int) : goodF (fileAt l n).1.1 (fileAt l n).1.2 = true := by
  by_cases h : 0 ≤ n ∧ n < (l.length : Int)
  · rw [fileAt_in h.1 (by omega)]; exact o.g _ (List.getElem_mem _)
  · rw [fileAt_out h]; rfl
theorem SOk.good {l : FL} {d : DFL} (o : SOk l d) (n : Int) : goodF (getS l d n).1.1 (getS l d n).1.2 = true := by
  cases h : atD d n with
  | none => rw [getS_none h]; exact o.fat n
  | some f =>
    rw [getS_some h]
    obtain ⟨x, hx, _, rfl⟩ := atD_mem h
    exact (o.k x hx).2
theorem goodF_size {b : Bool} {s : ByteArray} (h : goodF b s = true) : s.size ≤ 32 := by unfold goodF at h; simp at h; exact h.1
theorem goodF_put {f : FileS} (h : goodF f.1 f.2 = true) (n : Int) (c : UInt8) : goodF (putF f n c).1 (putF f n c).2 = true := by
  unfold putF
  split
  · rename_i hn
    have := goodF_size h
    unfold goodF
    rw [ba_size, putT_len, bl_length, decide_eq_true (by omega)]; rfl
  · exact h
theorem goodF_cut {f : FileS} (h : goodF f.1 f.2 = true) (n : Int) : goodF (cutF f n).1 (cutF f n).2 = true := by
  unfold cutF
  split
  · rename_i hn
    unfold goodF
    rw [ba_size, cutT_len, decide_eq_true (by omega)]; rfl
  · exact h
theorem goodF_make {f : FileS} (h : goodF f.1 f.2 = true) : goodF true f.2 = true := by
  have := goodF_size h
  unfold goodF; rw [decide_eq_true this]; rfl
theorem SOk.up {l : FL} {d : DFL} (o : SOk l d) {n : Int} {f : FileS} (g : goodF f.1 f.2 = true) : SOk l (upS l d n f) := by
  unfold upS putS
  split
  · rename_i hn
    have hn := inR_t hn
    split
    · exact o
    · refine ⟨o.s.ins, fun x hx => ?_, o.l6, o.g⟩
      rcases insD_mem hx with rfl | hx
      · exact ⟨hn, g⟩
      · exact o.k x hx
  · exact o
def renS (l : FL) (d : DFL) (a b : Int) : DFL := if (inR a && inR b && (getS l d a).1.1 && decide (a ≠ b)) = true then putS l (putS l d b (getS l d a).1) a f0 else d
theorem SOk.ren {l : FL} {d : DFL} (o : SOk l d) (a b : Int) : SOk l (renS l d a b) := by
  unfold renS
  split
  · rename_i h
    simp only [Bool.and_eq_true] at h
    have h1 := o.up (n := b) (o.good a)
    have h2 := h1.up (n := a) (f := f0) rfl
    unfold upS at h1 h2
    rw [if_pos h.1.1.2] at h1 h2
    rw [if_pos h.1.1.1] at h2
    exact h2
  · exact o
section
variable {B : RO} {h0 h h' : Heap} {L : List (Option (Nat × AObj))} {r rd : Option (Nat × AObj)} {v vd : Value} {l z : FL} {d : DFL} {n : Int} {x : ShI} {f : FileS}
theorem Keep.nP {M : List (Option (Nat × AObj))} {k : Nat} {o : AObj} (E : Keep B h0 (L ++ M) h) (hk : h k = none) (hb : B k = none) (e : h' = h.set k o) : Keep B h0 ((L ++ [some (k, o)]) ++ M) h' := by
  refine (E.made hk hb e).remap (fun j => if j < L.length then j else if j = L.length then L.length + M.length else j - 1) (fun j y hy => ?_) (fun i j hi hj e => ?_)
  · by_cases h1 : j < L.length
    · simp only [if_pos h1]
      rw [List.append_assoc, List.getElem?_append_left h1] at hy
      rw [List.append_assoc, List.getElem?_append_left h1]; exact hy
    · simp only [if_neg h1]
      by_cases h2 : j = L.length
      · simp only [if_pos h2]
        subst h2
        rw [List.append_assoc, List.getElem?_append_right (Nat.le_refl _), Nat.sub_self] at hy
        rw [List.getElem?_append_right (by rw [List.length_append]; omega), List.length_append, Nat.sub_self]; exact hy
      · simp only [if_neg h2]
        rw [List.append_assoc, List.getElem?_append_right (by omega), List.getElem?_append_right (by simp only [List.length_cons, List.length_nil]; omega)] at hy
        refine up_app _ ?_
        rw [List.getElem?_append_right (by omega), show j - 1 - L.length = j - L.length - [some (k, o)].length by simp only [List.length_cons, List.length_nil]; omega]; exact hy
  · simp only [List.length_append, List.length_cons, List.length_nil] at hi hj
    split at e <;> split at e <;> (try split at e) <;> (try split at e) <;> omega
theorem Keep.dP {M : List (Option (Nat × AObj))} {y : Option (Nat × AObj)} (E : Keep B h0 ((L ++ [y]) ++ M) h) : Keep B h0 (L ++ M) h := by
  rw [List.append_assoc] at E; exact E.dropMid
theorem sputG_wp {Q : Bool → Heap → Prop} (E : Keep B h0 (L ++ x.m vd rd) h) (R : FRow x.rt x.vt l) (Rd : DRow_file_File rd vd d) (o : SOk l d)
    (hQ : ∀ vd' rd' h', DRow_file_File rd' vd' (upS l d n f) → Keep B h0 (L ++ x.m vd' rd') h' → Q (inR n) h') : C_sheet_Sheet_put B (some ⟨x.ks, 0, none⟩) (some ⟨x.kT, 0, none⟩) n f.1 f.2 h Q := by
  have hl := o.len
  by_cases hn : inR n = true
  · unfold upS at hQ
    rw [hn, if_pos rfl] at hQ
    exact sput_wp (f := f) E R Rd o.s (by omega) (inR_t hn) hQ
  · have hn : inR n = false := by simpa using hn
    have hn' := inR_f hn
    unfold upS at hQ
    rw [hn, if_neg (by decide)] at hQ
    refine C_sheet_Sheet_put.of ?_
    unfold S_sheet_Sheet_put
    intro k7 a7 b7 h8 e8
    have E1 := (E.made a7 b7 e8).pop
    exact ⟨fun e => (by cases e), fun _ => ⟨fun hlt => Fin.of (hQ _ _ _ Rd E1), fun hge => ⟨fun h6 => Fin.of (hQ _ _ _ Rd E1), fun hlt => by omega⟩⟩⟩
theorem swrite_wp {a : Int} {w : Int} {c : UInt8} (hw : w = ((c.toNat : Nat) : Int)) {Q : Bool → Heap → Prop} (E : Keep B h0 (L ++ x.m vd rd) h) (R : FRow x.rt x.vt l) (Rd : DRow_file_File rd vd d) (o : SOk l d)
    (hQ : ∀ vd' rd' h', DRow_file_File rd' vd' (upS l d n (putF (getS l d n).1 a c)) → Keep B h0 (L ++ x.m vd' rd') h' → Q (inR n) h') : C_sheet_Sheet_Write B (some ⟨x.ks, 0, none⟩) (some ⟨x.kT, 0, none⟩) n a w h Q := by
  have hl := o.len
  refine C_sheet_Sheet_Write.of ?_
  unfold S_sheet_Sheet_Write
  refine sget_wp E R Rd o.s (by omega) fun h6 E1 => ?_
  intro k10 a10 b10 h11 e11
  have E2 := E1.nM a10 b10 e11
  refine ⟨_, stores_whole (E2.gM 6 rfl) rfl (by simp) (by simp [isOne]) (by simp), ?_⟩
  have E3 := E2.pM (o' := fO (getS l d n).1) 6 rfl
  refine ⟨_, _, ⟨E3.cM 6 rfl (i := 0) rfl, E3.cM 6 rfl (i := 1) rfl, trivial⟩, fput_wp hw (by have := goodF_size (o.good n); omega) fun h14 wk => ?_⟩
  have E4 := (E3.wk wk).tM 6
  exact sputG_wp (f := putF (getS l d n).1 a c) E4 R Rd o fun v1 r1 h17 R1 E5 => Fin.of (hQ v1 r1 _ R1 E5)
theorem scut_wp {a : Int} {Q : Bool → Heap → Prop} (E : Keep B h0 (L ++ x.m vd rd) h) (R : FRow x.rt x.vt l) (Rd : DRow_file_File rd vd d) (o : SOk l d)
    (hQ : ∀ vd' rd' h', DRow_file_File rd' vd' (upS l d n (cutF (getS l d n).1 a)) → Keep B h0 (L ++ x.m vd' rd') h' → Q (inR n) h') : C_sheet_Sheet_Cut B (some ⟨x.ks, 0, none⟩) (some ⟨x.kT, 0, none⟩) n a h Q := by
  have hl := o.len
  refine C_sheet_Sheet_Cut.of ?_
  unfold S_sheet_Sheet_Cut
  refine sget_wp E R Rd o.s (by omega) fun h6 E1 => ?_
  intro k10 a10 b10 h11 e11
  have E2 := E1.nM a10 b10 e11
  refine ⟨_, stores_whole (E2.gM 6 rfl) rfl (by simp) (by simp [isOne]) (by simp), ?_⟩
  have E3 := E2.pM (o' := fO (getS l d n).1) 6 rfl
  refine ⟨_, _, ⟨E3.cM 6 rfl (i := 0) rfl, E3.cM 6 rfl (i := 1) rfl, trivial⟩, fcut_wp (by have := goodF_size (o.good n); omega) fun h14 wk => ?_⟩
  have E4 := (E3.wk wk).tM 6
  exact sputG_wp (f := cutF (getS l d n).1 a) E4 R Rd o fun v1 r1 h17 R1 E5 => Fin.of (hQ v1 r1 _ R1 E5)
theorem screateG_wp {Q : Bool → Heap → Prop} (E : Keep B h0 (L ++ x.m vd rd) h) (R : FRow x.rt x.vt l) (Rd : DRow_file_File rd vd d) (o : SOk l d)
    (hQ : ∀ vd' rd' h', DRow_file_File rd' vd' (upS l d n (true, (getS l d n).1.2)) → Keep B h0 (L ++ x.m vd' rd') h' → Q (inR n) h') : C_sheet_Sheet_Create B (some ⟨x.ks, 0, none⟩) (some ⟨x.kT, 0, none⟩) n h Q := by
  have hl := o.len
  refine C_sheet_Sheet_Create.of ?_
  unfold S_sheet_Sheet_Create
  refine sget_wp E R Rd o.s (by omega) fun h5 E1 => ?_
  intro k9 a9 b9 h10 e10
  have E2 := E1.nM a9 b9 e10
  refine ⟨_, stores_whole (E2.gM 6 rfl) rfl (by simp) (by simp [isOne]) (by simp), ?_⟩
  have E3 := E2.pM (o' := fO (getS l d n).1) 6 rfl
  refine ⟨_, _, ⟨E3.cM 6 rfl (i := 0) rfl, E3.cM 6 rfl (i := 1) rfl, trivial⟩, make_wp fun h14 w => ?_⟩
  have E4 := (E3.wk w).tM 6
  exact sputG_wp (f := (true, (getS l d n).1.2)) E4 R Rd o fun v1 r1 h17 R1 E5 => Fin.of (hQ v1 r1 _ R1 E5)
theorem sremove_wp {Q : Bool → Heap → Prop} (E : Keep B h0 (L ++ x.m vd rd) h) (R : FRow x.rt x.vt l) (Rd : DRow_file_File rd vd d) (o : SOk l d)
    (hQ : ∀ vd' rd' h', DRow_file_File rd' vd' (upS l d n f0) → Keep B h0 (L ++ x.m vd' rd') h' → Q (inR n) h') : C_sheet_Sheet_Remove B (some ⟨x.ks, 0, none⟩) (some ⟨x.kT, 0, none⟩) n h Q := by
  refine C_sheet_Sheet_Remove.of ?_
  unfold S_sheet_Sheet_Remove
  exact sputG_wp (f := f0) E R Rd o fun v1 r1 h17 R1 E5 => Fin.of (hQ v1 r1 _ R1 E5)
theorem srenameG_wp {a b : Int} {Q : Bool → Heap → Prop} (E : Keep B h0 (L ++ x.m vd rd) h) (R : FRow x.rt x.vt l) (Rd : DRow_file_File rd vd d) (o : SOk l d)
    (hQ : ∀ vd' rd' h', DRow_file_File rd' vd' (renS l d a b) → Keep B h0 (L ++ x.m vd' rd') h' → Q (inR a && inR b) h') : C_sheet_Sheet_Rename B (some ⟨x.ks, 0, none⟩) (some ⟨x.kT, 0, none⟩) a b h Q := by
  have hl := o.len
  refine C_sheet_Sheet_Rename.of ?_
  unfold S_sheet_Sheet_Rename
  refine sget_wp E R Rd o.s (by omega) fun h6 E1 => ?_
  intro k10 a10 b10 h11 e11
  have E2 := E1.nM a10 b10 e11
  refine ⟨_, stores_whole (E2.gM 6 rfl) rfl (by simp) (by simp [isOne]) (by simp), fun e => (by cases e), fun _ => ?_⟩
  have E3 := E2.pM (o' := fO (getS l d a).1) 6 rfl
  have out : (inR a && inR b) = false → S_sheet_Sheet_Rename_J2 B (some ⟨x.ks, 0, none⟩) (some ⟨x.kT, 0, none⟩) a b k10 true (h11.set k10 (fO (getS l d a).1)) Q := fun hn => by
    unfold S_sheet_Sheet_Rename_J2
    have hd : renS l d a b = d := by unfold renS; rw [if_neg (by rw [hn]; simp)]
    rw [hd, hn] at hQ
    exact ⟨fun _ => Fin.of (hQ _ _ _ Rd (E3.tM 6)), fun e => by cases e⟩
  have nota : ¬ (0 ≤ a ∧ a < 6) → (inR a && inR b) = false := fun hn => by unfold inR; rw [decide_eq_false hn]; rfl
  have notb : ¬ (0 ≤ b ∧ b < 6) → (inR a && inR b) = false := fun hn => by unfold inR; rw [decide_eq_false hn (p := 0 ≤ b ∧ b < 6), Bool.and_false]
  refine ⟨fun hn => Fin.of (out (nota (by omega))), fun h1 => ⟨fun hn => Fin.of (out (nota (by omega))), fun h2 => ⟨fun hn => Fin.of (out (notb (by omega))), fun h3 => ⟨fun hn => Fin.of (out (notb (by omega))), fun h4 => Fin.of ?_⟩⟩⟩⟩
  have ha : inR a = true := decide_eq_true (by omega)
  have hb : inR b = true := decide_eq_true (by omega)
  rw [ha, hb] at hQ
  clear out nota notb
  unfold S_sheet_Sheet_Rename_J2
  refine ⟨fun e => (by cases e), fun _ => ⟨_, E3.cM 6 rfl (i := 0) rfl, fun hi => ⟨fun e => Fin.of ?_, fun hne => Fin.of ?_⟩, fun hi => Fin.of ?_⟩⟩
  · have hd : renS l d a b = d := by unfold renS; rw [if_neg (by simp [e])]
    rw [hd] at hQ
    exact hQ _ _ _ Rd (E3.tM 6)
  · have hd : renS l d a b = upS l (upS l d b (getS l d a).1) a f0 := by unfold renS upS; rw [ha, hb, hi]; simp [hne]
    rw [hd] at hQ
    unfold S_sheet_Sheet_Rename_J1
    refine ⟨_, _, ⟨E3.cM 6 rfl (i := 0) rfl, E3.cM 6 rfl (i := 1) rfl, trivial⟩, ?_⟩
    refine sputG_wp (f := (getS l d a).1) (E3.tM 6) R Rd o fun v1 r1 h17 R1 E5 => ?_
    exact sputG_wp (f := f0) E5 R R1 (o.up (o.good a)) fun v2 r2 h19 R2 E6 => Fin.of (by rw [ha] at *; exact hQ v2 r2 _ R2 E6)
  · have hd : renS l d a b = d := by unfold renS; rw [if_neg (by rw [hi]; simp)]
    rw [hd] at hQ
    exact hQ _ _ _ Rd (E3.tM 6)
end
end Go.Proofs.YtgldgabefiialaaGreat.H
namespace Go.Proofs.YtgldgabefiialaaGreat.H
open Go Go.RowKit
set_option linter.unusedVariables false
set_option maxRecDepth 100000
structure SCall where
  k : Int
  a : Int
  b : Int
  c : UInt8
def SCall.cells (x : SCall) : List Value := [.int .i64 x.k, .int .i64 x.a, .int .i64 x.b, .int .u8 ((x.c.toNat : Nat) : Int)]
theorem SCall.len (x : SCall) : x.cells.length = 4 := rfl
theorem u8_of {z : Int} (h : (Lit.int .u8 z).wf = true) : ∃ c : UInt8, z = ((c.toNat : Nat) : Int) := by
  have h1 : 0 ≤ z ∧ z ≤ 255 := by simpa [Lit.wf, IntKind.min, IntKind.max, IntKind.signed, IntKind.bits] using h
  refine ⟨UInt8.ofNat z.toNat, ?_⟩
  have h2 : z.toNat % 2 ^ 8 = z.toNat := Nat.mod_eq_of_lt (by omega)
  rw [UInt8.toNat_ofNat', h2]; omega
def opD (l : FL) (d : DFL) (x : SCall) : DFL :=
  if x.k = 0 then upS l d x.a (putF (getS l d x.a).1 x.b x.c)
  else if x.k = 1 then upS l d x.a (cutF (getS l d x.a).1 x.b)
  else if x.k = 2 then upS l d x.a (true, (getS l d x.a).1.2)
  else if x.k = 3 then upS l d x.a f0
  else if x.k = 4 then renS l d x.a x.b
  else d
theorem SOk.op {l : FL} {d : DFL} (o : SOk l d) (x : SCall) : SOk l (opD l d x) := by
  unfold opD
  split
  · exact o.up (goodF_put (o.good x.a) _ _)
  · split
    · exact o.up (goodF_cut (o.good x.a) _)
    · split
      · exact o.up (f := (true, (getS l d x.a).1.2)) (goodF_make (f := (getS l d x.a).1) (o.good x.a))
      · split
        · exact o.up rfl
        · split
          · exact o.ren _ _
          · exact o
def opsD (l : FL) (d : DFL) (xs : List SCall) : DFL := xs.foldl (opD l) d
theorem SOk.ops {l : FL} {d : DFL} (o : SOk l d) : ∀ xs : List SCall, SOk l (opsD l d xs) := by
  intro xs
  induction xs generalizing d with
  | nil => exact o
  | cons x xs ih => exact ih (o.op x)
section
variable {B : RO} {h0 h h' : Heap} {L : List (Option (Nat × AObj))} {r rd : Option (Nat × AObj)} {v vd : Value} {l z : FL} {d : DFL} {n : Int} {x : ShI} {f : FileS} {q kd : Nat}
end
end Go.Proofs.YtgldgabefiialaaGreat.H
namespace Go.Proofs.YtgldgabefiialaaGreat.H
open Go Go.RowKit
set_option linter.unusedVariables false
set_option maxRecDepth 100000
def apD (ver : Int) (l : FL) (d : DFL) : FL := d.foldl (fun l x => setF l x.1 x.2.1 x.2.2 ver) l
theorem apD_len (ver : Int) : ∀ (d : DFL) (l : FL), (apD ver l d).length = l.length := by
  intro d
  induction d with
  | nil => intro l; rfl
  | cons x d ih => intro l; exact (ih _).trans (setF_len _ _ _ _ _)
theorem apD_take {ver : Int} {l : FL} {d : DFL} {j : Nat} {x : Int × FileS} (h : d[j]? = some x) : apD ver l (d.take (j + 1)) = setF (apD ver l (d.take j)) x.1 x.2.1 x.2.2 ver := by
  obtain ⟨h1, rfl⟩ := List.getElem?_eq_some_iff.1 h
  rw [List.take_succ_eq_append_getElem h1, apD, List.foldl_append]; rfl
section
variable {B : RO} {h0 h h' : Heap} {L : List (Option (Nat × AObj))} {r rd : Option (Nat × AObj)} {v vd : Value} {l z : FL} {d : DFL} {n ver : Int} {x : ShI} {f : FileS} {q kd c : Nat} {a : Option Addr} {xs : List SCall}
def ShI.w (x : ShI) (r : Option (Nat × AObj)) : ShI := { x with rt := r }
theorem sdraft_wp {Q : Option Addr → Heap → Prop} (E : Keep B h0 (L ++ x.m vd rd) h) (hQ : Q (some ⟨x.kf, 0, none⟩) h) : C_sheet_Sheet_Draft B (some ⟨x.ks, 0, none⟩) h Q := by
  refine C_sheet_Sheet_Draft.of ?_
  unfold S_sheet_Sheet_Draft
  exact ⟨fun e => (by cases e), fun _ => ⟨_, rfl, _, E.cM 3 rfl (i := 0) rfl, Fin.of hQ⟩⟩
theorem sover_wp {Q : Int → Heap → Prop} (E : Keep B h0 (L ++ x.m vd rd) h) (R : FRow x.rt x.vt l) (Rd : DRow_file_File rd vd d) (o : SOk l d)
    (hQ : ∀ r' h', FRow r' x.vt (apD ver l d) → Keep B h0 (L ++ (x.w r').m vd rd) h' → Q (d.length : Nat) h') : C_sheet_Sheet_Over B (some ⟨x.ks, 0, none⟩) (some ⟨x.kT, 0, none⟩) ver h Q := by
  have hl := o.len
  refine C_sheet_Sheet_Over.of ?_
  unfold S_sheet_Sheet_Over
  intro k5 a5 b5 h6 e6 k7 a7 b7 h8 e8 k9 a9 b9 h10 e10
  have E1 := ((E.nM a5 b5 e6).nM a7 b7 e8).nM a9 b9 e10
  refine ⟨_, storeH_vec (E1.gM 8 rfl) rfl, ?_⟩
  have E2 := E1.pM (o' := .vec TY.int (plains [.int .i64 0]) 1) 8 rfl
  refine sdraft_wp (x := x) (vd := vd) (rd := rd) (L := L) (E2.tM 6) (fdall_wp fun kc ac bc => ?_)
  have E3 := E2.nM (o := .vec TY.p_draft_Draft_file_File [.plain (.pointer (some ⟨x.kf, 0, none⟩))] 1) ac bc rfl
  refine ⟨d, fdG kc x.kf vd rd, fun q h' => ∃ r', q ≤ d.length ∧ FRow r' x.vt (apD ver l (d.take q)) ∧ Keep B h0 (L ++ ((x.w r').m vd rd ++ [some (k5, .vec TY.p_tome_Tome [.plain (.pointer (some ⟨x.kT, 0, none⟩))] 1), some (k7, .vec TY.int [.plain (.int .i64 ver)] 1), some (k9, .vec TY.int (plains [.int .i64 ((q : Nat) : Int)]) 1), some (kc, .vec TY.p_draft_Draft_file_File [.plain (.pointer (some ⟨x.kf, 0, none⟩))] 1)])) h', fdall_iter (k := x.kf) Rd (by omega), fdG_ins, ?_, Fin.of ⟨x.rt, by omega, R, E3⟩, ?_, ?_⟩
  · rintro q h' ⟨r', _, _, E⟩
    exact ⟨E.gM 9 rfl, E.gM 4 rfl, fun k o e => E.gM 5 (by show some rd = _; rw [e])⟩
  · clear E1 E2 E3
    rintro q h20 i16 b17 s18 hg ⟨r1, hq, R1, E⟩
    have hq' := (List.getElem?_eq_some_iff.1 hg).1
    have gx := o.k _ (List.mem_of_getElem? hg)
    simp only at gx
    intro k24 a24 b24 h25 e25
    have E1 := E.nM a24 b24 e25
    refine ⟨_, stores_whole (E1.gM 10 rfl) rfl (by simp) (by simp [isOne]) (by simp), ?_⟩
    have E2 := E1.pM (o' := fO (b17, s18)) 10 rfl
    refine ⟨_, E2.cM 6 rfl (i := 0) rfl, _, _, ⟨E2.cM 10 rfl (i := 0) rfl, E2.cM 10 rfl (i := 1) rfl, trivial⟩, _, E2.cM 7 rfl (i := 0) rfl, ?_⟩
    refine tset_wp (i := L.length) E2 ⟨upM 0 rfl, ⟨upM 1 rfl, upM 2 rfl⟩⟩ R1 fun r2 h31 R2 E3 => ?_
    have hb : setB (apD ver l (d.take q)) i16 b17 s18 = true := by
      unfold setB; rw [gx.2, Bool.true_and, decide_eq_true_eq, apD_len, o.l6]; exact gx.1
    rw [setM] at E3
    rw [hb]
    refine ⟨fun _ => ⟨_, E3.cM 8 rfl (i := 0) rfl, _, storeH_vec (E3.gM 8 rfl) rfl, Fin.of ⟨r2, by omega, ?_, ?_⟩⟩, fun e => by cases e⟩
    · rw [apD_take hg]; exact R2
    · have e1 : IntKind.wrap .i64 (((q : Nat) : Int) + 1) = ((q + 1 : Nat) : Int) := by rw [w64 (by omega) (by omega)]; omega
      have E4 := (E3.pM (o' := .vec TY.int (plains [.int .i64 (IntKind.wrap .i64 (((q : Nat) : Int) + 1))]) 1) 8 rfl).tM 10
      rw [e1] at E4 ⊢
      exact E4
  · rintro h20 ⟨r1, _, R1, E⟩
    rw [List.take_length] at R1
    exact ⟨_, E.cM 8 rfl (i := 0) rfl, Fin.of (hQ r1 _ R1 (E.tM 6))⟩
end
end Go.Proofs.YtgldgabefiialaaGreat.H
namespace Go.Proofs.YtgldgabefiialaaGreat.H
open Go Go.RowKit
set_option linter.unusedVariables false
set_option maxRecDepth 100000
structure VI where
  kV : Nat
  kC : Nat
  kT : Nat
  kR : Nat
  vt : Value
  rt : Option (Nat × AObj)
  kF : Nat
  kP : Nat
structure VV where
  c : List (Int × Int)
  f : FL
  ts : List ByteArray
  l : List (Int × Int)
  t : Int
def viewO (x : VI) (t : Int) : AObj := .vec TY.attempt_View (plains [.pointer (some ⟨x.kC, 0, none⟩), .pointer (some ⟨x.kT, 0, none⟩), .pointer (some ⟨x.kF, 0, none⟩), .int .i64 t]) 4
def VI.e (x : VI) (v : VV) : List (Option (Nat × AObj)) := [some (x.kV, viewO x v.t), some (x.kC, rowO_int v.c), some (x.kT, tomO x.kR), some (x.kR, frO x.vt), x.rt, some (x.kF, feedO v.ts x.kP), some (x.kP, rowO_int v.l)]
structure VOk (x : VI) (v : VV) : Prop where
  r : FRow x.rt x.vt v.f
  c8 : v.c.length = 8
  f : TomeOk v.f
  k : FeedOk v.ts v.l
def VAt (L : List (Option (Nat × AObj))) (i : Nat) (x : VI) (v : VV) : Prop := ∀ j, j < 7 → L[i + j]? = (x.e v)[j]?
theorem VAt.mk {L R : List (Option (Nat × AObj))} {x : VI} {v : VV} : VAt (L ++ (x.e v ++ R)) L.length x v := fun j hj => by
  rw [List.getElem?_append_right (by omega), Nat.add_sub_cancel_left, List.getElem?_append_left (by exact hj)]
theorem VAt.app {L M : List (Option (Nat × AObj))} {i : Nat} {x : VI} {v : VV} (A : VAt L i x v) : VAt (L ++ M) i x v := fun j hj => by
  have h1 : (x.e v)[j]? = some ((x.e v)[j]'hj) := List.getElem?_eq_getElem hj
  rw [h1]
  exact up_app _ ((A j hj).trans h1)
def vz : VV := ⟨List.replicate 8 (0, 0), List.replicate 6 ((false, ByteArray.empty), 0), ts0, fl0, 0⟩
def verOf (v : VV) (k i : Int) : Int := if k = 0 then (cellAt_int v.c i).2 else if k = 1 then (fileAt v.f i).2 else if k = 2 then (cellAt_int v.l i).2 else 0
def cV (v : VV) (i : Int) : Value := .int .i64 (cellAt_int v.c i).2
def fV (v : VV) (i : Int) : Value := .int .i64 (fileAt v.f i).2
def lV (v : VV) (i : Int) : Value := .int .i64 (cellAt_int v.l i).2
def nowF (v : VV) : List Value := [cV v 0, cV v 1, cV v 2, cV v 3, cV v 4, cV v 5, cV v 6, cV v 7, fV v 0, fV v 1, fV v 2, fV v 3, fV v 4, fV v 5, .int .i64 0, .int .i64 0, lV v 0, lV v 1, lV v 2, .int .i64 0, .int .i64 0, .int .i64 0, .int .i64 0, .int .i64 0, .int .i64 v.t]
def nowZ (t : Int) : List Value := List.replicate 24 (.int .i64 0) ++ [.int .i64 t]
def cT (v : VV) (i : Int) : Value := .int .i64 (cellAt_int v.c i).1
def fT (v : VV) (i : Int) : Value := .bool (fileAt v.f i).1.1
def sT (v : VV) (i : Int) : Value := .string (fileAt v.f i).1.2
def lT (v : VV) (i : Int) : Value := .int .i64 (cellAt_int v.l i).1
def thF (v : VV) : List Value := [cT v 0, cT v 1, cT v 2, cT v 3, cT v 4, cT v 5, cT v 6, cT v 7, fT v 0, sT v 0, fT v 1, sT v 1, fT v 2, sT v 2, fT v 3, sT v 3, fT v 4, sT v 4, fT v 5, sT v 5, lT v 0, lT v 1, lT v 2]
def thZ : List Value := List.replicate 8 (.int .i64 0) ++ [.bool false, .string ByteArray.empty, .bool false, .string ByteArray.empty, .bool false, .string ByteArray.empty, .bool false, .string ByteArray.empty, .bool false, .string ByteArray.empty, .bool false, .string ByteArray.empty] ++ List.replicate 3 (.int .i64 0)
def txF (ts : List ByteArray) : List Value := [.string (textAt ts 0), .string (textAt ts 1), .string (textAt ts 2)]
def txZ : List Value := [.string ByteArray.empty, .string ByteArray.empty, .string ByteArray.empty]
theorem now_c {v : VV} {j : Nat} (h : j < 8) : (nowF v)[j]? = some (.int .i64 (cellAt_int v.c (j : Nat)).2) := match j, h with
  | 0, _ | 1, _ | 2, _ | 3, _ | 4, _ | 5, _ | 6, _ | 7, _ => rfl
  | n + 8, h => absurd h (by omega)
theorem now_f {v : VV} {j : Nat} (h : j < 6) : (nowF v)[8 + j]? = some (.int .i64 (fileAt v.f (j : Nat)).2) := match j, h with
  | 0, _ | 1, _ | 2, _ | 3, _ | 4, _ | 5, _ => rfl
  | n + 6, h => absurd h (by omega)
theorem now_l {v : VV} {j : Nat} (h : j < 3) : (nowF v)[16 + j]? = some (.int .i64 (cellAt_int v.l (j : Nat)).2) := match j, h with
  | 0, _ | 1, _ | 2, _ => rfl
  | n + 3, h => absurd h (by omega)
theorem th_c {v : VV} {j : Nat} (h : j < 8) : (thF v)[j]? = some (.int .i64 (cellAt_int v.c (j : Nat)).1) := match j, h with
  | 0, _ | 1, _ | 2, _ | 3, _ | 4, _ | 5, _ | 6, _ | 7, _ => rfl
  | n + 8, h => absurd h (by omega)
theorem th_f {v : VV} {j : Nat} (h : j < 6) : (thF v)[8 + j * 2]? = some (.bool (fileAt v.f (j : Nat)).1.1) ∧ (thF v)[8 + j * 2 + 1]? = some (.string (fileAt v.f (j : Nat)).1.2) := match j, h with
  | 0, _ | 1, _ | 2, _ | 3, _ | 4, _ | 5, _ => ⟨rfl, rfl⟩
  | n + 6, h => absurd h (by omega)
theorem th_l {v : VV} {j : Nat} (h : j < 3) : (thF v)[20 + j]? = some (.int .i64 (cellAt_int v.l (j : Nat)).1) := match j, h with
  | 0, _ | 1, _ | 2, _ => rfl
  | n + 3, h => absurd h (by omega)
theorem tx_at {ts : List ByteArray} {j : Nat} (h : j < 3) : (txF ts)[j]? = some (.string (textAt ts (j : Nat))) := match j, h with
  | 0, _ | 1, _ | 2, _ => rfl
  | n + 3, h => absurd h (by omega)
def part (F Z : List Value) (m : Nat) : List Value := F.take m ++ Z.drop m
theorem wrapS {j : Nat} (h : j < 1000000000) : IntKind.wrap .i64 ((j : Int) + 1) = ((j + 1 : Nat) : Int) := by rw [w64 (by omega) (by omega)]; omega
section
variable {B : RO} {h0 h h' : Heap} {L M : List (Option (Nat × AObj))} {i k n : Nat} {t : TypeId} {x : VI} {v : VV}
theorem Keep.fillN {F Z : List Value} {m : Nat} (E : Keep B h0 (L ++ M) h) (p : Nat) (hp : M[p]? = some (some (k, .vec t (plains (part F Z m)) n))) (hl : F.length = Z.length) (ys : List Value) (hy : (F.drop m).take ys.length = ys) (hm : m + ys.length ≤ F.length) (hn : F.length ≤ n) (ho : ∀ y ∈ ys, isOne y = true) {a : Addr} (ha : a = ⟨k, m, none⟩) :
    ∃ h', StoresAt a h 0 ys h' ∧ Keep B h0 (L ++ M.set p (some (k, .vec t (plains (part F Z (m + ys.length))) n))) h' := by
  subst ha
  obtain ⟨h', s1, E1⟩ := E.vM (fs := F.take m) (gs := Z.drop m) p hp ys ho m (by rw [List.length_take]; omega) (by omega)
  refine ⟨h', s1, ?_⟩
  have e1 : F.take m ++ ys ++ (Z.drop m).drop ys.length = part F Z (m + ys.length) := by
    unfold part
    rw [List.drop_drop, List.take_add, hy]
  rw [e1] at E1
  exact E1
theorem Keep.fill1 {F Z : List Value} {m : Nat} {y : Value} (E : Keep B h0 (L ++ M) h) (p : Nat) (hp : M[p]? = some (some (k, .vec t (plains (part F Z m)) n))) (hl : F.length = Z.length) (hF : F[m]? = some y) (hn : F.length ≤ n) (ho : isOne y = true) {a : Addr} (ha : a = ⟨k, m, none⟩) :
    ∃ h', storeH h a y = some h' ∧ Keep B h0 (L ++ M.set p (some (k, .vec t (plains (part F Z (m + 1))) n))) h' := by
  obtain ⟨hm, hg⟩ := List.getElem?_eq_some_iff.1 hF
  obtain ⟨h', ⟨_, w, e1, e2⟩, E1⟩ := E.fillN p hp hl [y] (by rw [List.drop_eq_getElem_cons hm, hg]; rfl) (by simp; omega) hn (by simpa using ho) ha
  obtain rfl : h' = w := e2
  exact ⟨h', e1, E1⟩
theorem Keep.allM {F : List Value} (E : Keep B h0 (L ++ M) h) (p : Nat) (hp : M[p]? = some (some (k, .vec t (plains F) n))) : CellsAt B h ⟨k, 0, none⟩ 0 F :=
  CellsAt.of_vec F 0 (E.gM p hp) fun j y hj => by rw [plains_get, show 0 + 0 + j = j by omega, hj]; rfl
theorem VAt.at {k : Nat} {o : AObj} (A : VAt L i x v) (E : Keep B h0 L h) (j : Nat) (hj : j < 7) (e : (x.e v)[j]? = some (some (k, o))) : h k = some o := E.at (i + j) ((A j hj).trans e)
theorem VAt.tome (A : VAt L i x v) : TomeAt L (i + 2) x.kT x.kR x.vt x.rt := ⟨A 2 (by decide), ⟨A 3 (by decide), A 4 (by decide)⟩⟩
theorem now_wp {Q : List Value → Heap → Prop} (E : Keep B h0 L h) (A : VAt L i x v) (o : VOk x v) (hQ : ∀ h', Keep B h0 L h' → Q (nowF v) h') : C_attempt_View_Now B (some ⟨x.kV, 0, none⟩) h Q := by
  refine C_attempt_View_Now.of ?_
  unfold S_attempt_View_Now
  intro k3 a3 b3 h4 e4
  have E1 := E.start.nM a3 b3 e4
  refine ⟨fun e => (by cases e), fun _ => ⟨_, rfl, v.t, cellH_vec (A.app.at E1 0 (by decide) rfl) rfl, ?_⟩⟩
  intro k11 a11 b11 h12 e12
  have E2 := E1.nM a11 b11 e12
  refine ⟨_, stores_whole (E2.gM 1 rfl) rfl (by simp) (by simp [isOne]) (by simp), ?_⟩
  have E3 := E2.pM (o' := .vec TY.reads_Now (plains (part (nowF v) (nowZ v.t) 0)) 25) 1 rfl
  let J (b : Nat) (j : Nat) (h : Heap) : Prop := Keep B h0 (L ++ [some (k3, .vec TY.reads_Now (plains (List.replicate 25 (.int .i64 0))) 25), some (k11, .vec TY.reads_Now (plains (part (nowF v) (nowZ v.t) (b + j))) 25)]) h
  refine ⟨fun q m h' => ∃ j : Nat, j ≤ 8 ∧ q = j ∧ m = 8 - j ∧ J 0 j h', 8, Fin.of ⟨0, by omega, rfl, rfl, E3⟩, ?_⟩
  clear E1 E2 E3 e4 e12
  rintro _ _ h14 ⟨j, hj, rfl, rfl, E4⟩
  have E4 : Keep B h0 (L ++ [some (k3, .vec TY.reads_Now (plains (List.replicate 25 (.int .i64 0))) 25), some (k11, .vec TY.reads_Now (plains (part (nowF v) (nowZ v.t) (0 + j))) 25)]) h14 := E4
  rw [Nat.zero_add] at E4
  refine ⟨fun hlt => ⟨_, rfl, _, cellH_vec (A.app.at E4 0 (by decide) rfl) rfl, version_wp_int (rowO_int_v (A.app.at E4 1 (by decide) rfl)) ⟨by decide, by decide, by omega, by omega, ?_⟩⟩, fun hge => Fin.of ?_⟩
  · obtain ⟨h5, s, E5⟩ := E4.fill1 1 rfl rfl (now_c (by omega : j < 8)) (Nat.le_refl _) rfl (a := Addr.add ⟨k11, 0, none⟩ (Int.toNat (j : Int) * 1)) (by rw [addr_more]; simp)
    exact ⟨h5, s, Fin.of ⟨8 - (j + 1), by omega, j + 1, by omega, wrapS (by omega), rfl, by show Keep _ _ _ _; rw [Nat.zero_add]; exact E5⟩⟩
  have hj8 : j = 8 := by omega
  subst hj8
  unfold S_attempt_View_Now_J1
  refine ⟨fun q m h' => ∃ j : Nat, j ≤ 6 ∧ q = j ∧ m = 6 - j ∧ J 8 j h', 6, Fin.of ⟨0, by omega, rfl, rfl, E4⟩, ?_⟩
  clear E4
  rintro _ _ h14 ⟨j, hj, rfl, rfl, E4⟩
  have E4 : Keep B h0 (L ++ [some (k3, .vec TY.reads_Now (plains (List.replicate 25 (.int .i64 0))) 25), some (k11, .vec TY.reads_Now (plains (part (nowF v) (nowZ v.t) (8 + j))) 25)]) h14 := E4
  refine ⟨fun hlt => ⟨_, rfl, _, cellH_vec (A.app.at E4 0 (by decide) rfl) rfl, tget_wp E4 A.app.tome o.r ?_⟩, fun hge => Fin.of ?_⟩
  · intro h43 E5
    refine ⟨by decide, by decide, by omega, by omega, ?_⟩
    obtain ⟨h5, s, E6⟩ := E5.fill1 1 rfl rfl (now_f (by omega : j < 6)) (Nat.le_refl _) rfl (a := Addr.add ⟨k11, 8, none⟩ (Int.toNat (j : Int) * 1)) (by rw [addr_more]; simp)
    exact ⟨h5, s, Fin.of ⟨6 - (j + 1), by omega, j + 1, by omega, wrapS (by omega), rfl, E6⟩⟩
  have hj8 : j = 6 := by omega
  subst hj8
  unfold S_attempt_View_Now_J2
  refine ⟨fun q m h' => ∃ j : Nat, j ≤ 3 ∧ q = j ∧ m = 3 - j ∧ J 16 j h', 3, Fin.of ⟨0, by omega, rfl, rfl, E4⟩, ?_⟩
  clear E4
  rintro _ _ h14 ⟨j, hj, rfl, rfl, E4⟩
  have E4 : Keep B h0 (L ++ [some (k3, .vec TY.reads_Now (plains (List.replicate 25 (.int .i64 0))) 25), some (k11, .vec TY.reads_Now (plains (part (nowF v) (nowZ v.t) (16 + j))) 25)]) h14 := E4
  refine ⟨fun hlt => ⟨_, rfl, _, cellH_vec (A.app.at E4 0 (by decide) rfl) rfl, feed_place_wp o.k.t3 (A.app.at E4 5 (by decide) rfl) (A.app.at E4 6 (by decide) rfl) ?_⟩, fun hge => ?_⟩
  · refine ⟨by decide, by decide, by omega, by omega, ?_⟩
    obtain ⟨h5, s, E6⟩ := E4.fill1 1 rfl rfl (now_l (by omega : j < 3)) (Nat.le_refl _) rfl (a := Addr.add ⟨k11, 16, none⟩ (Int.toNat (j : Int) * 1)) (by rw [addr_more]; simp)
    exact ⟨h5, s, Fin.of ⟨3 - (j + 1), by omega, j + 1, by omega, wrapS (by omega), rfl, E6⟩⟩
  have hj8 : j = 3 := by omega
  subst hj8
  have E5 : Keep B h0 (L ++ [some (k3, .vec TY.reads_Now (plains (List.replicate 25 (.int .i64 0))) 25), some (k11, .vec TY.reads_Now (plains (nowF v)) 25)]) h14 := E4
  refine ⟨nowF v, rfl, E5.allM 1 rfl, rfl, _, stores_whole (E5.gM 0 rfl) rfl (Nat.le_refl _) (by simp [nowF, isOne, cV, fV, lV]) (by simp [nowF]), ?_⟩
  have E6 := E5.pM (o' := .vec TY.reads_Now (plains (nowF v)) 25) 0 rfl
  exact ⟨nowF v, rfl, E6.allM 0 rfl, Fin.of (hQ _ E6.zM)⟩
theorem newview_wp {Q : Option Addr → Heap → Prop} (hQ : ∀ x h', VOk x vz → Keep B h (x.e vz) h' → Q (some ⟨x.kV, 0, none⟩) h') : C_attempt_NewView B h Q := by
  refine C_attempt_NewView.of ?_
  unfold S_attempt_NewView
  refine new_wp_int (by decide) fun kC a b => ?_
  have E := (Keep.nil B h).new (o := rowO_int (List.replicate 8 (0, 0))) a b
  refine tnew_wp fun kT kR v r h4 R E1 => ?_
  have E2 := E.append E1
  refine feed_new_wp fun kP kF h1 h2 aP bP e1 aF bF e2 => ?_
  have E3 := (E2.made aP bP e1).made aF bF e2
  intro k8 a8 b8 h9 e9
  have E4 := E3.made a8 b8 e9
  exact Fin.of (hQ ⟨k8, kC, kT, kR, v, r, kF, kP⟩ _ ⟨R, rfl, TomeOk.zero, FeedOk.zero⟩ (E4.picks [6, 0, 1, 2, 3, 5, 4] (by decide)))
theorem things_wp {Q : List Value → ByteArray → ByteArray → ByteArray → Heap → Prop} (E : Keep B h0 L h) (A : VAt L i x v) (o : VOk x v) (hQ : ∀ h', Keep B h0 L h' → Q (thF v) (textAt v.ts 0) (textAt v.ts 1) (textAt v.ts 2) h') : C_countermandlaw20_things B (some ⟨x.kV, 0, none⟩) h Q := by
  refine C_countermandlaw20_things.of ?_
  unfold S_countermandlaw20_things
  intro k6 a6 b6 h7 e7 k8 a8 b8 h9 e9 k10 a10 b10 h11 e11 k12 a12 b12 h13 e13
  have E1 := (((E.start.nM a6 b6 e7).nM a8 b8 e9).nM a10 b10 e11).nM a12 b12 e13
  let M (b j : Nat) : List (Option (Nat × AObj)) := [some (k6, .vec TY.countermandref20_Things (plains thZ) 23), some (k8, .vec TY.a_3_string (plains txZ) 3), some (k10, .vec TY.countermandref20_Things (plains (part (thF v) thZ b)) 23), some (k12, .vec TY.a_3_string (plains (part (txF v.ts) txZ j)) 3)]
  have E1 : Keep B h0 (L ++ M 0 0) h13 := E1
  refine ⟨fun q m h' => ∃ j : Nat, j ≤ 8 ∧ q = j ∧ m = 8 - j ∧ Keep B h0 (L ++ M j 0) h', 8, Fin.of ⟨0, by omega, rfl, rfl, E1⟩, ?_⟩
  clear E1 e7 e9 e11 e13
  rintro _ _ h14 ⟨j, hj, rfl, rfl, E4⟩
  refine ⟨fun hlt => ⟨_, rfl, _, cellH_vec (A.app.at E4 0 (by decide) rfl) rfl, get_wp_int (rowO_int_v (A.app.at E4 1 (by decide) rfl)) ⟨by omega, by omega, ?_⟩⟩, fun hge => Fin.of ?_⟩
  · obtain ⟨h5, s, E5⟩ := E4.fill1 2 rfl rfl (th_c (by omega : j < 8)) (Nat.le_refl _) rfl (a := Addr.add ⟨k10, 0, none⟩ (Int.toNat (j : Int) * 1)) (by rw [addr_more]; simp)
    exact ⟨h5, s, Fin.of ⟨8 - (j + 1), by omega, j + 1, by omega, wrapS (by omega), rfl, E5⟩⟩
  have hj8 : j = 8 := by omega
  subst hj8
  unfold S_countermandlaw20_things_J1
  refine ⟨fun q m h' => ∃ j : Nat, j ≤ 6 ∧ q = j ∧ m = 6 - j ∧ Keep B h0 (L ++ M (8 + j * 2) 0) h', 6, Fin.of ⟨0, by omega, rfl, rfl, E4⟩, ?_⟩
  clear E4
  rintro _ _ h14 ⟨j, hj, rfl, rfl, E4⟩
  refine ⟨fun hlt => ⟨_, rfl, _, cellH_vec (A.app.at E4 0 (by decide) rfl) rfl, tget_wp E4 A.app.tome o.r ?_⟩, fun hge => Fin.of ?_⟩
  · intro h43 E5 k64 a64 b64 h65 e65
    have E6 := E5.nM a64 b64 e65
    refine ⟨_, stores_whole (E6.gM 4 rfl) rfl (by simp) (by simp [isOne]) (by simp), ?_⟩
    have E7 := E6.pM (o' := .vec TY.file_File (plains [.bool (fileAt v.f (j : Nat)).1.1, .string (fileAt v.f (j : Nat)).1.2]) 2) 4 rfl
    refine ⟨_, _, ⟨E7.cM 4 rfl (i := 0) rfl, E7.cM 4 rfl (i := 1) rfl, trivial⟩, by omega, by omega, ?_⟩
    have hf := th_f (v := v) (by omega : j < 6)
    obtain ⟨h5, s, E8⟩ := (E7.tM 4).fillN (F := thF v) (Z := thZ) (m := 8 + j * 2) 2 rfl rfl [.bool (fileAt v.f (j : Nat)).1.1, .string (fileAt v.f (j : Nat)).1.2] (by
      obtain ⟨l1, g1⟩ := List.getElem?_eq_some_iff.1 hf.1
      obtain ⟨l2, g2⟩ := List.getElem?_eq_some_iff.1 hf.2
      rw [List.drop_eq_getElem_cons l1, g1, List.drop_eq_getElem_cons l2, g2]; rfl) (by show 8 + j * 2 + 2 ≤ 23; omega) (Nat.le_refl _) (by simp [isOne]) (a := Addr.add ⟨k10, 8, none⟩ (Int.toNat (j : Int) * 2)) (by rw [addr_more]; simp)
    refine ⟨h5, s, Fin.of ⟨6 - (j + 1), by omega, j + 1, by omega, wrapS (by omega), rfl, ?_⟩⟩
    rw [show 8 + (j + 1) * 2 = 8 + j * 2 + 2 by omega]; exact E8
  have hj8 : j = 6 := by omega
  subst hj8
  unfold S_countermandlaw20_things_J2
  refine ⟨fun q m h' => ∃ j : Nat, j ≤ 3 ∧ q = j ∧ m = 3 - j ∧ Keep B h0 (L ++ M (20 + j) j) h', 3, Fin.of ⟨0, by omega, rfl, rfl, E4⟩, ?_⟩
  clear E4
  rintro _ _ h14 ⟨j, hj, rfl, rfl, E4⟩
  refine ⟨fun hlt => ⟨_, rfl, _, cellH_vec (A.app.at E4 0 (by decide) rfl) rfl, feed_place_wp o.k.t3 (A.app.at E4 5 (by decide) rfl) (A.app.at E4 6 (by decide) rfl) ?_⟩, fun hge => ?_⟩
  · refine ⟨by omega, by omega, ?_⟩
    obtain ⟨h5, s, E6⟩ := E4.fill1 2 rfl rfl (th_l (by omega : j < 3)) (Nat.le_refl _) rfl (a := Addr.add ⟨k10, 20, none⟩ (Int.toNat (j : Int) * 1)) (by rw [addr_more]; simp)
    refine ⟨h5, s, _, rfl, _, cellH_vec (A.app.at E6 0 (by decide) rfl) rfl, feed_text_wp o.k.t3 (A.app.at E6 5 (by decide) rfl) ⟨by omega, by omega, ?_⟩⟩
    obtain ⟨h6, s, E7⟩ := E6.fill1 3 rfl rfl (tx_at (by omega : j < 3)) (Nat.le_refl _) rfl (a := Addr.add ⟨k12, 0, none⟩ (Int.toNat (j : Int) * 1)) (by rw [addr_more]; simp)
    exact ⟨h6, s, Fin.of ⟨3 - (j + 1), by omega, j + 1, by omega, wrapS (by omega), rfl, E7⟩⟩
  have hj8 : j = 3 := by omega
  subst hj8
  have E5 : Keep B h0 (L ++ [some (k6, .vec TY.countermandref20_Things (plains thZ) 23), some (k8, .vec TY.a_3_string (plains txZ) 3), some (k10, .vec TY.countermandref20_Things (plains (thF v)) 23), some (k12, .vec TY.a_3_string (plains (txF v.ts)) 3)]) h14 := E4
  have c1 := E5.allM 3 rfl
  refine ⟨thF v, rfl, E5.allM 2 rfl, _, _, _, c1, rfl, _, stores_whole (E5.gM 0 rfl) rfl (by simp [thF]) (by simp [thF, isOne, cT, fT, sT, lT]) (by simp [thF]), ?_⟩
  have E6 := E5.pM (o' := .vec TY.countermandref20_Things (plains (thF v)) 23) 0 rfl
  refine ⟨E6.allM 2 rfl, E6.allM 3 rfl, _, stores_whole (E6.gM 1 rfl) rfl (by simp) (by simp [isOne]) (by simp), ?_⟩
  have E7 := E6.pM (o' := .vec TY.a_3_string (plains (txF v.ts)) 3) 1 rfl
  exact ⟨thF v, rfl, E7.allM 0 rfl, _, _, _, E7.allM 1 rfl, Fin.of (hQ _ E7.zM)⟩
end
end Go.Proofs.YtgldgabefiialaaGreat.H
namespace Go.Proofs.YtgldgabefiialaaGreat.H
open Go Go.RowKit
set_option linter.unusedVariables false
set_option maxRecDepth 100000
abbrev RE := Int × Int × Int
def enR (e : RE) : List Value := [.int .i64 e.1, .int .i64 e.2.1, .int .i64 e.2.2]
theorem enR_len (e : RE) : (enR e).length = 3 := rfl
theorem enR_one (e : RE) : ∀ y ∈ enR e, isOne y = true := fun y hy => by simp [enR] at hy; rcases hy with rfl | rfl | rfl <;> rfl
theorem TK.slc_re : slcB PG TY.s_reads_Entry = some (TY.reads_Entry, 3, 24) := by kernel_rfl
theorem TK.zero_re : zeroB PG TY.reads_Entry = some [.int .i64 0, .int .i64 0, .int .i64 0] := by kernel_rfl
theorem TK.sl_re : slT PG TY.s_reads_Entry = true := by kernel_rfl
def ERow (r : Option (Nat × AObj)) (v : Value) (l : List RE) : Prop := Row r v TY.reads_Entry 3 (l.flatMap enR)
def rsO (v : Value) (st : Int) : AObj := .vec TY.reads_Set (plains [v, .int .i64 st]) 2
structure RdAt (L : List (Option (Nat × AObj))) (i k : Nat) (v : Value) (st : Int) (r : Option (Nat × AObj)) : Prop where
  p : L[i]? = some (some (k, rsO v st))
  q : L[i + 1]? = some r
structure V3 (v : VV) : Prop where
  c8 : v.c.length = 8
  f6 : v.f.length = 6
  l3 : v.l.length = 3
theorem VOk.v3 {x : VI} {v : VV} (o : VOk x v) : V3 v := ⟨o.c8, o.f.n6, o.k.l3⟩
def vld (v : VV) (rs : List RE) : Bool := rs.all fun e => decide (verOf v e.1 e.2.1 = e.2.2)
def fE (rs : List RE) (k i : Int) : Option Int := (rs.find? fun e => decide (e.1 = k ∧ e.2.1 = i)).map fun e => e.2.2
def noteA (v : VV) (rs : List RE) (st k i : Int) : Bool × List RE × Int := match fE rs k i with
  | some w => (w == verOf v k i, rs, st)
  | none => if verOf v k i > st then (if vld v rs = true then (true, rs ++ [(k, i, verOf v k i)], v.t) else (false, rs, st)) else (true, rs ++ [(k, i, verOf v k i)], st)
theorem noteA_len (v : VV) (rs : List RE) (st k i : Int) : (noteA v rs st k i).2.1.length ≤ rs.length + 1 := by
  unfold noteA; split
  · simp
  · split
    · split <;> simp
    · simp
theorem verOf_out {v : VV} (o : V3 v) {k i : Int} (h : ¬ (0 ≤ k ∧ k ≤ 2 ∧ 0 ≤ i ∧ i < 8)) : verOf v k i = 0 := by
  unfold verOf
  split
  · rw [cellAt_int_out (by rw [o.c8]; omega)]
  · split
    · rw [fileAt_out (by rw [o.f6]; omega)]
    · split
      · rw [cellAt_int_out (by rw [o.l3]; omega)]
      · rfl
theorem now_ver {v : VV} (o : V3 v) {k i : Nat} (hk : k ≤ 2) (hi : i < 8) : (nowF v)[k * 8 + i]? = some (.int .i64 (verOf v (k : Int) (i : Int))) := by
  have hc : k = 0 ∨ k = 1 ∨ k = 2 := by omega
  rcases hc with rfl | rfl | rfl
  · rw [Nat.zero_mul, Nat.zero_add, now_c hi]; rfl
  · by_cases h6 : i < 6
    · rw [Nat.one_mul, now_f h6]; rfl
    · have : verOf v ((1 : Nat) : Int) (i : Int) = 0 := by
        show (fileAt v.f (i : Int)).2 = 0
        rw [fileAt_out (by rw [o.f6]; omega)]
      rw [this]
      have h2 : i = 6 ∨ i = 7 := by omega
      rcases h2 with rfl | rfl <;> rfl
  · by_cases h3 : i < 3
    · rw [show 2 * 8 + i = 16 + i by omega, now_l h3]; rfl
    · have : verOf v ((2 : Nat) : Int) (i : Int) = 0 := by
        show (cellAt_int v.l (i : Int)).2 = 0
        rw [cellAt_int_out (by rw [o.l3]; omega)]
      rw [this]
      have h2 : i = 3 ∨ i = 4 ∨ i = 5 ∨ i = 6 ∨ i = 7 := by omega
      rcases h2 with rfl | rfl | rfl | rfl | rfl <;> rfl
section
variable {B : RO} {h0 h h' : Heap} {L M : List (Option (Nat × AObj))} {j kS : Nat} {vS : Value} {st : Int} {r : Option (Nat × AObj)} {rs : List RE} {v : VV} {k i : Int}
theorem nof_wp {Q : Int → Heap → Prop} (o : V3 v) (hQ : Q (verOf v k i) h) : C_reads_Now_Of B (nowF v) k i h Q := by
  refine C_reads_Now_Of.of ?_
  unfold S_reads_Now_Of
  intro k5 a5 b5 h6 e6
  have E := (Keep.nil B h).made a5 b5 e6
  have out : ¬ (0 ≤ k ∧ k ≤ 2 ∧ 0 ≤ i ∧ i < 8) → Fin B h6 (Q 0) := fun hn => by
    rw [verOf_out o hn] at hQ
    exact Fin.ent E.back (Fin.of hQ)
  refine ⟨fun h1 => out (by omega), fun h1 => ⟨fun h2 => out (by omega), fun h2 => ⟨fun h3 => out (by omega), fun h3 => ⟨fun h4 => out (by omega), fun h4 => Fin.of ?_⟩⟩⟩⟩
  unfold S_reads_Now_Of_J1
  obtain ⟨k, rfl⟩ := Int.eq_ofNat_of_zero_le (by omega : 0 ≤ k)
  obtain ⟨i, rfl⟩ := Int.eq_ofNat_of_zero_le (by omega : 0 ≤ i)
  refine ⟨by omega, by omega, by omega, by omega, _, ?_, Fin.ent E.back (Fin.of hQ)⟩
  rw [addr_more, addr_more]
  refine cellH_vec (E.at 0 rfl) ?_
  rw [plains_get, show 0 + Int.toNat (k : Int) * 8 + Int.toNat (i : Int) * 1 = k * 8 + i by simp, now_ver o (by omega) (by omega)]; rfl
theorem ERow.len {a : Option Addr} {m c : Nat} (R : ERow r (.slice a m c) rs) : m = rs.length := (Row.rd (B := fun _ => none) R enR_len (by omega)).1
theorem valid_wp {Q : Bool → Heap → Prop} (E : Keep B h0 L h) (A : RdAt L j kS vS st r) (R : ERow r vS rs) (hl : rs.length ≤ 100000) (o : V3 v) (hQ : ∀ h', Keep B h0 L h' → Q (vld v rs) h') : C_reads_Set_Valid B (some ⟨kS, 0, none⟩) (nowF v) h Q := by
  refine C_reads_Set_Valid.of ?_
  unfold S_reads_Set_Valid
  intro k4 a4 b4 h5 e5
  have E1 := E.start.nM a4 b4 e5
  obtain ⟨a, m, c, rfl⟩ := Row.slice R
  obtain rfl := ERow.len R
  obtain ⟨_, rd⟩ := Row.rd (B := B) R enR_len (by omega)
  refine ⟨fun e => (by cases e), fun _ => ⟨_, rfl, .inl ⟨a, _, c, E1.cell j (up_app _ A.p) rfl, ?_⟩⟩⟩
  refine ⟨fun q m h' => ∃ p : Nat, p ≤ rs.length ∧ q = p ∧ m = rs.length - p ∧ vld v (rs.take p) = true ∧ Keep B h0 (L ++ [some (k4, .vec TY.reads_Now (plains (nowF v)) 25)]) h', rs.length, Fin.of ⟨0, by omega, rfl, rfl, rfl, E1⟩, ?_⟩
  clear E1 e5
  rintro _ _ h14 ⟨p, hp, rfl, rfl, hv, E2⟩
  refine ⟨fun hlt => ?_, fun hge => Fin.of ?_⟩
  · have hpl : p < rs.length := by omega
    have hx := List.getElem?_eq_getElem hpl
    have htk : vld v (rs.take (p + 1)) = (vld v (rs.take p) && decide (verOf v rs[p].1 rs[p].2.1 = rs[p].2.2)) := by
      unfold vld; rw [List.take_succ_eq_append_getElem hpl, List.all_append]; simp
    have hall : ¬ verOf v rs[p].1 rs[p].2.1 = rs[p].2.2 → vld v rs = false := fun hn => by
      unfold vld; rw [List.all_eq_false]; exact ⟨rs[p], List.getElem_mem _, by simp [hn]⟩
    generalize rs[p] = x at hx htk hall
    obtain ⟨A', f1, _, f2⟩ := rd h14 (fun k o e => E2.at (j + 1) (by rw [up_app _ A.q, e])) p x hx
    refine ⟨A', f1, by omega, by omega, x.1, x.2.1, x.2.2, f2, fun k24 a24 b24 h25 e25 => ?_⟩
    have E3 := E2.nM a24 b24 e25
    refine ⟨_, stores_whole (E3.gM 1 rfl) rfl (by simp) (by simp [isOne]) (by simp), ?_⟩
    have E4 := E3.pM (o' := .vec TY.reads_Entry (plains [.int .i64 x.1, .int .i64 x.2.1, .int .i64 x.2.2]) 3) 1 rfl
    refine ⟨nowF v, rfl, E4.allM 0 rfl, _, E4.cM 1 rfl (i := 0) rfl, _, E4.cM 1 rfl (i := 1) rfl, _, E4.cM 1 rfl (i := 2) rfl, nof_wp o ⟨E4.allM 0 rfl, E4.cM 1 rfl (i := 0) rfl, E4.cM 1 rfl (i := 1) rfl, E4.cM 1 rfl (i := 2) rfl, fun he => Fin.of ?_, fun hn => Fin.of ?_⟩⟩
    · exact ⟨rs.length - (p + 1), by omega, p + 1, by omega, wrapS (by omega), rfl, by rw [htk, hv, he]; simp, E4.tM 1⟩
    · rw [← hall hn]; exact hQ _ E4.zM
  · have : p = rs.length := by omega
    subst this
    rw [List.take_length] at hv
    rw [← hv]; exact hQ _ E2.zM
theorem fE_none : fE rs k i = none ↔ ∀ e ∈ rs, ¬ (e.1 = k ∧ e.2.1 = i) := by
  unfold fE; rw [Option.map_eq_none_iff, List.find?_eq_none]; simp
theorem fE_at {p : Nat} {e : RE} (hp : rs[p]? = some e) (hm : e.1 = k ∧ e.2.1 = i) (hn : ∀ q e', q < p → rs[q]? = some e' → ¬ (e'.1 = k ∧ e'.2.1 = i)) : fE rs k i = some e.2.2 := by
  obtain ⟨hl, rfl⟩ := List.getElem?_eq_some_iff.1 hp
  have hs : rs = rs.take p ++ rs[p] :: rs.drop (p + 1) := by rw [← List.drop_eq_getElem_cons hl, List.take_append_drop]
  unfold fE
  generalize rs[p] = x at *
  rw [hs, List.find?_append, List.find?_eq_none.2 (fun e' he' => by
    obtain ⟨q, hq, rfl⟩ := List.mem_iff_getElem.1 he'
    rw [List.length_take] at hq
    rw [List.getElem_take]
    have := hn q rs[q] (by omega) (List.getElem?_eq_getElem (by omega))
    simpa using this)]
  rw [Option.none_or, List.find?_cons_of_pos (by simpa using hm)]; rfl
theorem place1_wp {e : RE} {a b : Addr} {Q : Bool → Heap → Prop} (c1 : cellH B h a = some (.int .i64 k)) (c2 : cellH B h b = some (.int .i64 i)) (hQ : ∀ h', Keep B h [] h' → Q (decide (e.1 = k ∧ e.2.1 = i)) h') : C_reads_Set_place_1 B e.1 e.2.1 e.2.2 a b h Q := by
  refine C_reads_Set_place_1.of ?_
  unfold S_reads_Set_place_1
  intro k7 a7 b7 h8 e8
  have E := (Keep.nil B h).made a7 b7 e8
  have w := E.w
  refine ⟨_, E.cell 0 rfl rfl, k, w.cell c1, fun he => ⟨_, E.cell 0 rfl rfl, i, w.cell c2, Fin.of ?_⟩, fun hn => Fin.of ?_⟩
  · have : (e.2.1 == i) = decide (e.1 = k ∧ e.2.1 = i) := by
      rw [Bool.eq_iff_iff]; simp [he]
    rw [this]; exact hQ _ E.pop
  · have := hQ _ E.pop
    rw [decide_eq_false (by simp [hn])] at this; exact this
theorem place_wp {Q : Int → Heap → Prop} (E : Keep B h0 L h) (A : RdAt L j kS vS st r) (R : ERow r vS rs) (hl : rs.length ≤ 100000) (hS : ∀ p e h', rs[p]? = some e → fE rs k i = some e.2.2 → Keep B h0 L h' → Q (p : Nat) h') (hN : fE rs k i = none → ∀ h', Keep B h0 L h' → Q (-1) h') : C_reads_Set_place B (some ⟨kS, 0, none⟩) k i h Q := by
  refine C_reads_Set_place.of ?_
  unfold S_reads_Set_place
  intro k5 a5 b5 h6 e6 k7 a7 b7 h8 e8
  have E1 := (E.start.nM a5 b5 e6).nM a7 b7 e8
  obtain ⟨a, m, c, rfl⟩ := Row.slice R
  obtain rfl := ERow.len R
  obtain ⟨_, rd⟩ := Row.rd (B := B) R enR_len (by omega)
  refine ⟨_, rfl, .inl ⟨a, _, c, E1.cell j (up_app _ A.p) rfl, ?_⟩⟩
  refine C_slices_IndexFunc_s_reads_Entry_reads_Entry.of ?_
  unfold S_slices_IndexFunc_s_reads_Entry_reads_Entry
  refine ⟨fun q m h' => ∃ p : Nat, p ≤ rs.length ∧ q = p ∧ m = rs.length - p ∧ (∀ q e, q < p → rs[q]? = some e → ¬ (e.1 = k ∧ e.2.1 = i)) ∧ Keep B h0 (L ++ [some (k5, .vec TY.reads_Kind (plains [.int .i64 k]) 1), some (k7, .vec TY.int (plains [.int .i64 i]) 1)]) h', rs.length, Fin.of ⟨0, by omega, rfl, rfl, fun q e hq => by omega, E1⟩, ?_⟩
  clear E1 e6 e8
  rintro _ _ h14 ⟨p, hp, rfl, rfl, hv, E2⟩
  refine ⟨fun hlt => ?_, fun hge => Fin.of (Fin.of ?_)⟩
  · have hpl : p < rs.length := by omega
    have hx := List.getElem?_eq_getElem hpl
    generalize rs[p] = x at hx
    obtain ⟨A', f1, _, f2⟩ := rd h14 (fun k o e => E2.at (j + 1) (by rw [up_app _ A.q, e])) p x hx
    refine ⟨A', f1, by omega, by omega, x.1, x.2.1, x.2.2, f2, CallV.func TG.reads_Set_place_1 (place1_wp (e := x) (E2.cM 0 rfl (i := 0) rfl) (E2.cM 1 rfl (i := 0) rfl) fun h17 E3 => ⟨fun hT => Fin.of (Fin.of ?_), fun hF => Fin.of ?_⟩)⟩
    · rw [decide_eq_true_eq] at hT
      exact hS p x h17 hx (fE_at hx hT hv) (E2.wk E3.w).zM
    · rw [decide_eq_false_iff_not] at hF
      refine ⟨rs.length - (p + 1), by omega, p + 1, by omega, wrapS (by omega), rfl, fun q e hq hg => ?_, E2.wk E3.w⟩
      by_cases he : q = p
      · subst he; rw [hx] at hg; cases hg; exact hF
      · exact hv q e (by omega) hg
  · refine hN (fE_none.2 fun e he => ?_) _ E2.zM
    obtain ⟨q, hq, rfl⟩ := List.mem_iff_getElem.1 he
    exact hv q _ (by omega) (List.getElem?_eq_getElem hq)
theorem set_self {q : Nat} {y : Option (Nat × AObj)} (h : L[q]? = some y) : L.set q y = L := by
  obtain ⟨_, h2⟩ := List.getElem?_eq_some_iff.1 h
  rw [← h2, List.set_getElem_self]
theorem Note_J1 {Q : Bool → Heap → Prop} (E : Keep B h0 L h) (A : RdAt L j kS vS st r) (R : ERow r vS rs) (hl : rs.length ≤ 100000) {w : Int} (hQ : ∀ vS' r' h', ERow r' vS' (rs ++ [(k, i, w)]) → Keep B h0 ((L.set j (some (kS, rsO vS' st))).set (j + 1) r') h' → Q true h') : S_reads_Set_Note_J1 B (some ⟨kS, 0, none⟩) k i w h Q := by
  unfold S_reads_Set_Note_J1
  obtain ⟨a, m, c, rfl⟩ := Row.slice R
  obtain rfl := ERow.len R
  have hj := (List.getElem?_eq_some_iff.1 A.p).1
  have hj1 := (List.getElem?_eq_some_iff.1 A.q).1
  have hfl := flatMap_length enR_len rs
  refine ⟨_, rfl, .inl ⟨a, _, c, E.cell j A.p rfl, fun k31 a31 b31 h32 e32 => ?_⟩⟩
  have E1 := E.made a31 b31 e32
  have g := E1.last
  refine E1.pushS (j + 1) (n := 1) (ys := enR (k, i, w)) (up_app _ A.q) R TK.slc_re TK.zero_re rfl (by omega) (by omega) TK.sl_re ⟨rfl, enR_one _, .inl ⟨_, _, rfl, CellsAt.of_vec (enR (k, i, w)) 0 g fun q y hy => by rw [show 0 + 0 + q = q by omega]; exact plains_get_some hy⟩⟩ (by rw [hfl, enR_len]; omega) fun a' m' c' r' h61 R' E2 => ?_
  rw [List.set_append_left _ _ hj1] at E2
  have hp : (L.set (j + 1) r' ++ [some (k31, AObj.vec TY.reads_Entry (plains (enR (k, i, w))) 3)])[j]? = some (some (kS, rsO (.slice a rs.length c) st)) := up_app _ (by rw [List.getElem?_set_ne (by omega)]; exact A.p)
  obtain ⟨es, E3⟩ := E2.store j 0 (.slice a' m' c') hp rfl
  refine ⟨a', m', c', rfl, _, rfl, _, es, Fin.of (hQ (.slice a' m' c') r' _ ?_ ?_)⟩
  · unfold ERow; rw [List.flatMap_append]; simpa using R'
  · rw [List.set_append_left _ _ (by rw [List.length_set]; omega), List.set_comm _ _ (by omega)] at E3
    exact E3.popL
theorem rnote_wp {Q : Bool → Heap → Prop} (E : Keep B h0 L h) (A : RdAt L j kS vS st r) (R : ERow r vS rs) (hl : rs.length ≤ 90000) (o : V3 v)
    (hQ : ∀ vS' r' h', ERow r' vS' (noteA v rs st k i).2.1 → Keep B h0 ((L.set j (some (kS, rsO vS' (noteA v rs st k i).2.2))).set (j + 1) r') h' → Q (noteA v rs st k i).1 h') : C_reads_Set_Note B (some ⟨kS, 0, none⟩) (nowF v) k i h Q := by
  refine C_reads_Set_Note.of ?_
  unfold S_reads_Set_Note
  have hj := (List.getElem?_eq_some_iff.1 A.p).1
  have hj1 := (List.getElem?_eq_some_iff.1 A.q).1
  intro k6 a6 b6 h7 e7
  have E1 := E.start.nM a6 b6 e7
  refine ⟨fun e => (by cases e), fun _ => ⟨nowF v, rfl, E1.allM 0 rfl, nof_wp o ?_⟩⟩
  have A1 : ∀ {y : Option (Nat × AObj)}, RdAt (L ++ [y]) j kS vS st r := ⟨up_app _ A.p, up_app _ A.q⟩
  have same : ∀ h', Keep B h0 L h' → Keep B h0 ((L.set j (some (kS, rsO vS st))).set (j + 1) r) h' := fun h' E => by
    rw [set_self A.p, set_self A.q]; exact E
  obtain ⟨_, rd⟩ : ∃ u : Unit, ∀ a m c, vS = .slice a m c → m = rs.length ∧ RowRd B r a 3 enR rs := ⟨(), fun a m c e => by subst e; exact Row.rd (B := B) R enR_len (by omega)⟩
  refine place_wp E1 A1 R (by omega) (fun p e h12 hp hf E2 => ⟨fun _ => ?_, fun hn => by omega⟩) (fun hf h12 E2 => ⟨fun hn => by omega, fun _ => ?_⟩)
  · obtain ⟨a, m, c, rfl⟩ := Row.slice R
    obtain ⟨hm, rd⟩ := rd a m c rfl
    obtain ⟨A', f1, _, f2⟩ := rd h12 (fun k o e => E2.at (j + 1) (by rw [up_app _ A.q, e])) p e hp
    have hpl := (List.getElem?_eq_some_iff.1 hp).1
    have hc : cellH B h12 (Addr.add (Addr.add A' (Int.toNat (p : Int) * 3)) 2) = some (.int .i64 e.2.2) := by rw [Int.toNat_natCast]; exact f2.2.2.1
    refine ⟨_, rfl, .inl ⟨a, m, c, E2.cell j (up_app _ A.p) rfl, A', f1, by omega, by omega, _, hc, Fin.of ?_⟩⟩
    have h1 : noteA v rs st k i = (e.2.2 == verOf v k i, rs, st) := by unfold noteA; rw [hf]
    rw [h1] at hQ
    exact hQ _ r _ R (same _ E2.zM)
  · refine ⟨_, rfl, st, E2.cell j (up_app _ A.p) rfl, fun hgt => ⟨nowF v, rfl, E2.allM 0 rfl, valid_wp E2 A1 R (by omega) o fun h44 E3 => ⟨fun hT => ?_, fun hF => Fin.of ?_⟩⟩, fun hle => Fin.of ?_⟩
    · have h1 : noteA v rs st k i = (true, rs ++ [(k, i, verOf v k i)], v.t) := by unfold noteA; rw [hf]; simp only; rw [if_pos hgt, if_pos hT]
      rw [h1] at hQ
      obtain ⟨es, E4⟩ := E3.store j 1 (.int .i64 v.t) (up_app _ A.p) rfl
      refine ⟨v.t, cellH_vec (E3.gM 0 rfl) rfl, _, rfl, _, es, Fin.of ?_⟩
      rw [List.set_append_left _ _ hj] at E4
      refine Note_J1 (E4.zM) (st := v.t) ⟨List.getElem?_set_self hj, by rw [List.getElem?_set_ne (by omega)]; exact A.q⟩ R (by omega) fun vS' r' h' R' E5 => hQ vS' r' h' R' (by rw [List.set_set] at E5; exact E5)
    · have h1 : noteA v rs st k i = (false, rs, st) := by unfold noteA; rw [hf]; simp only; rw [if_pos hgt, if_neg (by rw [hF]; simp)]
      rw [h1] at hQ
      exact hQ _ r _ R (same _ E3.zM)
    · have h1 : noteA v rs st k i = (true, rs ++ [(k, i, verOf v k i)], st) := by unfold noteA; rw [hf]; simp only; rw [if_neg (fun h => hle h)]
      rw [h1] at hQ
      exact Note_J1 E2.zM A R (by omega) hQ
end
end Go.Proofs.YtgldgabefiialaaGreat.H
namespace Go.Proofs.YtgldgabefiialaaGreat.H
open Go Go.RowKit
set_option linter.unusedVariables false
set_option maxRecDepth 100000
def StV.cr (s : StV) (i : Int) : Int := if i = 0 then s.c0 else if i = 1 then s.c1 else if i = 2 then s.c2 else 0
def StV.step (s : StV) (i : Int) : StV := if i = 0 then { s with c0 := s.c0 + 1 } else if i = 1 then { s with c1 := s.c1 + 1 } else if i = 2 then { s with c2 := s.c2 + 1 } else s
theorem StV.step_cr (s : StV) {i j : Int} (hi : 0 ≤ i ∧ i < 3) : (s.step i).cr j = if j = i then s.cr i + 1 else s.cr j := by
  have hc : i = 0 ∨ i = 1 ∨ i = 2 := by omega
  rcases hc with rfl | rfl | rfl
  · show StV.cr { s with c0 := s.c0 + 1 } j = if j = 0 then s.c0 + 1 else s.cr j
    unfold StV.cr; by_cases h : j = 0 <;> simp [h]
  · show StV.cr { s with c1 := s.c1 + 1 } j = if j = 1 then s.c1 + 1 else s.cr j
    unfold StV.cr; by_cases h : j = 1
    · subst h; rfl
    · simp [h]
  · show StV.cr { s with c2 := s.c2 + 1 } j = if j = 2 then s.c2 + 1 else s.cr j
    unfold StV.cr; by_cases h : j = 2
    · subst h; rfl
    · simp [h]
theorem StV.step_d (s : StV) (i : Int) : (s.step i).d = s.d ∧ (s.step i).f = s.f := by
  unfold StV.step; (repeat' split) <;> exact ⟨rfl, rfl⟩
structure AK where
  kA : Nat
  kS : Nat
  kX : Nat
  kK : Nat
structure AU where
  vS : Value
  rS : Option (Nat × AObj)
  x : StI
structure AV where
  rs : List RE
  st : Int
  s : StV
  g : Reg4
def attO (V : VI) (K : AK) (x : StI) (g : Reg4) : AObj := .vec TY.attempt_Attempt (plains [.pointer (some ⟨V.kV, 0, none⟩), .pointer (some ⟨K.kS, 0, none⟩), .pointer (some ⟨x.kd, 0, none⟩), .pointer (some ⟨x.ks, 0, none⟩), .pointer (some ⟨x.kc, 0, none⟩), .int .i64 g.a, .int .i64 g.b, .int .i64 g.c, .int .i64 g.d, .pointer (some ⟨K.kX, 0, none⟩), .pointer (some ⟨K.kK, 0, none⟩)]) 11
def AE (V : VI) (K : AK) (U : AU) (s : AV) : List (Option (Nat × AObj)) := [some (K.kA, attO V K U.x s.g), some (K.kS, rsO U.vS s.st), U.rS, some (U.x.kd, drO_int U.x.vd), U.x.rd, some (U.x.ks, shtO U.x.kf), some (U.x.kf, drO_file_File U.x.vf), U.x.rf, some (U.x.kc, curO s.s)]
structure AOk (v : VV) (s : AV) : Prop where
  so : SOk v.f s.s.f
  sd : SortD s.s.d
  dk : ∀ x ∈ s.s.d, 0 ≤ x.1 ∧ x.1 < 8
  cr : ∀ i, 0 ≤ s.s.cr i ∧ s.s.cr i ≤ 64
theorem sort_lenN {W : Type} (n : Nat) : ∀ (d : List (Int × W)) (a : Nat), SortD d → (∀ x ∈ d, (a : Int) ≤ x.1 ∧ x.1 < n) → d.length ≤ n - a := by
  intro d
  induction d with
  | nil => intro a _ _; simp
  | cons x d ih =>
    intro a s h
    obtain ⟨h1, h2⟩ := h x (by simp)
    obtain ⟨s1, s2⟩ := List.pairwise_cons.1 s
    have := ih (a + 1) s2 (fun y hy => ⟨by have := s1 y hy; omega, (h y (by simp [hy])).2⟩)
    simp only [List.length_cons]; omega
theorem AOk.dlen {v : VV} {s : AV} (o : AOk v s) : s.s.d.length ≤ 8 := sort_lenN 8 s.s.d 0 o.sd fun x hx => o.dk x hx
structure SS (B : RO) (h0 : Heap) (L : List (Option (Nat × AObj))) (h : Heap) (V : VI) (v : VV) (K : AK) (U : AU) (s : AV) : Prop where
  E : Keep B h0 (L ++ (V.e v ++ AE V K U s)) h
  o : VOk V v
  R : ERow U.rS U.vS s.rs
  O : U.x.Ok s.s
  a : AOk v s
def s0 (v : VV) (g : Reg4) : AV := ⟨[], v.t, StV.z, g⟩
theorem SOk.nil {l : FL} (k : TomeOk l) : SOk l [] := ⟨List.Pairwise.nil, fun x hx => (by cases hx), k.n6, k.good⟩
theorem AOk.zero {v : VV} {V : VI} (o : VOk V v) {g : Reg4} : AOk v (s0 v g) := ⟨SOk.nil o.f, List.Pairwise.nil, fun x hx => (by cases hx), fun i => by simp only [s0, StV.z, StV.cr]; (repeat' split) <;> omega⟩
section
variable {B : RO} {h0 h h' : Heap} {L M : List (Option (Nat × AObj))} {V : VI} {v : VV} {K : AK} {U : AU} {s : AV} {k : Nat} {i j : Int} {c : StV} {g : Reg4}
theorem cur_cell (hk : h k = some (curO c)) (hi : 0 ≤ i ∧ i < 3) : cellH B h (Addr.add ⟨k, 0, none⟩ (Int.toNat i * 1)) = some (.int .i64 (c.cr i)) := by
  rw [addr_more]
  have hc : i = 0 ∨ i = 1 ∨ i = 2 := by omega
  rcases hc with rfl | rfl | rfl <;> exact cellH_vec hk rfl
theorem pis_wp {n : Int} {Q : Bool → Heap → Prop} (hQ : Q (decide (0 ≤ n ∧ n < 3)) h) : C_cursor_is B n h Q := by
  refine C_cursor_is.of ?_
  unfold S_cursor_is
  refine ⟨fun h1 => Fin.of ?_, fun h1 => Fin.of ?_⟩
  · have : decide (0 ≤ n ∧ n < 3) = decide (n < 3) := by simp; omega
    rw [this] at hQ; exact hQ
  · rw [decide_eq_false (by omega)] at hQ; exact hQ
theorem cread_wp {Q : Int → Heap → Prop} (hk : h k = some (curO c)) (hi : 0 ≤ i ∧ i < 3) (hQ : Q (c.cr i) h) : C_cursor_Cursor_Read B (some ⟨k, 0, none⟩) i h Q := by
  refine C_cursor_Cursor_Read.of ?_
  unfold S_cursor_Cursor_Read
  refine ⟨fun e => (by cases e), fun _ => pis_wp ⟨fun _ => Fin.of ?_, fun e => absurd e (by simp; omega)⟩⟩
  unfold S_cursor_Cursor_Read_J1
  exact ⟨_, rfl, by omega, by omega, _, cur_cell hk hi, Fin.of hQ⟩
theorem cat_wp {p : Int} {Q : Int → Heap → Prop} (hk : h k = some (curO c)) (hi : 0 ≤ i ∧ i < 3) (hQ : Q (IntKind.wrap .i64 (p + c.cr i)) h) : C_cursor_Cursor_At B (some ⟨k, 0, none⟩) i p h Q := by
  refine C_cursor_Cursor_At.of ?_
  unfold S_cursor_Cursor_At
  refine ⟨fun e => (by cases e), fun _ => pis_wp ⟨fun _ => Fin.of ?_, fun e => absurd e (by simp; omega)⟩⟩
  unfold S_cursor_Cursor_At_J1
  exact ⟨_, rfl, by omega, by omega, _, cur_cell hk hi, Fin.of hQ⟩
theorem cstep_wp {q : Nat} {Q : Bool → Heap → Prop} (E : Keep B h0 L h) (hq : L[q]? = some (some (k, curO c))) (hi : 0 ≤ i ∧ i < 3) (hc : 0 ≤ c.cr i ∧ c.cr i < 64) (hQ : ∀ h', Keep B h0 (L.set q (some (k, curO (c.step i)))) h' → Q true h') : C_cursor_Cursor_Step B (some ⟨k, 0, none⟩) i h Q := by
  refine C_cursor_Cursor_Step.of ?_
  unfold S_cursor_Cursor_Step
  have hk := E.at q hq
  refine ⟨fun e => (by cases e), fun _ => pis_wp ⟨fun _ => ⟨_, rfl, by omega, by omega, _, cur_cell hk hi, fun hg => by omega, fun hl => Fin.of ?_⟩, fun e => absurd e (by simp; omega)⟩⟩
  unfold S_cursor_Cursor_Step_J1
  have hw : IntKind.wrap .i64 (c.cr i + 1) = c.cr i + 1 := w64 (by omega) (by omega)
  refine ⟨_, rfl, by omega, by omega, _, cur_cell hk hi, _, rfl, by omega, by omega, ?_⟩
  rw [hw, addr_more]
  have h3 : i = 0 ∨ i = 1 ∨ i = 2 := by omega
  rcases h3 with rfl | rfl | rfl
  · obtain ⟨es, E1⟩ := E.store q 0 (.int .i64 (c.cr 0 + 1)) hq rfl
    exact ⟨_, es, Fin.of (hQ _ E1)⟩
  · obtain ⟨es, E1⟩ := E.store q 1 (.int .i64 (c.cr 1 + 1)) hq rfl
    exact ⟨_, es, Fin.of (hQ _ E1)⟩
  · obtain ⟨es, E1⟩ := E.store q 2 (.int .i64 (c.cr 2 + 1)) hq rfl
    exact ⟨_, es, Fin.of (hQ _ E1)⟩
theorem rnew_wp {st : Int} {Q : Option Addr → Heap → Prop} (hQ : ∀ k, h k = none → B k = none → Q (some ⟨k, 0, none⟩) (h.set k (rsO (.slice none 0 0) st))) : C_reads_New B st h Q := by
  refine C_reads_New.of ?_
  unfold S_reads_New
  intro k a b h1 e
  subst e
  exact Fin.of (hQ k a b)
theorem Keep.apM {M' : List (Option (Nat × AObj))} (E : Keep B h0 (L ++ M) h) (E' : Keep B h M' h') : Keep B h0 (L ++ (M ++ M')) h' := by
  rw [← List.append_assoc]; exact E.append E'
def acO0 : AObj := .vec TY.acts_Acts (plains [.slice none 0 0, .slice none 0 0, .slice none 0 0, .slice none 0 0]) 4
theorem new_J1 {k7 : Nat} {Q : Option Addr → Heap → Prop} (E0 : Keep B h0 ((L ++ V.e v) ++ [some (k7, .vec TY.api_Regs (plains [.int .i64 g.a, .int .i64 g.b, .int .i64 g.c, .int .i64 g.d]) 4)]) h) (o : VOk V v)
    (hQ : ∀ K U h', SS B h0 (L ++ [some (K.kX, acO0), some (K.kK, skO (.slice none 0 0))]) h' V v K U (s0 v g) → Q (some ⟨K.kA, 0, none⟩) h') : S_attempt_New_J1 B k7 (some ⟨V.kV, 0, none⟩) h Q := by
  have pr : ∀ {M : List (Option (Nat × AObj))} {h1 : Heap}, Keep B h0 ((L ++ V.e v) ++ (some (k7, .vec TY.api_Regs (plains [.int .i64 g.a, .int .i64 g.b, .int .i64 g.c, .int .i64 g.d]) 4) :: M)) h1 → cellH B h1 (Addr.add ⟨V.kV, 0, none⟩ 3) = some (.int .i64 v.t) ∧ CellsAt B h1 ⟨k7, 0, none⟩ 0 [.int .i64 g.a, .int .i64 g.b, .int .i64 g.c, .int .i64 g.d] := fun {M h1} E => by
    refine ⟨?_, E.cM 0 rfl (i := 0) rfl, E.cM 0 rfl (i := 1) rfl, E.cM 0 rfl (i := 2) rfl, E.cM 0 rfl (i := 3) rfl, trivial⟩
    rw [List.append_assoc] at E
    exact cellH_vec ((VAt.mk (L := L) (x := V) (v := v)).at E 0 (by decide) rfl) rfl
  have fin : ∀ {kS kX kK : Nat} {x : StI} {h1 : Heap}, StI.Ok x StV.z → Keep B h0 ((L ++ V.e v) ++ [some (k7, .vec TY.api_Regs (plains [.int .i64 g.a, .int .i64 g.b, .int .i64 g.c, .int .i64 g.d]) 4), some (kS, rsO (.slice none 0 0) v.t), some (x.kd, drO_int x.vd), x.rd, some (x.ks, shtO x.kf), some (x.kf, drO_file_File x.vf), x.rf, some (x.kc, curO StV.z), some (kX, acO0), some (kK, skO (.slice none 0 0))]) h1 → S_attempt_New_J2 B k7 (some ⟨V.kV, 0, none⟩) ⟨V.kV, 0, none⟩ v.t g.a g.b g.c g.d (some ⟨kS, 0, none⟩) (some ⟨x.kd, 0, none⟩) (some ⟨x.ks, 0, none⟩) (some ⟨x.kc, 0, none⟩) g.a g.b g.c g.d ⟨kX, 0, none⟩ ⟨kK, 0, none⟩ h1 Q := fun {kS kX kK x h1} O E => by
    unfold S_attempt_New_J2
    intro kA a b h2 e2
    have E1 := E.nM a b e2
    refine ⟨(pr E1).1, (pr E1).2, Fin.of (hQ ⟨kA, kS, kX, kK⟩ ⟨.slice none 0 0, none, x⟩ _ ⟨?_, o, Row.nil _ _, O, AOk.zero o⟩)⟩
    rw [List.append_assoc] at E1 ⊢
    exact E1.sM [15, 16, 0, 1, 2, 3, 4, 5, 6, 17, 8, 99, 9, 10, 11, 12, 13, 14] (by decide)
  unfold S_attempt_New_J1
  refine ⟨_, rfl, v.t, (pr E0).1, g.a, g.b, g.c, g.d, (pr E0).2, ?_⟩
  refine ⟨?_, ?_, ?_⟩
  · skip
    refine rnew_wp fun q1 a1 b1 => ?_
    have E1 := E0.nM (o := rsO (.slice none 0 0) v.t) a1 b1 rfl
    refine ⟨(pr E1).1, (pr E1).2, ?_⟩
    refine ⟨?_, ?_, ?_⟩
    · skip
      refine fresh_wp (g := g) fun x2 h2 O2 F2 => ?_
      have E2 := E1.apM F2
      refine ⟨(pr E2).1, (pr E2).2, ?_⟩
      refine ⟨?_, ?_⟩
      · skip
        intro q3 a3 b3 h3 e3
        have E3 := E2.nM a3 b3 e3
        refine ⟨(pr E3).1, (pr E3).2, ?_⟩
        intro q4 a4 b4 h4 e4
        have E4 := E3.nM a4 b4 e4
        refine ⟨(pr E4).1, (pr E4).2, ?_⟩
        exact fin (by assumption) (E4.sM [0, 1, 2, 3, 4, 5, 6, 7, 8, 9] (by decide))
      · skip
        intro q5 a5 b5 h5 e5
        have E5 := E2.nM a5 b5 e5
        refine ⟨(pr E5).1, (pr E5).2, ?_⟩
        intro q6 a6 b6 h6 e6
        have E6 := E5.nM a6 b6 e6
        refine ⟨(pr E6).1, (pr E6).2, ?_⟩
        exact fin (by assumption) (E6.sM [0, 1, 2, 3, 4, 5, 6, 7, 9, 8] (by decide))
    · skip
      intro q7 a7 b7 h7 e7
      have E7 := E1.nM a7 b7 e7
      refine ⟨(pr E7).1, (pr E7).2, ?_⟩
      refine ⟨?_, ?_⟩
      · skip
        refine fresh_wp (g := g) fun x8 h8 O8 F8 => ?_
        have E8 := E7.apM F8
        refine ⟨(pr E8).1, (pr E8).2, ?_⟩
        intro q9 a9 b9 h9 e9
        have E9 := E8.nM a9 b9 e9
        refine ⟨(pr E9).1, (pr E9).2, ?_⟩
        exact fin (by assumption) (E9.sM [0, 1, 3, 4, 5, 6, 7, 8, 2, 9] (by decide))
      · skip
        intro q10 a10 b10 h10 e10
        have E10 := E7.nM a10 b10 e10
        refine ⟨(pr E10).1, (pr E10).2, ?_⟩
        refine fresh_wp (g := g) fun x11 h11 O11 F11 => ?_
        have E11 := E10.apM F11
        refine ⟨(pr E11).1, (pr E11).2, ?_⟩
        exact fin (by assumption) (E11.sM [0, 1, 4, 5, 6, 7, 8, 9, 2, 3] (by decide))
    · skip
      intro q12 a12 b12 h12 e12
      have E12 := E1.nM a12 b12 e12
      refine ⟨(pr E12).1, (pr E12).2, ?_⟩
      refine ⟨?_, ?_⟩
      · skip
        refine fresh_wp (g := g) fun x13 h13 O13 F13 => ?_
        have E13 := E12.apM F13
        refine ⟨(pr E13).1, (pr E13).2, ?_⟩
        intro q14 a14 b14 h14 e14
        have E14 := E13.nM a14 b14 e14
        refine ⟨(pr E14).1, (pr E14).2, ?_⟩
        exact fin (by assumption) (E14.sM [0, 1, 3, 4, 5, 6, 7, 8, 9, 2] (by decide))
      · skip
        intro q15 a15 b15 h15 e15
        have E15 := E12.nM a15 b15 e15
        refine ⟨(pr E15).1, (pr E15).2, ?_⟩
        refine fresh_wp (g := g) fun x16 h16 O16 F16 => ?_
        have E16 := E15.apM F16
        refine ⟨(pr E16).1, (pr E16).2, ?_⟩
        exact fin (by assumption) (E16.sM [0, 1, 4, 5, 6, 7, 8, 9, 3, 2] (by decide))
  · skip
    intro q17 a17 b17 h17 e17
    have E17 := E0.nM a17 b17 e17
    refine ⟨(pr E17).1, (pr E17).2, ?_⟩
    refine ⟨?_, ?_⟩
    · skip
      refine rnew_wp fun q18 a18 b18 => ?_
      have E18 := E17.nM (o := rsO (.slice none 0 0) v.t) a18 b18 rfl
      refine ⟨(pr E18).1, (pr E18).2, ?_⟩
      refine ⟨?_, ?_⟩
      · skip
        refine fresh_wp (g := g) fun x19 h19 O19 F19 => ?_
        have E19 := E18.apM F19
        refine ⟨(pr E19).1, (pr E19).2, ?_⟩
        intro q20 a20 b20 h20 e20
        have E20 := E19.nM a20 b20 e20
        refine ⟨(pr E20).1, (pr E20).2, ?_⟩
        exact fin (by assumption) (E20.sM [0, 2, 3, 4, 5, 6, 7, 8, 1, 9] (by decide))
      · skip
        intro q21 a21 b21 h21 e21
        have E21 := E18.nM a21 b21 e21
        refine ⟨(pr E21).1, (pr E21).2, ?_⟩
        refine fresh_wp (g := g) fun x22 h22 O22 F22 => ?_
        have E22 := E21.apM F22
        refine ⟨(pr E22).1, (pr E22).2, ?_⟩
        exact fin (by assumption) (E22.sM [0, 2, 4, 5, 6, 7, 8, 9, 1, 3] (by decide))
    · skip
      intro q23 a23 b23 h23 e23
      have E23 := E17.nM a23 b23 e23
      refine ⟨(pr E23).1, (pr E23).2, ?_⟩
      refine rnew_wp fun q24 a24 b24 => ?_
      have E24 := E23.nM (o := rsO (.slice none 0 0) v.t) a24 b24 rfl
      refine ⟨(pr E24).1, (pr E24).2, ?_⟩
      refine fresh_wp (g := g) fun x25 h25 O25 F25 => ?_
      have E25 := E24.apM F25
      refine ⟨(pr E25).1, (pr E25).2, ?_⟩
      exact fin (by assumption) (E25.sM [0, 3, 4, 5, 6, 7, 8, 9, 1, 2] (by decide))
  · skip
    intro q26 a26 b26 h26 e26
    have E26 := E0.nM a26 b26 e26
    refine ⟨(pr E26).1, (pr E26).2, ?_⟩
    refine ⟨?_, ?_⟩
    · skip
      refine rnew_wp fun q27 a27 b27 => ?_
      have E27 := E26.nM (o := rsO (.slice none 0 0) v.t) a27 b27 rfl
      refine ⟨(pr E27).1, (pr E27).2, ?_⟩
      refine ⟨?_, ?_⟩
      · skip
        refine fresh_wp (g := g) fun x28 h28 O28 F28 => ?_
        have E28 := E27.apM F28
        refine ⟨(pr E28).1, (pr E28).2, ?_⟩
        intro q29 a29 b29 h29 e29
        have E29 := E28.nM a29 b29 e29
        refine ⟨(pr E29).1, (pr E29).2, ?_⟩
        exact fin (by assumption) (E29.sM [0, 2, 3, 4, 5, 6, 7, 8, 9, 1] (by decide))
      · skip
        intro q30 a30 b30 h30 e30
        have E30 := E27.nM a30 b30 e30
        refine ⟨(pr E30).1, (pr E30).2, ?_⟩
        refine fresh_wp (g := g) fun x31 h31 O31 F31 => ?_
        have E31 := E30.apM F31
        refine ⟨(pr E31).1, (pr E31).2, ?_⟩
        exact fin (by assumption) (E31.sM [0, 2, 4, 5, 6, 7, 8, 9, 3, 1] (by decide))
    · skip
      intro q32 a32 b32 h32 e32
      have E32 := E26.nM a32 b32 e32
      refine ⟨(pr E32).1, (pr E32).2, ?_⟩
      refine rnew_wp fun q33 a33 b33 => ?_
      have E33 := E32.nM (o := rsO (.slice none 0 0) v.t) a33 b33 rfl
      refine ⟨(pr E33).1, (pr E33).2, ?_⟩
      refine fresh_wp (g := g) fun x34 h34 O34 F34 => ?_
      have E34 := E33.apM F34
      refine ⟨(pr E34).1, (pr E34).2, ?_⟩
      exact fin (by assumption) (E34.sM [0, 3, 4, 5, 6, 7, 8, 9, 2, 1] (by decide))
theorem anew_wp {Q : Option Addr → Heap → Prop} (E : Keep B h0 (L ++ V.e v) h) (o : VOk V v)
    (hQ : ∀ K U h', SS B h0 (L ++ [some (K.kX, acO0), some (K.kK, skO (.slice none 0 0))]) h' V v K U (s0 v g) → Q (some ⟨K.kA, 0, none⟩) h') : C_attempt_New B (some ⟨V.kV, 0, none⟩) g.a g.b g.c g.d h Q := by
  refine C_attempt_New.of ?_
  unfold S_attempt_New
  intro k7 a7 b7 h8 e8
  exact ⟨fun e => (by cases e), fun _ => Fin.of (new_J1 (E.made a7 b7 e8) o hQ)⟩
theorem AOk.re {s' : AV} (a : AOk v s) (e : s'.s = s.s) : AOk v s' := ⟨by rw [e]; exact a.so, by rw [e]; exact a.sd, by rw [e]; exact a.dk, by rw [e]; exact a.cr⟩
def noteS (v : VV) (s : AV) (k i : Int) : AV := { s with rs := (noteA v s.rs s.st k i).2.1, st := (noteA v s.rs s.st k i).2.2 }
def noteE (v : VV) (s : AV) (k i : Int) : Int := if (noteA v s.rs s.st k i).1 = true then 0 else 9
theorem anote_wp {k i : Int} {Q : Int → Heap → Prop} (S : SS B h0 L h V v K U s) (hn : s.rs.length ≤ 90000) (hQ : ∀ U' h', U'.x = U.x → SS B h0 L h' V v K U' (noteS v s k i) → Q (noteE v s k i) h') : C_attempt_Attempt_note B (some ⟨K.kA, 0, none⟩) k i h Q := by
  refine C_attempt_Attempt_note.of ?_
  unfold S_attempt_Attempt_note
  refine ⟨_, rfl, _, S.E.cM 7 rfl (i := 1) rfl, _, rfl, _, S.E.cM 7 rfl (i := 0) rfl, now_wp S.E VAt.mk S.o fun h1 E1 => ⟨E1.cM 7 rfl (i := 1) rfl, E1.cM 7 rfl (i := 0) rfl, ?_⟩⟩
  refine rnote_wp (j := L.length + 8) (vS := U.vS) (st := s.st) (r := U.rS) E1 ⟨upM 8 rfl, upM 9 rfl⟩ S.R hn S.o.v3 fun vS' r' h2 R' E2 => ?_
  rw [setM, show L.length + 8 + 1 = L.length + 9 from rfl, setM] at E2
  have S2 : SS B h0 L h2 V v K ⟨vS', r', U.x⟩ (noteS v s k i) := ⟨E2, S.o, R', S.O, S.a.re rfl⟩
  have hq := hQ ⟨vS', r', U.x⟩ _ rfl S2
  unfold noteE at hq
  refine ⟨fun hT => ⟨S2.E.cM 7 rfl (i := 1) rfl, S2.E.cM 7 rfl (i := 0) rfl, Fin.of ?_⟩, fun hF => ⟨S2.E.cM 7 rfl (i := 1) rfl, S2.E.cM 7 rfl (i := 0) rfl, Fin.of ?_⟩⟩
  · rw [if_pos hT] at hq; exact hq
  · rw [if_neg (by rw [hF]; simp)] at hq; exact hq
theorem SS.dat (S : SS B h0 L h V v K U s) : DAt_int (L ++ (V.e v ++ AE V K U s)) (L.length + 10) U.x.kd U.x.vd U.x.rd := ⟨upM 10 rfl, upM 11 rfl⟩
def inC (i : Int) : Bool := decide (0 ≤ i ∧ i < 8)
def loadA (v : VV) (s : AV) (i : Int) : AV × Int × Int :=
  if inC i = true then (match atD s.s.d i with
    | some x => (s, x, 0)
    | none => (noteS v s 0 i, if noteE v s 0 i = 0 then (cellAt_int v.c i).1 else 0, noteE v s 0 i)) else (s, 0, 1)
theorem load_wp {i : Int} {Q : Int → Int → Heap → Prop} (S : SS B h0 L h V v K U s) (hn : s.rs.length ≤ 90000) (hQ : ∀ U' h', U'.x = U.x → SS B h0 L h' V v K U' (loadA v s i).1 → Q (loadA v s i).2.1 (loadA v s i).2.2 h') : C_attempt_Attempt_Load B (some ⟨K.kA, 0, none⟩) i h Q := by
  refine C_attempt_Attempt_Load.of ?_
  unfold S_attempt_Attempt_Load
  have out : inC i = false → Q 0 1 h := fun hn => by
    have e : loadA v s i = (s, 0, 1) := by unfold loadA; rw [hn]; rfl
    rw [e] at hQ; exact hQ U h rfl S
  refine ⟨fun e => (by cases e), fun _ => ⟨fun h1 => Fin.of (out (decide_eq_false (by omega))), fun h1 => ⟨fun h2 => Fin.of (out (decide_eq_false (by omega))), fun h2 => Fin.of ?_⟩⟩⟩
  have hi : inC i = true := decide_eq_true (by omega)
  unfold S_attempt_Attempt_Load_J1
  refine ⟨_, rfl, _, S.E.cM 7 rfl (i := 2) rfl, get_int_wp S.E S.dat S.O.d S.a.sd (by have := S.a.dlen; omega) ?_⟩
  cases hd : atD s.s.d i with
  | some y =>
    have e : loadA v s i = (s, y, 0) := by unfold loadA; rw [if_pos hi, hd]
    rw [e] at hQ
    exact ⟨fun _ => Fin.of (hQ U h rfl S), fun e => by cases e⟩
  | none =>
    have e : loadA v s i = (noteS v s 0 i, if noteE v s 0 i = 0 then (cellAt_int v.c i).1 else 0, noteE v s 0 i) := by unfold loadA; rw [if_pos hi, hd]
    rw [e] at hQ
    refine ⟨fun e => (by cases e), fun _ => anote_wp S hn fun U' h1 e1 S1 => ?_⟩
    have hq := hQ U' h1 e1 S1
    refine ⟨fun h0 => ⟨_, rfl, _, S1.E.cM 7 rfl (i := 0) rfl, _, rfl, _, S1.E.cM 0 rfl (i := 0) rfl, get_wp_int (rowO_int_v (S1.E.gM 1 rfl)) (Fin.of ?_)⟩, fun h0 => Fin.of ?_⟩
    · simp only [h0, if_true] at hq ⊢; exact hq
    · simp only [if_neg h0] at hq; exact hq
def storeA (s : AV) (i x : Int) : AV × Int := if inC i = true then ({ s with s := { s.s with d := insD s.s.d i x } }, 0) else (s, 1)
theorem AOk.store {i x : Int} (a : AOk v s) (hi : inC i = true) : AOk v { s with s := { s.s with d := insD s.s.d i x } } := ⟨a.so, a.sd.ins, fun y hy => by
  rcases insD_mem hy with rfl | hy
  · exact of_decide_eq_true hi
  · exact a.dk y hy, a.cr⟩
theorem store_wp {i x : Int} {Q : Int → Heap → Prop} (S : SS B h0 L h V v K U s) (hQ : ∀ U' h', SS B h0 L h' V v K U' (storeA s i x).1 → Q (storeA s i x).2 h') : C_attempt_Attempt_Store B (some ⟨K.kA, 0, none⟩) i x h Q := by
  refine C_attempt_Attempt_Store.of ?_
  unfold S_attempt_Attempt_Store
  have out : inC i = false → Q 1 h := fun hn => by
    have e : storeA s i x = (s, 1) := by unfold storeA; rw [hn]; rfl
    rw [e] at hQ; exact hQ U h S
  refine ⟨fun e => (by cases e), fun _ => ⟨fun h1 => Fin.of (out (decide_eq_false (by omega))), fun h1 => ⟨fun h2 => Fin.of (out (decide_eq_false (by omega))), fun h2 => Fin.of ?_⟩⟩⟩
  have hi : inC i = true := decide_eq_true (by omega)
  unfold S_attempt_Attempt_Store_J1
  have e : storeA s i x = ({ s with s := { s.s with d := insD s.s.d i x } }, 0) := by unfold storeA; rw [if_pos hi]
  rw [e] at hQ
  refine ⟨_, rfl, _, S.E.cM 7 rfl (i := 2) rfl, put_int_wp S.E S.dat S.O.d S.a.sd (by have := S.a.dlen; omega) fun v' r' h1 R1 E1 => Fin.of ?_⟩
  rw [setM, show L.length + 10 + 1 = L.length + 11 from rfl, setM] at E1
  exact hQ ⟨U.vS, U.rS, { U.x with vd := v', rd := r' }⟩ _ ⟨E1, S.o, S.R, ⟨R1, S.O.f⟩, S.a.store hi⟩
theorem avalid_wp {Q : Bool → Heap → Prop} (S : SS B h0 L h V v K U s) (hn : s.rs.length ≤ 90000) (hQ : ∀ h', SS B h0 L h' V v K U s → Q (vld v s.rs) h') : C_attempt_Attempt_Valid B (some ⟨K.kA, 0, none⟩) h Q := by
  refine C_attempt_Attempt_Valid.of ?_
  unfold S_attempt_Attempt_Valid
  refine ⟨fun e => (by cases e), fun _ => ⟨_, rfl, _, S.E.cM 7 rfl (i := 1) rfl, _, rfl, _, S.E.cM 7 rfl (i := 0) rfl, now_wp S.E VAt.mk S.o fun h1 E1 => ⟨E1.cM 7 rfl (i := 1) rfl, E1.cM 7 rfl (i := 0) rfl, ?_⟩⟩⟩
  refine valid_wp (j := L.length + 8) (vS := U.vS) (st := s.st) (r := U.rS) E1 ⟨upM 8 rfl, upM 9 rfl⟩ S.R (by omega) S.o.v3 fun h2 E2 => ⟨E2.cM 7 rfl (i := 1) rfl, E2.cM 7 rfl (i := 0) rfl, Fin.of (hQ _ ⟨E2, S.o, S.R, S.O, S.a⟩)⟩
def recvA (v : VV) (s : AV) (i : Int) : AV × Int × Int :=
  if 0 ≤ i ∧ i < 3 then (if noteE v s 2 i = 0 then (if atOf v.ts i ((cellAt_int v.l i).1 + s.s.cr i) < 0 then (noteS v s 2 i, 0, 10) else ({ noteS v s 2 i with s := s.s.step i }, atOf v.ts i ((cellAt_int v.l i).1 + s.s.cr i), 0)) else (noteS v s 2 i, 0, noteE v s 2 i)) else (s, 0, 1)
theorem AOk.recv {i : Int} (a : AOk v s) (hi : 0 ≤ i ∧ i < 3) (hc : s.s.cr i < 64) {s' : AV} (e : s'.s = s.s.step i) : AOk v s' := by
  obtain ⟨e1, e2⟩ := StV.step_d s.s i
  refine ⟨by rw [e, e2]; exact a.so, by rw [e, e1]; exact a.sd, by rw [e, e1]; exact a.dk, fun j => ?_⟩
  rw [e, StV.step_cr _ hi]
  split
  · have := a.cr i; omega
  · exact a.cr j
theorem StI.Ok.of {x : StI} {a b : StV} (o : x.Ok a) (e1 : b.d = a.d) (e2 : b.f = a.f) : x.Ok b := ⟨by rw [e1]; exact o.d, by rw [e2]; exact o.f⟩
theorem recv_wp {i : Int} {Q : Int → Int → Heap → Prop} (S : SS B h0 L h V v K U s) (hn : s.rs.length ≤ 90000) (hQ : ∀ U' h', SS B h0 L h' V v K U' (recvA v s i).1 → Q (recvA v s i).2.1 (recvA v s i).2.2 h') : C_attempt_Attempt_Recv B (some ⟨K.kA, 0, none⟩) i h Q := by
  refine C_attempt_Attempt_Recv.of ?_
  unfold S_attempt_Attempt_Recv
  have out : ¬ (0 ≤ i ∧ i < 3) → Q 0 1 h := fun hn => by
    have e : recvA v s i = (s, 0, 1) := by unfold recvA; rw [if_neg hn]
    rw [e] at hQ; exact hQ U h S
  refine ⟨fun e => (by cases e), fun _ => ⟨fun h1 => Fin.of (out (by omega)), fun h1 => ⟨fun h2 => Fin.of (out (by omega)), fun h2 => Fin.of ?_⟩⟩⟩
  have hi : 0 ≤ i ∧ i < 3 := by omega
  unfold S_attempt_Attempt_Recv_J1
  refine anote_wp S hn fun U' h1 e1 S1 => ⟨fun h0 => ?_, fun h0 => Fin.of ?_⟩
  · refine ⟨_, rfl, _, S1.E.cM 7 rfl (i := 0) rfl, _, rfl, _, S1.E.cM 0 rfl (i := 2) rfl, feed_place_wp S.o.k.t3 (S1.E.gM 5 rfl) (S1.E.gM 6 rfl) ?_⟩
    refine ⟨_, rfl, _, S1.E.cM 7 rfl (i := 0) rfl, _, rfl, _, S1.E.cM 0 rfl (i := 2) rfl, _, rfl, _, S1.E.cM 7 rfl (i := 4) rfl, ?_⟩
    refine cat_wp (c := s.s) (S1.E.gM 15 rfl) hi ⟨S1.E.cM 7 rfl (i := 0) rfl, S1.E.cM 0 rfl (i := 2) rfl, S1.E.cM 7 rfl (i := 4) rfl, ?_⟩
    have hp := S.o.k.place i
    have hs := S.o.k.size i
    have hc := S.a.cr i
    rw [w64 (by omega) (by omega)]
    refine feed_at_wp S.o.k.t3 (S1.E.gM 5 rfl) ⟨S1.E.cM 7 rfl (i := 0) rfl, S1.E.cM 0 rfl (i := 2) rfl, S1.E.cM 7 rfl (i := 4) rfl, fun hlt => Fin.of ?_, fun hge => ?_⟩
    · have e : recvA v s i = (noteS v s 2 i, 0, 10) := by unfold recvA; rw [if_pos hi, if_pos h0, if_pos hlt]
      rw [e] at hQ; exact hQ _ _ S1
    · have e : recvA v s i = ({ noteS v s 2 i with s := s.s.step i }, atOf v.ts i ((cellAt_int v.l i).1 + s.s.cr i), 0) := by unfold recvA; rw [if_pos hi, if_pos h0, if_neg hge]
      rw [e] at hQ
      have hlt : s.s.cr i < 64 := by
        unfold atOf at hge
        split at hge
        · omega
        · omega
      refine ⟨_, rfl, _, S1.E.cM 7 rfl (i := 4) rfl, cstep_wp (c := s.s) (q := L.length + 15) S1.E (upM 15 rfl) hi ⟨hc.1, hlt⟩ fun h2 E2 => Fin.of ?_⟩
      rw [setM] at E2
      obtain ⟨e1, e2⟩ := StV.step_d s.s i
      exact hQ U' _ ⟨E2, S.o, S1.R, S1.O.of e1 e2, S.a.recv hi hlt rfl⟩
  · have e : recvA v s i = (noteS v s 2 i, 0, noteE v s 2 i) := by unfold recvA; rw [if_pos hi, if_neg h0]
    rw [e] at hQ; exact hQ _ _ S1
end
end Go.Proofs.YtgldgabefiialaaGreat.H
namespace Go.Proofs.YtgldgabefiialaaGreat.H
open Go Go.RowKit
set_option linter.unusedVariables false
set_option maxRecDepth 100000
def shI (V : VI) (U : AU) : ShI := ⟨V.kT, V.kR, V.vt, V.rt, U.x.ks, U.x.kf⟩
def restS (V : VI) (v : VV) (K : AK) (U : AU) (s : AV) : List (Option (Nat × AObj)) := [some (V.kV, viewO V v.t), some (V.kC, rowO_int v.c), some (V.kF, feedO v.ts V.kP), some (V.kP, rowO_int v.l), some (K.kA, attO V K U.x s.g), some (K.kS, rsO U.vS s.st), U.rS, some (U.x.kd, drO_int U.x.vd), U.x.rd, some (U.x.kc, curO s.s)]
def AU.w (U : AU) (vf : Value) (rf : Option (Nat × AObj)) : AU := { U with x := { U.x with vf := vf, rf := rf } }
def AV.wf (s : AV) (f : DFL) : AV := { s with s := { s.s with f := f } }
def VI.w (V : VI) (r : Option (Nat × AObj)) : VI := { V with rt := r }
def touchS (v : VV) (s : AV) (i : Int) : AV := if inR i = true then (if (getS v.f s.s.f i).2 = true then s else noteS v s 1 i) else s
def touchE (v : VV) (s : AV) (i : Int) : Int := if inR i = true then (if (getS v.f s.s.f i).2 = true then 0 else noteE v s 1 i) else 1
def touchF (v : VV) (s : AV) (i : Int) : FileS := if inR i = true then (getS v.f s.s.f i).1 else f0
theorem touchS_s (v : VV) (s : AV) (i : Int) : (touchS v s i).s = s.s ∧ (touchS v s i).g = s.g := by
  unfold touchS; (repeat' split) <;> exact ⟨rfl, rfl⟩
theorem touchS_len (v : VV) (s : AV) (i : Int) : (touchS v s i).rs.length ≤ s.rs.length + 1 := by
  unfold touchS; (repeat' split)
  · omega
  · exact noteA_len _ _ _ _ _
  · omega
theorem touchE_in {v : VV} {s : AV} {i : Int} (h : touchE v s i = 0) : inR i = true := by
  unfold touchE at h
  split at h
  · assumption
  · omega
def wS (v : VV) (s : AV) (i : Int) (F : DFL → DFL) : AV × Int := if touchE v s i = 0 then ((touchS v s i).wf (F s.s.f), 0) else (touchS v s i, touchE v s i)
def atF (f : FileS) (n : Int) : Int := if 0 ≤ n ∧ n < f.2.size then byteAt f.2 n.toNat else -1
def readA (v : VV) (s : AV) (i n : Int) : AV × Int × Int := if touchE v s i = 0 then (touchS v s i, atF (getS v.f s.s.f i).1 n, 0) else (touchS v s i, 0, touchE v s i)
def writeA (v : VV) (s : AV) (i n : Int) (c : UInt8) : AV × Int := wS v s i fun d => upS v.f d i (putF (getS v.f d i).1 n c)
def createA (v : VV) (s : AV) (i : Int) : AV × Int := wS v s i fun d => upS v.f d i (true, (getS v.f d i).1.2)
def removeA (v : VV) (s : AV) (i : Int) : AV × Int := wS v s i fun d => upS v.f d i f0
def fcutA (v : VV) (s : AV) (i n : Int) : AV × Int := wS v s i fun d => upS v.f d i (cutF (getS v.f d i).1 n)
def renameA (v : VV) (s : AV) (a b : Int) : AV × Int :=
  if inR b = true then (if touchE v s a = 0 then wS v (touchS v s a) b (fun d => renS v.f d a b) else (touchS v s a, touchE v s a)) else (s, 1)
section
variable {B : RO} {h0 h h' : Heap} {L M : List (Option (Nat × AObj))} {V : VI} {v : VV} {K : AK} {U : AU} {s : AV} {k : Nat} {i j : Int} {c : StV} {g : Reg4} {o o' : AObj} {y : Option (Nat × AObj)}
theorem toSh (E : Keep B h0 (L ++ (V.e v ++ AE V K U s)) h) : Keep B h0 ((L ++ restS V v K U s) ++ (shI V U).m U.x.vf U.x.rf) h := by
  rw [List.append_assoc]
  exact E.sM [0, 1, 5, 6, 7, 8, 9, 10, 11, 15, 2, 3, 4, 12, 13, 14] (by decide)
theorem ofSh {vd : Value} {rd : Option (Nat × AObj)} {f : DFL} (E : Keep B h0 ((L ++ restS V v K U s) ++ (shI V U).m vd rd) h) : Keep B h0 (L ++ (V.e v ++ AE V K (U.w vd rd) (s.wf f))) h := by
  rw [List.append_assoc] at E
  exact E.sM [0, 1, 10, 11, 12, 2, 3, 4, 5, 6, 7, 8, 13, 14, 15, 9] (by decide)
theorem atMid : ((L ++ [y]) ++ M)[L.length]? = some y := up_app _ (by rw [List.getElem?_append_right (Nat.le_refl _), Nat.sub_self]; rfl)
theorem setMid (z : Option (Nat × AObj)) : ((L ++ [y]) ++ M).set L.length z = (L ++ [z]) ++ M := by
  rw [List.append_assoc, List.set_append_right _ _ (Nat.le_refl _), Nat.sub_self, List.append_assoc]; rfl
theorem Keep.gP (E : Keep B h0 ((L ++ [some (k, o)]) ++ M) h) : h k = some o := E.at L.length atMid
theorem Keep.pP (E : Keep B h0 ((L ++ [some (k, o)]) ++ M) h) : Keep B h0 ((L ++ [some (k, o')]) ++ M) (h.set k o') := by
  have := E.put (o' := o') L.length atMid
  rwa [setMid] at this
theorem Keep.gP' (E : Keep B h0 ((L ++ [some (k, o)] ++ [y]) ++ M) h) : h k = some o := by
  rw [List.append_assoc (L ++ [some (k, o)])] at E
  exact E.gP
theorem Keep.pP' (E : Keep B h0 ((L ++ [some (k, o)] ++ [y]) ++ M) h) : Keep B h0 ((L ++ [some (k, o')] ++ [y]) ++ M) (h.set k o') := by
  rw [List.append_assoc (L ++ [some (k, o)])] at E
  have := E.pP (o' := o')
  rwa [← List.append_assoc] at this
theorem SS.nP (S : SS B h0 L h V v K U s) (hk : h k = none) (hb : B k = none) (e : h' = h.set k o) : SS B h0 (L ++ [some (k, o)]) h' V v K U s := ⟨S.E.nP hk hb e, S.o, S.R, S.O, S.a⟩
theorem SS.dP (S : SS B h0 (L ++ [y]) h V v K U s) : SS B h0 L h V v K U s := ⟨S.E.dP, S.o, S.R, S.O, S.a⟩
theorem SS.pP (S : SS B h0 (L ++ [some (k, o)]) h V v K U s) : SS B h0 (L ++ [some (k, o')]) (h.set k o') V v K U s := ⟨S.E.pP, S.o, S.R, S.O, S.a⟩
theorem SS.pP' (S : SS B h0 (L ++ [some (k, o)] ++ [y]) h V v K U s) : SS B h0 (L ++ [some (k, o')] ++ [y]) (h.set k o') V v K U s := ⟨S.E.pP', S.o, S.R, S.O, S.a⟩
theorem SS.gP (S : SS B h0 (L ++ [some (k, o)]) h V v K U s) : h k = some o := S.E.gP
theorem SS.gP' (S : SS B h0 (L ++ [some (k, o)] ++ [y]) h V v K U s) : h k = some o := S.E.gP'
theorem SS.f (S : SS B h0 L h V v K U s) {vd : Value} {rd : Option (Nat × AObj)} {f : DFL} {h1 : Heap} (E : Keep B h0 ((L ++ restS V v K U s) ++ (shI V U).m vd rd) h1) (R : DRow_file_File rd vd f) (a : SOk v.f f) : SS B h0 L h1 V v K (U.w vd rd) (s.wf f) :=
  ⟨ofSh E, S.o, S.R, ⟨S.O.d, R⟩, ⟨a, S.a.sd, S.a.dk, S.a.cr⟩⟩
theorem touch_J2 {k6 kb : Nat} {f6 f : FileS} {w : Bool} {Q : Bool → ByteArray → Int → Heap → Prop} (S : SS B h0 (L ++ [some (k6, fO f6)] ++ [some (kb, fO f)]) h V v K U s) (hn : s.rs.length ≤ 90000)
    (hT : w = true → ∀ h', SS B h0 L h' V v K U s → Q f.1 f.2 0 h') (hF : w = false → ∀ U' h', SS B h0 L h' V v K U' (noteS v s 1 i) → Q f.1 f.2 (noteE v s 1 i) h') : S_attempt_Attempt_touch_J2 B (some ⟨K.kA, 0, none⟩) i k6 ⟨kb, 0, none⟩ w h Q := by
  unfold S_attempt_Attempt_touch_J2
  refine ⟨fun hw => ?_, fun hw => ?_⟩
  · refine ⟨_, _, ⟨cellH_vec S.gP rfl, cellH_vec S.gP rfl, trivial⟩, _, stores_whole S.gP' rfl (by simp) (by simp [isOne]) (by simp), ?_⟩
    have S1 := S.pP' (o' := fO f)
    exact ⟨_, _, ⟨cellH_vec S1.gP' rfl, cellH_vec S1.gP' rfl, trivial⟩, Fin.of (hT hw _ S1.dP.dP)⟩
  · refine ⟨_, _, ⟨cellH_vec S.gP rfl, cellH_vec S.gP rfl, trivial⟩, anote_wp S hn fun U' h1 e1 S1 => ⟨⟨cellH_vec S1.gP rfl, cellH_vec S1.gP rfl, trivial⟩, _, stores_whole S1.gP' rfl (by simp) (by simp [isOne]) (by simp), ?_⟩⟩
    have S2 := S1.pP' (o' := fO f)
    exact ⟨⟨cellH_vec S2.gP rfl, cellH_vec S2.gP rfl, trivial⟩, _, _, ⟨cellH_vec S2.gP' rfl, cellH_vec S2.gP' rfl, trivial⟩, Fin.of (hF hw U' _ S2.dP.dP)⟩
theorem touch_J3 {k6 kb : Nat} {f6 f7 f : FileS} {w : Bool} {Q : Bool → ByteArray → Int → Heap → Prop} (S : SS B h0 (L ++ [some (k6, fO f6)] ++ [some (kb, fO f7)]) h V v K U s) (hn : s.rs.length ≤ 90000)
    (hT : w = true → ∀ h', SS B h0 L h' V v K U s → Q f.1 f.2 0 h') (hF : w = false → ∀ U' h', SS B h0 L h' V v K U' (noteS v s 1 i) → Q f.1 f.2 (noteE v s 1 i) h') : S_attempt_Attempt_touch_J3 B (some ⟨K.kA, 0, none⟩) i k6 ⟨K.kA, 0, none⟩ (some ⟨U.x.ks, 0, none⟩) ⟨K.kA, 0, none⟩ (some ⟨V.kV, 0, none⟩) ⟨V.kV, 0, none⟩ (some ⟨V.kT, 0, none⟩) ⟨kb, 0, none⟩ f.1 f.2 w h Q := by
  unfold S_attempt_Attempt_touch_J3
  have S1 := S.pP (o' := fO f)
  refine ⟨_, stores_whole S.gP rfl (by simp) (by simp [isOne]) (by simp), S1.E.cM 7 rfl (i := 3) rfl, S1.E.cM 7 rfl (i := 0) rfl, S1.E.cM 0 rfl (i := 1) rfl, fun hw => Fin.of ?_, fun hw => Fin.of ?_⟩
  · exact touch_J2 S1 hn (fun _ => hT hw) (fun e => by cases e)
  · exact touch_J2 S1 hn (fun e => by cases e) (fun _ => hF hw)
theorem aget_wp {Q : Bool → ByteArray → Bool → Heap → Prop} (S : SS B h0 L h V v K U s) (hQ : ∀ h', SS B h0 L h' V v K U s → Q (getS v.f s.s.f i).1.1 (getS v.f s.s.f i).1.2 (getS v.f s.s.f i).2 h') : C_sheet_Sheet_Get B (some ⟨U.x.ks, 0, none⟩) (some ⟨V.kT, 0, none⟩) i h Q :=
  sget_wp (x := shI V U) (toSh S.E) S.o.r S.O.f S.a.so.s (by have := S.a.so.len; omega) fun h1 E1 => hQ h1 (S.f E1 S.O.f S.a.so)
theorem touch_wp {Q : Bool → ByteArray → Int → Heap → Prop} (S : SS B h0 L h V v K U s) (hn : s.rs.length ≤ 90000) (hQ : ∀ U' h', SS B h0 L h' V v K U' (touchS v s i) → Q (touchF v s i).1 (touchF v s i).2 (touchE v s i) h') : C_attempt_Attempt_touch B (some ⟨K.kA, 0, none⟩) i h Q := by
  refine C_attempt_Attempt_touch.of ?_
  unfold S_attempt_Attempt_touch
  intro k6 a6 b6 h7 e7
  have S0 := S.nP (o := fO f0) a6 b6 e7
  have out : ¬ (0 ≤ i ∧ i < 6) → ∃ h1 : Heap, StoresAt ⟨k6, 0, none⟩ h7 0 [(.bool false), (.string ByteArray.empty)] h1 ∧ ∃ b1 : Bool, ∃ s1 : ByteArray, CellsAt B h1 ⟨k6, 0, none⟩ 0 [(.bool b1), (.string s1)] ∧ Fin B h1 (Q (b1) s1 (1)) := fun hi => by
    have hr : inR i = false := decide_eq_false hi
    unfold touchS touchF touchE at hQ
    rw [hr] at hQ
    have S1 := S0.pP (o' := fO f0)
    exact ⟨_, stores_whole S0.gP rfl (by simp) (by simp [isOne]) (by simp), _, _, ⟨cellH_vec S1.gP rfl, cellH_vec S1.gP rfl, trivial⟩, Fin.of (hQ U _ S1.dP)⟩
  refine ⟨fun e => (by cases e), fun _ => ⟨fun h1 => out (by omega), fun h1 => ⟨fun h2 => out (by omega), fun h2 => Fin.of ?_⟩⟩⟩
  have hr : inR i = true := decide_eq_true (by omega)
  have hT : (getS v.f s.s.f i).2 = true → ∀ h', SS B h0 L h' V v K U s → Q (getS v.f s.s.f i).1.1 (getS v.f s.s.f i).1.2 0 h' := fun hw h' S' => by
    unfold touchS touchF touchE at hQ
    rw [if_pos hr, if_pos hw, if_pos hr, if_pos hr, if_pos hw] at hQ
    exact hQ U h' S'
  have hF : (getS v.f s.s.f i).2 = false → ∀ U' h', SS B h0 L h' V v K U' (noteS v s 1 i) → Q (getS v.f s.s.f i).1.1 (getS v.f s.s.f i).1.2 (noteE v s 1 i) h' := fun hw U' h' S' => by
    have hw' : ¬ (getS v.f s.s.f i).2 = true := by rw [hw]; decide
    unfold touchS touchF touchE at hQ
    rw [if_pos hr, if_neg hw', if_pos hr, if_pos hr, if_neg hw'] at hQ
    exact hQ U' h' S'
  clear out hQ
  unfold S_attempt_Attempt_touch_J1
  refine ⟨_, rfl, _, S0.E.cM 7 rfl (i := 3) rfl, _, rfl, _, S0.E.cM 7 rfl (i := 0) rfl, _, rfl, _, S0.E.cM 0 rfl (i := 1) rfl, aget_wp S0 fun h1 S1 => ?_, fun k112 a112 b112 h113 e113 => ?_⟩
  · refine ⟨S1.E.cM 7 rfl (i := 3) rfl, S1.E.cM 7 rfl (i := 0) rfl, S1.E.cM 0 rfl (i := 1) rfl, fun hw => ?_, fun hw => ?_⟩
    all_goals
      intro k2 a2 b2 h2 e2
      have S2 := S1.nP (o := fO f0) a2 b2 e2
      refine ⟨S2.E.cM 7 rfl (i := 3) rfl, S2.E.cM 7 rfl (i := 0) rfl, S2.E.cM 0 rfl (i := 1) rfl, touch_J3 (f := (getS v.f s.s.f i).1) S2 hn ?_ ?_⟩
    · exact fun _ => hT hw
    · exact fun e => by cases e
    · exact fun e => by cases e
    · exact fun _ => hF hw
  · have S2 := S0.nP (o := fO f0) a112 b112 e113
    refine ⟨S2.E.cM 7 rfl (i := 3) rfl, S2.E.cM 7 rfl (i := 0) rfl, S2.E.cM 0 rfl (i := 1) rfl, aget_wp S2 fun h3 S3 => ⟨S3.E.cM 7 rfl (i := 3) rfl, S3.E.cM 7 rfl (i := 0) rfl, S3.E.cM 0 rfl (i := 1) rfl, fun hw => ?_, fun hw => ?_⟩⟩
    · exact touch_J3 (f := (getS v.f s.s.f i).1) S3 hn (fun _ => hT hw) (fun e => by cases e)
    · exact touch_J3 (f := (getS v.f s.s.f i).1) S3 hn (fun e => by cases e) (fun _ => hF hw)
theorem fat_wp {f : FileS} {n : Int} {Q : Int → Heap → Prop} (hQ : Q (atF f n) h) : C_file_At B f.1 f.2 n h Q := by
  refine C_file_At.of ?_
  unfold S_file_At
  intro k5 a5 b5 h6 e6
  have E := (Keep.nil B h).made (o := fO f) a5 b5 e6
  have out : ¬ (0 ≤ n ∧ n < f.2.size) → S_file_At_J1 B n k5 true h6 Q := fun hn => by
    unfold S_file_At_J1
    unfold atF at hQ
    rw [if_neg hn] at hQ
    exact ⟨fun _ => Fin.ent E.back (Fin.of hQ), fun e => by cases e⟩
  refine ⟨fun h1 => Fin.of (out (by omega)), fun h1 => ⟨_, E.cell 0 rfl rfl, fun h2 => Fin.of (out (by omega)), fun h2 => Fin.of ?_⟩⟩
  unfold S_file_At_J1
  have hb := byteAt_bound f.2 n.toNat
  unfold atF at hQ
  rw [if_pos ⟨by omega, by omega⟩] at hQ
  refine ⟨fun e => (by cases e), fun _ => ⟨_, E.cell 0 rfl rfl, by omega, by omega, ?_⟩⟩
  rw [w64 (by omega) (by omega)]
  exact Fin.ent E.back (Fin.of hQ)
theorem aread_wp {n : Int} {Q : Int → Int → Heap → Prop} (S : SS B h0 L h V v K U s) (hn : s.rs.length ≤ 90000) (hQ : ∀ U' h', SS B h0 L h' V v K U' (readA v s i n).1 → Q (readA v s i n).2.1 (readA v s i n).2.2 h') : C_attempt_Attempt_Read B (some ⟨K.kA, 0, none⟩) i n h Q := by
  refine C_attempt_Attempt_Read.of ?_
  unfold S_attempt_Attempt_Read
  refine touch_wp S hn fun U' h1 S1 k a b h2 e2 => ?_
  have S2 := S1.nP (o := fO f0) a b e2
  refine ⟨_, stores_whole S2.gP rfl (by simp) (by simp [isOne]) (by simp), ?_⟩
  have S3 := S2.pP (o' := fO (touchF v s i))
  refine ⟨fun h0 => ⟨_, _, ⟨cellH_vec S3.gP rfl, cellH_vec S3.gP rfl, trivial⟩, fat_wp (f := touchF v s i) (Fin.of ?_)⟩, fun h0 => Fin.of ?_⟩
  · have e : readA v s i n = (touchS v s i, atF (getS v.f s.s.f i).1 n, 0) := by unfold readA; rw [if_pos h0]
    rw [e] at hQ
    have e1 : touchF v s i = (getS v.f s.s.f i).1 := by unfold touchF; rw [if_pos (touchE_in h0)]
    rw [e1] at S3 ⊢
    exact hQ U' _ S3.dP
  · have e : readA v s i n = (touchS v s i, 0, touchE v s i) := by unfold readA; rw [if_neg h0]
    rw [e] at hQ
    exact hQ U' _ S3.dP
theorem awrite_wp {n w' : Int} {w : UInt8} (hw : w' = ((w.toNat : Nat) : Int)) {Q : Int → Heap → Prop} (S : SS B h0 L h V v K U s) (hn : s.rs.length ≤ 90000) (hQ : ∀ U' h', SS B h0 L h' V v K U' (writeA v s i n w).1 → Q (writeA v s i n w).2 h') : C_attempt_Attempt_Write B (some ⟨K.kA, 0, none⟩) i n w' h Q := by
  refine C_attempt_Attempt_Write.of ?_
  unfold S_attempt_Attempt_Write
  refine touch_wp S hn fun U' h1 S1 k a b h2 e2 => ?_
  have S2 := S1.nP (o := fO f0) a b e2
  refine ⟨_, stores_whole S2.gP rfl (by simp) (by simp [isOne]) (by simp), ?_⟩
  have S3 := (S2.pP (o' := fO (touchF v s i))).dP
  have es := (touchS_s v s i).1
  refine ⟨fun h0 => ⟨_, rfl, _, S3.E.cM 7 rfl (i := 3) rfl, _, rfl, _, S3.E.cM 7 rfl (i := 0) rfl, _, rfl, _, S3.E.cM 0 rfl (i := 1) rfl, swrite_wp (x := shI V U') hw (toSh S3.E) S3.o.r S3.O.f S3.a.so fun vd' rd' h4 R4 E4 => Fin.of ?_⟩, fun h0 => Fin.of ?_⟩
  · have e : writeA v s i n w = ((touchS v s i).wf ((fun d => upS v.f d i (putF (getS v.f d i).1 n w)) s.s.f), 0) := by unfold writeA wS; rw [if_pos h0]
    have S5 := S3.f E4 R4 (S3.a.so.up (goodF_put (S3.a.so.good i) n w))
    rw [e] at hQ
    rw [h0]
    simp only [es] at S5
    exact hQ _ _ S5
  · have e : writeA v s i n w = (touchS v s i, touchE v s i) := by unfold writeA wS; rw [if_neg h0]
    rw [e] at hQ
    exact hQ _ _ S3
theorem acreate_wp {Q : Int → Heap → Prop} (S : SS B h0 L h V v K U s) (hn : s.rs.length ≤ 90000) (hQ : ∀ U' h', SS B h0 L h' V v K U' (createA v s i).1 → Q (createA v s i).2 h') : C_attempt_Attempt_Create B (some ⟨K.kA, 0, none⟩) i h Q := by
  refine C_attempt_Attempt_Create.of ?_
  unfold S_attempt_Attempt_Create
  refine touch_wp S hn fun U' h1 S1 k a b h2 e2 => ?_
  have S2 := S1.nP (o := fO f0) a b e2
  refine ⟨_, stores_whole S2.gP rfl (by simp) (by simp [isOne]) (by simp), ?_⟩
  have S3 := (S2.pP (o' := fO (touchF v s i))).dP
  have es := (touchS_s v s i).1
  refine ⟨fun h0 => ⟨_, rfl, _, S3.E.cM 7 rfl (i := 3) rfl, _, rfl, _, S3.E.cM 7 rfl (i := 0) rfl, _, rfl, _, S3.E.cM 0 rfl (i := 1) rfl, screateG_wp (x := shI V U') (toSh S3.E) S3.o.r S3.O.f S3.a.so fun vd' rd' h4 R4 E4 => Fin.of ?_⟩, fun h0 => Fin.of ?_⟩
  · have e : createA v s i = ((touchS v s i).wf ((fun d => upS v.f d i (true, (getS v.f d i).1.2)) s.s.f), 0) := by unfold createA wS; rw [if_pos h0]
    have S5 := S3.f E4 R4 (S3.a.so.up (f := (true, (getS v.f (touchS v s i).s.f i).1.2)) (goodF_make (f := (getS v.f (touchS v s i).s.f i).1) (S3.a.so.good i)))
    rw [e] at hQ
    rw [h0]
    simp only [es] at S5
    exact hQ _ _ S5
  · have e : createA v s i = (touchS v s i, touchE v s i) := by unfold createA wS; rw [if_neg h0]
    rw [e] at hQ
    exact hQ _ _ S3
theorem aremove_wp {Q : Int → Heap → Prop} (S : SS B h0 L h V v K U s) (hn : s.rs.length ≤ 90000) (hQ : ∀ U' h', SS B h0 L h' V v K U' (removeA v s i).1 → Q (removeA v s i).2 h') : C_attempt_Attempt_Remove B (some ⟨K.kA, 0, none⟩) i h Q := by
  refine C_attempt_Attempt_Remove.of ?_
  unfold S_attempt_Attempt_Remove
  refine touch_wp S hn fun U' h1 S1 k a b h2 e2 => ?_
  have S2 := S1.nP (o := fO f0) a b e2
  refine ⟨_, stores_whole S2.gP rfl (by simp) (by simp [isOne]) (by simp), ?_⟩
  have S3 := (S2.pP (o' := fO (touchF v s i))).dP
  have es := (touchS_s v s i).1
  refine ⟨fun h0 => ⟨_, rfl, _, S3.E.cM 7 rfl (i := 3) rfl, _, rfl, _, S3.E.cM 7 rfl (i := 0) rfl, _, rfl, _, S3.E.cM 0 rfl (i := 1) rfl, sremove_wp (x := shI V U') (toSh S3.E) S3.o.r S3.O.f S3.a.so fun vd' rd' h4 R4 E4 => Fin.of ?_⟩, fun h0 => Fin.of ?_⟩
  · have e : removeA v s i = ((touchS v s i).wf ((fun d => upS v.f d i f0) s.s.f), 0) := by unfold removeA wS; rw [if_pos h0]
    have S5 := S3.f E4 R4 (S3.a.so.up rfl)
    rw [e] at hQ
    rw [h0]
    simp only [es] at S5
    exact hQ _ _ S5
  · have e : removeA v s i = (touchS v s i, touchE v s i) := by unfold removeA wS; rw [if_neg h0]
    rw [e] at hQ
    exact hQ _ _ S3
theorem acut_wp {n : Int} {Q : Int → Heap → Prop} (S : SS B h0 L h V v K U s) (hn : s.rs.length ≤ 90000) (hQ : ∀ U' h', SS B h0 L h' V v K U' (fcutA v s i n).1 → Q (fcutA v s i n).2 h') : C_attempt_Attempt_Cut B (some ⟨K.kA, 0, none⟩) i n h Q := by
  refine C_attempt_Attempt_Cut.of ?_
  unfold S_attempt_Attempt_Cut
  refine touch_wp S hn fun U' h1 S1 k a b h2 e2 => ?_
  have S2 := S1.nP (o := fO f0) a b e2
  refine ⟨_, stores_whole S2.gP rfl (by simp) (by simp [isOne]) (by simp), ?_⟩
  have S3 := (S2.pP (o' := fO (touchF v s i))).dP
  have es := (touchS_s v s i).1
  refine ⟨fun h0 => ⟨_, rfl, _, S3.E.cM 7 rfl (i := 3) rfl, _, rfl, _, S3.E.cM 7 rfl (i := 0) rfl, _, rfl, _, S3.E.cM 0 rfl (i := 1) rfl, scut_wp (x := shI V U') (toSh S3.E) S3.o.r S3.O.f S3.a.so fun vd' rd' h4 R4 E4 => Fin.of ?_⟩, fun h0 => Fin.of ?_⟩
  · have e : fcutA v s i n = ((touchS v s i).wf ((fun d => upS v.f d i (cutF (getS v.f d i).1 n)) s.s.f), 0) := by unfold fcutA wS; rw [if_pos h0]
    have S5 := S3.f E4 R4 (S3.a.so.up (goodF_cut (S3.a.so.good i) n))
    rw [e] at hQ
    rw [h0]
    simp only [es] at S5
    exact hQ _ _ S5
  · have e : fcutA v s i n = (touchS v s i, touchE v s i) := by unfold fcutA wS; rw [if_neg h0]
    rw [e] at hQ
    exact hQ _ _ S3
theorem rename_J2 {U1 : AU} {s1 : AV} {Q : Int → Heap → Prop} (S : SS B h0 L h V v K U1 s1) (hQ : ∀ U' h', SS B h0 L h' V v K U' (s1.wf (renS v.f s1.s.f i j)) → Q 0 h') : S_attempt_Attempt_Rename_J2 B (some ⟨K.kA, 0, none⟩) i j 0 h Q := by
  unfold S_attempt_Attempt_Rename_J2
  exact ⟨fun h0 => ⟨_, rfl, _, S.E.cM 7 rfl (i := 3) rfl, _, rfl, _, S.E.cM 7 rfl (i := 0) rfl, _, rfl, _, S.E.cM 0 rfl (i := 1) rfl, srenameG_wp (x := shI V U1) (toSh S.E) S.o.r S.O.f S.a.so fun vd' rd' h4 R4 E4 => Fin.of (hQ _ _ (S.f E4 R4 (S.a.so.ren i j)))⟩, fun h0 => absurd rfl h0⟩
theorem rename_no {e : Int} {Q : Int → Heap → Prop} (he : e ≠ 0) (hQ : Q e h) : S_attempt_Attempt_Rename_J2 B (some ⟨K.kA, 0, none⟩) i j e h Q := by
  unfold S_attempt_Attempt_Rename_J2
  exact ⟨fun h0 => absurd h0 he, fun _ => Fin.of hQ⟩
theorem arename_wp {Q : Int → Heap → Prop} (S : SS B h0 L h V v K U s) (hn : s.rs.length ≤ 80000) (hQ : ∀ U' h', SS B h0 L h' V v K U' (renameA v s i j).1 → Q (renameA v s i j).2 h') : C_attempt_Attempt_Rename B (some ⟨K.kA, 0, none⟩) i j h Q := by
  refine C_attempt_Attempt_Rename.of ?_
  unfold S_attempt_Attempt_Rename
  have out : ¬ (0 ≤ j ∧ j < 6) → Q 1 h := fun hj => by
    have hr : inR j = false := decide_eq_false hj
    have e : renameA v s i j = (s, 1) := by unfold renameA; rw [hr]; rfl
    rw [e] at hQ
    exact hQ U h S
  refine ⟨fun e => (by cases e), fun _ => ⟨fun h1 => Fin.of (out (by omega)), fun h1 => ⟨fun h2 => Fin.of (out (by omega)), fun h2 => Fin.of ?_⟩⟩⟩
  have hj : inR j = true := decide_eq_true (by omega)
  unfold renameA at hQ
  rw [if_pos hj] at hQ
  unfold S_attempt_Attempt_Rename_J1
  refine touch_wp S (by omega) fun U' h1 S1 k a b h2 e2 => ?_
  have S2 := S1.nP (o := fO f0) a b e2
  refine ⟨_, stores_whole S2.gP rfl (by simp) (by simp [isOne]) (by simp), ?_⟩
  have S3 := (S2.pP (o' := fO (touchF v s i))).dP
  have hl := touchS_len v s i
  refine ⟨fun h0 => touch_wp S3 (by omega) fun U4 h4 S4 => Fin.of ?_, fun h0 => Fin.of ?_⟩
  · rw [if_pos h0] at hQ
    have es := (touchS_s v (touchS v s i) j).1
    unfold wS at hQ
    by_cases h5 : touchE v (touchS v s i) j = 0
    · rw [if_pos h5] at hQ
      rw [h5]
      refine rename_J2 S4 fun U5 h6 S6 => ?_
      rw [es] at S6
      exact hQ _ _ S6
    · rw [if_neg h5] at hQ
      exact rename_no h5 (hQ _ _ S4)
  · rw [if_neg h0] at hQ
    exact rename_no h0 (hQ _ _ S3)
end
end Go.Proofs.YtgldgabefiialaaGreat.H
namespace Go.Proofs.YtgldgabefiialaaGreat.H
open Go Go.RowKit
set_option linter.unusedVariables false
set_option maxRecDepth 100000
def apC (t : Int) (c : List (Int × Int)) (d : List (Int × Int)) : List (Int × Int) := d.foldl (fun c x => c.set x.1.toNat (x.2, t)) c
theorem apC_len (t : Int) : ∀ (d c : List (Int × Int)), (apC t c d).length = c.length := by
  intro d
  induction d with
  | nil => intro c; rfl
  | cons x d ih => intro c; exact (ih _).trans (List.length_set ..)
theorem apC_take {t : Int} {c d : List (Int × Int)} {q : Nat} {x : Int × Int} (h : d[q]? = some x) : apC t c (d.take (q + 1)) = (apC t c (d.take q)).set x.1.toNat (x.2, t) := by
  obtain ⟨h1, rfl⟩ := List.getElem?_eq_some_iff.1 h
  rw [List.take_succ_eq_append_getElem h1, apC, List.foldl_append]; rfl
def landN (t : Int) (ts : List ByteArray) (c : StV) (l : List (Int × Int)) : Nat → List (Int × Int)
  | 0 => l
  | j + 1 => if 0 < c.cr (j : Nat) then takeL ts (landN t ts c l j) (j : Nat) ((cellAt_int (landN t ts c l j) (j : Nat)).1 + c.cr (j : Nat)) t else landN t ts c l j
theorem FeedOk.land {t : Int} {ts : List ByteArray} {c : StV} {l : List (Int × Int)} (k : FeedOk ts l) : ∀ j, FeedOk ts (landN t ts c l j)
  | 0 => k
  | j + 1 => by
    unfold landN
    split
    · exact (FeedOk.land k j).take _ _ _
    · exact FeedOk.land k j
def landV (v : VV) (s : AV) : VV := ⟨apC (v.t + 1) v.c s.s.d, apD (v.t + 1) v.f s.s.f, v.ts, landN (v.t + 1) v.ts s.s v.l 3, v.t + 1⟩
theorem TomeOk.apD {t : Int} : ∀ (d : DFL) {l : FL}, TomeOk l → TomeOk (apD t l d) := by
  intro d
  induction d with
  | nil => intro l k; exact k
  | cons x d ih => intro l k; exact ih (k.set _ _ _ _)
section
variable {B : RO} {h0 h h' : Heap} {L M : List (Option (Nat × AObj))} {V : VI} {v : VV} {K : AK} {U : AU} {s : AV} {k : Nat} {i j : Int} {c : StV} {g : Reg4} {o o' : AObj} {y : Option (Nat × AObj)}
theorem AOk.view {v' : VV} (a : AOk v s) (k : TomeOk v'.f) : AOk v' s := ⟨⟨a.so.s, a.so.k, k.n6, k.good⟩, a.sd, a.dk, a.cr⟩
theorem land_wp {Q : Bool → Heap → Prop} (S : SS B h0 L h V v K U s) (hn : s.rs.length ≤ 90000) (ht : 0 ≤ v.t ∧ v.t < 1000000000)
    (hT : vld v s.rs = true → ∀ r' h', SS B h0 L h' (V.w r') (landV v s) K U s → Q true h') (hF : vld v s.rs = false → ∀ h', SS B h0 L h' V v K U s → Q false h') : C_attempt_Attempt_Land B (some ⟨K.kA, 0, none⟩) h Q := by
  refine C_attempt_Attempt_Land.of ?_
  unfold S_attempt_Attempt_Land
  refine avalid_wp S hn fun h3 S1 => ⟨fun hv => ?_, fun hv => Fin.of (hF hv _ S1)⟩
  refine ⟨_, rfl, _, S1.E.cM 7 rfl (i := 0) rfl, fun k8 a8 b8 h9 e9 => ?_⟩
  have S2 := S1.nP a8 b8 e9
  refine ⟨_, storeH_vec S2.gP rfl, ?_⟩
  have S3 := S2.pP (o' := .vec TY.p_attempt_View (plains [.pointer (some ⟨V.kV, 0, none⟩)]) 1)
  refine ⟨_, cellH_vec S3.gP rfl, _, rfl, v.t, S3.E.cM 0 rfl (i := 3) rfl, _, rfl, ?_⟩
  rw [w64 (by omega) (by omega)]
  refine ⟨_, storeH_vec (S3.E.gM 0 rfl) (show (plains [.pointer (some ⟨V.kC, 0, none⟩), .pointer (some ⟨V.kT, 0, none⟩), .pointer (some ⟨V.kF, 0, none⟩), .int .i64 v.t])[3]? = some (.plain (.int .i64 v.t)) from rfl), ?_⟩
  have E4 := S3.E.pM (o' := viewO V (v.t + 1)) 0 rfl
  refine ⟨_, rfl, _, Keep.cM E4 7 rfl (i := 2) rfl, dall_wp fun kc ac bc => ?_⟩
  have E5 := Keep.nP (o := .vec TY.p_draft_Draft_int [.plain (.pointer (some ⟨U.x.kd, 0, none⟩))] 1) E4 ac bc rfl
  have dl := S.a.dlen
  let LL := L ++ [some (k8, .vec TY.p_attempt_View (plains [.pointer (some ⟨V.kV, 0, none⟩)]) 1)] ++ [some (kc, .vec TY.p_draft_Draft_int [.plain (.pointer (some ⟨U.x.kd, 0, none⟩))] 1)]
  refine ⟨s.s.d, dG kc U.x.kd U.x.vd U.x.rd, fun q h' => Keep B h0 (LL ++ (V.e { v with c := apC (v.t + 1) v.c (s.s.d.take q), t := v.t + 1 } ++ AE V K U s)) h', dall_iter S.O.d (by omega), dG_ins, ?_, Fin.of E5, ?_, ?_⟩
  · intro q h' E
    exact ⟨Keep.gP E, E.gM 10 rfl, fun k o e => E.gM 11 (by show some U.x.rd = _; rw [e])⟩
  · clear E4 E5
    rintro q h69 i66 i67 hg E
    have hx := S.a.dk _ (List.mem_of_getElem? hg)
    simp only at hx
    refine ⟨_, cellH_vec (Keep.gP' E) rfl, _, rfl, _, E.cM 0 rfl (i := 0) rfl, _, cellH_vec (Keep.gP' E) rfl, _, rfl, _, E.cM 0 rfl (i := 3) rfl, set_wp_int (E.gM 1 rfl) (fun _ _ => Fin.of ?_) fun hn => ?_⟩
    · have E1 := E.pM (o' := rowO_int ((apC (v.t + 1) v.c (s.s.d.take q)).set i66.toNat (i67, v.t + 1))) 1 rfl
      rw [← apC_take (x := (i66, i67)) hg] at E1
      show Keep B h0 _ (h69.set V.kC (rowO_int ((apC (v.t + 1) v.c (s.s.d.take q)).set i66.toNat (i67, v.t + 1))))
      rw [← apC_take (x := (i66, i67)) hg]
      exact E1
    · rw [apC_len, S.o.c8] at hn; omega
  · clear E4 E5
    intro h69 E
    rw [List.take_length] at E
    refine Fin.of ?_
    unfold S_attempt_Attempt_Land_J1
    refine ⟨_, rfl, _, E.cM 7 rfl (i := 3) rfl, _, cellH_vec (Keep.gP' E) rfl, _, rfl, _, E.cM 0 rfl (i := 1) rfl, _, cellH_vec (Keep.gP' E) rfl, _, rfl, v.t + 1, E.cM 0 rfl (i := 3) rfl, ?_⟩
    refine sover_wp (x := shI V U) (toSh E) S.o.r S.O.f S.a.so fun r' h31 R' E1 => ?_
    have E2 := ofSh (V := V.w r') (v := ⟨apC (v.t + 1) v.c s.s.d, apD (v.t + 1) v.f s.s.f, v.ts, v.l, v.t + 1⟩) (K := K) (U := U) (s := s) (f := s.s.f) E1
    refine ⟨fun q m h' => ∃ j : Nat, j ≤ 3 ∧ q = j ∧ m = 3 - j ∧ Keep B h0 (LL ++ ((V.w r').e ⟨apC (v.t + 1) v.c s.s.d, apD (v.t + 1) v.f s.s.f, v.ts, landN (v.t + 1) v.ts s.s v.l j, v.t + 1⟩ ++ AE V K U s)) h', 3, Fin.of ⟨0, by omega, rfl, rfl, E2⟩, ?_⟩
    clear E1 E2 E
    rintro _ _ h34 ⟨j, hj, rfl, rfl, E⟩
    refine ⟨fun hlt => ⟨_, rfl, _, E.cM 7 rfl (i := 4) rfl, cread_wp (c := s.s) (E.gM 15 rfl) (by omega) ⟨fun hg => ?_, fun hg => Fin.of ?_⟩⟩, fun hge => Fin.of ?_⟩
    · have fk := S.o.k.land (t := v.t + 1) (c := s.s) j
      refine ⟨_, cellH_vec (Keep.gP' E) rfl, _, rfl, _, E.cM 0 rfl (i := 2) rfl, feed_place_wp (ts := v.ts) (l := landN (v.t + 1) v.ts s.s v.l j) fk.t3 (E.gM 5 rfl) (E.gM 6 rfl) ?_⟩
      refine ⟨_, cellH_vec (Keep.gP' E) rfl, _, rfl, _, E.cM 0 rfl (i := 2) rfl, _, cellH_vec (Keep.gP' E) rfl, _, rfl, v.t + 1, E.cM 0 rfl (i := 3) rfl, ?_⟩
      have hp := fk.place (j : Nat)
      have hs := fk.size (j : Nat)
      have hc := S.a.cr (j : Nat)
      rw [w64 (by omega) (by omega)]
      refine feed_take_wp fk (E.gM 5 rfl) (E.gM 6 rfl) (Fin.of ⟨3 - (j + 1), by omega, j + 1, by omega, wrapS (by omega), rfl, ?_⟩)
      have E3 := E.pM (o' := rowO_int (takeL v.ts (landN (v.t + 1) v.ts s.s v.l j) (j : Nat) ((cellAt_int (landN (v.t + 1) v.ts s.s v.l j) (j : Nat)).1 + s.s.cr (j : Nat)) (v.t + 1))) 6 rfl
      have e : landN (v.t + 1) v.ts s.s v.l (j + 1) = takeL v.ts (landN (v.t + 1) v.ts s.s v.l j) (j : Nat) ((cellAt_int (landN (v.t + 1) v.ts s.s v.l j) (j : Nat)).1 + s.s.cr (j : Nat)) (v.t + 1) := by rw [landN, if_pos hg]
      rw [e]
      exact E3
    · refine ⟨3 - (j + 1), by omega, j + 1, by omega, wrapS (by omega), rfl, ?_⟩
      have e : landN (v.t + 1) v.ts s.s v.l (j + 1) = landN (v.t + 1) v.ts s.s v.l j := by rw [landN, if_neg (by omega)]
      rw [e]
      exact E
    · have hj3 : j = 3 := by omega
      subst hj3
      have o' : VOk (V.w r') (landV v s) := ⟨R', by rw [← S.o.c8]; exact apC_len _ _ _, S.o.f.apD _, S.o.k.land 3⟩
      exact hT hv r' _ ⟨Keep.dP (Keep.dP E), o', S.R, S.O, S.a.view o'.f⟩
structure DeedR where
  k : Int
  a : Int
  b : Int
  c : UInt8
def DeedR.cells (d : DeedR) : List Value := [.int .i64 d.k, .int .i64 d.a, .int .i64 d.b, .int .u8 ((d.c.toNat : Nat) : Int)]
def pr2 (x : AV × Int) : AV × Int × Int := (x.1, 0, x.2)
def doesA (v : VV) (s : AV) (d : DeedR) : AV × Int × Int :=
  if d.k = 0 then loadA v s d.a else if d.k = 1 then pr2 (storeA s d.a d.b) else if d.k = 2 then readA v s d.a d.b else if d.k = 3 then pr2 (writeA v s d.a d.b d.c)
  else if d.k = 4 then pr2 (createA v s d.a) else if d.k = 5 then pr2 (removeA v s d.a) else if d.k = 6 then pr2 (renameA v s d.a d.b) else if d.k = 7 then pr2 (fcutA v s d.a d.b)
  else if d.k = 8 then recvA v s d.a else (s, 0, 1)
theorem adoes_wp {d : DeedR} {Q : Int → Int → Heap → Prop} (S : SS B h0 L h V v K U s) (hn : s.rs.length ≤ 80000) (hQ : ∀ U' h', SS B h0 L h' V v K U' (doesA v s d).1 → Q (doesA v s d).2.1 (doesA v s d).2.2 h') : C_countermandlaw20_does B (some ⟨K.kA, 0, none⟩) d.k d.a d.b ((d.c.toNat : Nat) : Int) h Q := by
  refine C_countermandlaw20_does.of ?_
  unfold S_countermandlaw20_does
  intro k8 a8 b8 h9 e9
  have S1 := S.nP a8 b8 e9
  have g := S1.gP
  unfold doesA at hQ
  refine ⟨d.k, cellH_vec g rfl, fun h1 => ?_, fun n1 => ?_⟩
  · rw [if_pos h1] at hQ
    exact ⟨d.a, cellH_vec g rfl, load_wp S1 (by omega) fun U' h' _ S2 => Fin.of (hQ _ _ S2.dP)⟩
  rw [if_neg n1] at hQ
  refine ⟨fun h1 => ?_, fun n1 => ?_⟩
  · rw [if_pos h1] at hQ
    exact ⟨d.a, cellH_vec g rfl, d.b, cellH_vec g rfl, store_wp S1 fun U' h' S2 => Fin.of (hQ _ _ S2.dP)⟩
  rw [if_neg n1] at hQ
  refine ⟨fun h1 => ?_, fun n1 => ?_⟩
  · rw [if_pos h1] at hQ
    exact ⟨d.a, cellH_vec g rfl, d.b, cellH_vec g rfl, aread_wp S1 (by omega) fun U' h' S2 => Fin.of (hQ _ _ S2.dP)⟩
  rw [if_neg n1] at hQ
  refine ⟨fun h1 => ?_, fun n1 => ?_⟩
  · rw [if_pos h1] at hQ
    exact ⟨d.a, cellH_vec g rfl, d.b, cellH_vec g rfl, ((d.c.toNat : Nat) : Int), cellH_vec g rfl, awrite_wp rfl S1 (by omega) fun U' h' S2 => Fin.of (hQ _ _ S2.dP)⟩
  rw [if_neg n1] at hQ
  refine ⟨fun h1 => ?_, fun n1 => ?_⟩
  · rw [if_pos h1] at hQ
    exact ⟨d.a, cellH_vec g rfl, acreate_wp S1 (by omega) fun U' h' S2 => Fin.of (hQ _ _ S2.dP)⟩
  rw [if_neg n1] at hQ
  refine ⟨fun h1 => ?_, fun n1 => ?_⟩
  · rw [if_pos h1] at hQ
    exact ⟨d.a, cellH_vec g rfl, aremove_wp S1 (by omega) fun U' h' S2 => Fin.of (hQ _ _ S2.dP)⟩
  rw [if_neg n1] at hQ
  refine ⟨fun h1 => ?_, fun n1 => ?_⟩
  · rw [if_pos h1] at hQ
    exact ⟨d.a, cellH_vec g rfl, d.b, cellH_vec g rfl, arename_wp S1 (by omega) fun U' h' S2 => Fin.of (hQ _ _ S2.dP)⟩
  rw [if_neg n1] at hQ
  refine ⟨fun h1 => ?_, fun n1 => ?_⟩
  · rw [if_pos h1] at hQ
    exact ⟨d.a, cellH_vec g rfl, d.b, cellH_vec g rfl, acut_wp S1 (by omega) fun U' h' S2 => Fin.of (hQ _ _ S2.dP)⟩
  rw [if_neg n1] at hQ
  refine ⟨fun h1 => ?_, fun n1 => ?_⟩
  · rw [if_pos h1] at hQ
    exact ⟨d.a, cellH_vec g rfl, recv_wp S1 (by omega) fun U' h' S2 => Fin.of (hQ _ _ S2.dP)⟩
  rw [if_neg n1] at hQ
  exact Fin.of (hQ _ _ S1.dP)
theorem noteS_len (v : VV) (s : AV) (k i : Int) : (noteS v s k i).rs.length ≤ s.rs.length + 1 := noteA_len _ _ _ _ _
theorem wS_len (v : VV) (s : AV) (i : Int) (F : DFL → DFL) : (wS v s i F).1.rs.length ≤ s.rs.length + 1 := by
  have := touchS_len v s i
  unfold wS; split <;> exact this
theorem doesA_len (v : VV) (s : AV) (d : DeedR) : (doesA v s d).1.rs.length ≤ s.rs.length + 2 := by
  have h1 := touchS_len v s d.a
  have h2 := noteS_len v s 0 d.a
  have h3 := noteS_len v s 2 d.a
  unfold doesA
  split
  · unfold loadA; split
    · split
      · show s.rs.length ≤ _; omega
      · show (noteS v s 0 d.a).rs.length ≤ _; omega
    · show s.rs.length ≤ _; omega
  split
  · unfold storeA; split <;> (show s.rs.length ≤ _; omega)
  split
  · unfold readA; split <;> (show (touchS v s d.a).rs.length ≤ _; omega)
  split
  · exact Nat.le_succ_of_le (wS_len _ _ _ _)
  split
  · exact Nat.le_succ_of_le (wS_len _ _ _ _)
  split
  · exact Nat.le_succ_of_le (wS_len _ _ _ _)
  split
  · unfold renameA; split
    · split
      · have := wS_len v (touchS v s d.a) d.b fun e => renS v.f e d.a d.b
        show (wS v (touchS v s d.a) d.b fun e => renS v.f e d.a d.b).1.rs.length ≤ _; omega
      · show (touchS v s d.a).rs.length ≤ _; omega
    · show s.rs.length ≤ _; omega
  split
  · exact Nat.le_succ_of_le (wS_len _ _ _ _)
  split
  · unfold recvA; split
    · split
      · split <;> (show (noteS v s 2 d.a).rs.length ≤ _; omega)
      · show (noteS v s 2 d.a).rs.length ≤ _; omega
    · show s.rs.length ≤ _; omega
  · show s.rs.length ≤ _; omega
end
end Go.Proofs.YtgldgabefiialaaGreat.H
namespace Go.Proofs.YtgldgabefiialaaGreat.H
open Go Go.RowKit
set_option linter.unusedVariables false
set_option maxRecDepth 100000
structure Pas (v : VV) (U : AU) (s : AV) : Prop where
  R : ERow U.rS U.vS s.rs
  O : U.x.Ok s.s
  a : AOk v s
theorem thF_one (v : VV) : ∀ y ∈ thF v, isOne y = true := by simp [thF, isOne, cT, fT, sT, lT]
section
variable {B : RO} {h0 h h' : Heap} {L M : List (Option (Nat × AObj))} {V : VI} {v : VV} {K K1 K2 : AK} {U U1 U2 : AU} {s s1 s2 : AV} {k : Nat} {i j : Int} {c : StV} {g : Reg4} {o o' : AObj} {y : Option (Nat × AObj)}
theorem Keep.swap {A X : List (Option (Nat × AObj))} (E : Keep B h0 (L ++ (A ++ X)) h) : Keep B h0 ((L ++ X) ++ A) h := by
  refine E.remap (fun j => if j < L.length then j else if j < L.length + X.length then j + A.length else j - X.length) (fun j y hj => ?_) (fun i j hi hj e => ?_)
  · have hl := (List.getElem?_eq_some_iff.1 hj).1
    rw [List.length_append, List.length_append] at hl
    by_cases h1 : j < L.length
    · simp only [if_pos h1]
      rw [List.append_assoc, List.getElem?_append_left h1] at hj
      rw [List.getElem?_append_left h1]; exact hj
    · simp only [if_neg h1]
      by_cases h2 : j < L.length + X.length
      · simp only [if_pos h2]
        rw [List.append_assoc, List.getElem?_append_right (by omega), List.getElem?_append_left (by omega)] at hj
        rw [List.getElem?_append_right (by omega), List.getElem?_append_right (by omega), show j + A.length - L.length - A.length = j - L.length by omega]; exact hj
      · simp only [if_neg h2]
        rw [List.getElem?_append_right (by rw [List.length_append]; omega), List.length_append] at hj
        rw [List.getElem?_append_right (by omega), List.getElem?_append_left (by omega), show j - X.length - L.length = j - (L.length + X.length) by omega]; exact hj
  · rw [List.length_append, List.length_append] at hi hj
    have e : (if i < L.length then i else if i < L.length + X.length then i + A.length else i - X.length) = (if j < L.length then j else if j < L.length + X.length then j + A.length else j - X.length) := e
    split at e <;> split at e <;> (try split at e) <;> (try split at e) <;> omega
theorem Keep.unswap {A X : List (Option (Nat × AObj))} (E : Keep B h0 ((L ++ X) ++ A) h) : Keep B h0 (L ++ (A ++ X)) h := by
  rw [List.append_assoc] at E
  rw [← List.append_assoc]
  exact E.swap
theorem Pas.view {v' : VV} (P : Pas v U s) (k : TomeOk v'.f) : Pas v' U s := ⟨P.R, P.O, P.a.view k⟩
theorem SS.pas (S : SS B h0 L h V v K U s) : Pas v U s := ⟨S.R, S.O, S.a⟩
theorem SS.of (E : Keep B h0 (L ++ (V.e v ++ AE V K U s)) h) (o : VOk V v) (P : Pas v U s) : SS B h0 L h V v K U s := ⟨E, o, P.R, P.O, P.a⟩
theorem SS.out (S : SS B h0 L h V v K U s) : Keep B h0 ((L ++ AE V K U s) ++ V.e v) h := S.E.swap
theorem SS.flip (S : SS B h0 (L ++ AE V K1 U1 s1) h V v K2 U2 s2) (P : Pas v U1 s1) : SS B h0 (L ++ AE V K2 U2 s2) h V v K1 U1 s1 := by
  refine .of ?_ S.o P
  have E := S.E
  rw [List.append_assoc] at E ⊢
  exact E.sM [16, 17, 18, 19, 20, 21, 22, 23, 24, 9, 10, 11, 12, 13, 14, 15, 0, 1, 2, 3, 4, 5, 6, 7, 8] (by decide)
theorem SS.drop2 {X : List (Option (Nat × AObj))} (S : SS B h0 (L ++ X) h V v K U s) : SS B h0 L h V v K U s := by
  refine .of ?_ S.o S.pas
  have E := S.E
  rw [List.append_assoc] at E
  exact E.dropMid
theorem alive20_wp {Q : Bool → Heap → Prop} (hQ : ∀ h', Keep B h [] h' → Q true h') : C_countermandlaw20_alive B h Q := by
  refine C_countermandlaw20_alive.of ?_
  unfold S_countermandlaw20_alive
  refine newview_wp fun V h2 o E1 => ?_
  refine anew_wp (L := []) (g := ⟨0, 0, 0, 0⟩) E1 o fun Ka Ua h4 Sa => ?_
  have Sa := Sa.drop2
  refine anew_wp (g := ⟨0, 0, 0, 0⟩) Sa.out o fun Kb Ub h6 Sb => ?_
  have Pa := Sa.pas
  have Sb := Sb.drop2
  have Pb := Sb.pas
  refine store_wp (Sb.flip Pa) fun Ua1 h8 Sa1 => ⟨fun _ => ?_, fun hn => absurd rfl hn⟩
  refine load_wp Sa1 (by decide) fun Ua2 h10 e2 Sa2 => ?_
  have Pa2 := Sa2.pas
  refine load_wp (Sa2.flip Pb) (by decide) fun Ub2 h13 e3 Sb2 => ⟨fun _ => ⟨fun _ => ?_, fun hn => absurd rfl hn⟩, fun hn => absurd rfl hn⟩
  refine land_wp (Sb2.flip Pa2) (by decide) (by decide) (fun _ r' h16 S => ⟨fun _ => ⟨_, rfl, _, S.E.cM 0 rfl (i := 3) rfl, Fin.of ?_⟩, fun e => by cases e⟩) (fun hv => absurd hv (by decide))
  exact hQ _ (by have := S.E.take 0; simpa using this)
end
end Go.Proofs.YtgldgabefiialaaGreat.H
namespace Go.Proofs.YtgldgabefiialaaGreat.H
open Go Go.RowKit
set_option linter.unusedVariables false
set_option maxRecDepth 100000
theorem TK.deeds_sl : PG.underlying TY.s_countermandref20_Deed = some (.slice TY.countermandref20_Deed) := by kernel_rfl
theorem TK.deed_kd : leafB PG 5 TY.countermandref20_Deed = some [.int .i64, .int .i64, .int .i64, .int .u8] := by kernel_rfl
theorem Deed_arg {H : Type} {enc : TypeId × Value → H} {w : World} {base : Nat} {spare : Nat → Bool} {held : Bool} {a : Option Addr} {len cap : Nat} {d : DataW H} {p : List MemPlace} (h : DataW.Trod enc PG w base spare held TY.s_countermandref20_Deed (.slice a len cap) d p) :
    ∃ l : List DeedR, len = l.length ∧ Reads (roOf w) noHeap a 4 DeedR.cells l := by
  have key : ∃ l : List DeedR, len = l.length ∧ Reads (roOf w) noHeap a 4 DeedR.cells l ∧ ∀ x ∈ l, True := arg_rows DeedR.cells (fun _ => True) TK.deeds_sl TK.deed_kd rfl (by omega) (fun vs h => by
    obtain ⟨z1, v1, rfl, _, h1⟩ := h.int
    obtain ⟨z2, v2, rfl, _, h2⟩ := h1.int
    obtain ⟨z3, v3, rfl, _, h3⟩ := h2.int
    obtain ⟨z4, v4, rfl, w4, h4⟩ := h3.int
    obtain rfl := h4.nil
    obtain ⟨c, rfl⟩ := u8_of w4
    exact ⟨⟨z1, z2, z3, c⟩, rfl, trivial⟩) h
  obtain ⟨l, h1, h2, _⟩ := key
  exact ⟨l, h1, h2⟩
theorem leaf_int (k : IntKind) (a : Int) : leafEq (.int k a) (.int k a) = true := beq_self_eq_true a
theorem leaf_bool (a : Bool) : leafEq (.bool a) (.bool a) = true := beq_self_eq_true a
theorem leaf_str (s : ByteArray) : leafEq (.string s) (.string s) = true := by cases s with | mk d => exact beq_self_eq_true d
theorem eqL_th (v : VV) : eqL (thF v) (thF v) = true := by
  have a := fun i => leaf_int .i64 (cellAt_int v.c i).1
  have b := fun i => leaf_bool (fileAt v.f i).1.1
  have c := fun i => leaf_str (fileAt v.f i).1.2
  have d := fun i => leaf_int .i64 (cellAt_int v.l i).1
  simp only [thF, eqL, cT, fT, sT, lT, a, b, c, d, Bool.and_true]
section
variable {B : RO} {h0 h h' : Heap} {L M : List (Option (Nat × AObj))} {V : VI} {v : VV} {K K1 K2 : AK} {U U1 U2 : AU} {s s1 s2 : AV} {k : Nat} {i j : Int} {c : StV} {g : Reg4} {o o' : AObj} {y z : Option (Nat × AObj)}
end
end Go.Proofs.YtgldgabefiialaaGreat.H
namespace Go.Proofs.YtgldgabefiialaaGreat.H
open Go Go.RowKit
set_option linter.unusedVariables false
set_option maxRecDepth 100000
section
variable {B : RO} {h0 h h' : Heap} {L M : List (Option (Nat × AObj))} {V : VI} {v : VV} {K K1 K2 : AK} {U U1 U2 : AU} {s s1 s2 : AV} {k : Nat} {i j : Int} {c : StV} {g : Reg4} {o o' : AObj} {y z : Option (Nat × AObj)}
theorem Reads.none : Reads B h none 4 DeedR.cells [] := fun i x hx => by cases hx
theorem fit_th (v : VV) : fitL [Kd.int .i64, Kd.int .i64, Kd.int .i64, Kd.int .i64, Kd.int .i64, Kd.int .i64, Kd.int .i64, Kd.int .i64, Kd.bool, Kd.str, Kd.bool, Kd.str, Kd.bool, Kd.str, Kd.bool, Kd.str, Kd.bool, Kd.str, Kd.bool, Kd.str, Kd.int .i64, Kd.int .i64, Kd.int .i64] (thF v) := by simp [fitL, fitK, thF, cT, fT, sT, lT]
end
end Go.Proofs.YtgldgabefiialaaGreat.H
namespace Go.Proofs.YtgldgabefiialaaGreat.H
open Go Go.RowKit
set_option linter.unusedVariables false
set_option maxRecDepth 100000
theorem vld_note {v : VV} {rs : List RE} {st k i : Int} (h : vld v rs = true) : vld v (noteA v rs st k i).2.1 = true := by
  have h1 : vld v (rs ++ [(k, i, verOf v k i)]) = true := by unfold vld at *; rw [List.all_append, h]; simp
  unfold noteA; split
  · exact h
  · split
    · first | exact h1 | (split <;> first | exact h1 | exact h)
    · exact h1
theorem vld_touch {v : VV} {s : AV} {i : Int} (h : vld v s.rs = true) : vld v (touchS v s i).rs = true := by
  unfold touchS; split
  · split
    · exact h
    · exact vld_note h
  · exact h
theorem vld_wS {v : VV} {s : AV} {i : Int} {F : DFL → DFL} (h : vld v s.rs = true) : vld v (wS v s i F).1.rs = true := by
  unfold wS; split <;> exact vld_touch h
theorem vld_does {v : VV} {s : AV} {d : DeedR} (h : vld v s.rs = true) : vld v (doesA v s d).1.rs = true := by
  unfold doesA
  split
  · unfold loadA; split
    · split
      · exact h
      · exact vld_note h
    · exact h
  split
  · unfold storeA; split <;> exact h
  split
  · unfold readA; split <;> exact vld_touch h
  split
  · exact vld_wS h
  split
  · exact vld_wS h
  split
  · exact vld_wS h
  split
  · unfold renameA; split
    · split
      · exact vld_wS (vld_touch h)
      · exact vld_touch h
    · exact h
  split
  · exact vld_wS h
  split
  · unfold recvA; split
    · split
      · split <;> exact vld_note h
      · exact vld_note h
    · exact h
  · exact h
def dsA (v : VV) (s : AV) (ds : List DeedR) : AV := ds.foldl (fun s d => (doesA v s d).1) s
theorem dsA_take {v : VV} {s : AV} {ds : List DeedR} {j : Nat} {d : DeedR} (h : ds[j]? = some d) : dsA v s (ds.take (j + 1)) = (doesA v (dsA v s (ds.take j)) d).1 := by
  obtain ⟨h1, rfl⟩ := List.getElem?_eq_some_iff.1 h
  rw [List.take_succ_eq_append_getElem h1, dsA, List.foldl_append]; rfl
theorem dsA_fact {v : VV} : ∀ (ds : List DeedR) (s : AV), vld v s.rs = true → vld v (dsA v s ds).rs = true ∧ (dsA v s ds).rs.length ≤ s.rs.length + 2 * ds.length := by
  intro ds
  induction ds with
  | nil => intro s h; exact ⟨h, by simp [dsA]⟩
  | cons d ds ih =>
    intro s h
    obtain ⟨h1, h2⟩ := ih (doesA v s d).1 (vld_does h)
    have := doesA_len v s d
    refine ⟨h1, ?_⟩
    show (dsA v (doesA v s d).1 ds).rs.length ≤ _
    rw [List.length_cons]; omega
theorem landV_eq {v : VV} {s s' : AV} (h : s.s = s'.s) : landV v s = landV v s' := by unfold landV; rw [h]
theorem setA_app {L M : List (Option (Nat × AObj))} {q k : Nat} {x : ActV} (h : q + 4 < L.length) : setA (L ++ M) q k x = setA L q k x ++ M := by
  unfold setA
  rw [List.set_append_left _ _ (by omega), List.set_append_left _ _ (by rw [List.length_set]; omega), List.set_append_left _ _ (by rw [List.length_set, List.length_set]; omega), List.set_append_left _ _ (by rw [List.length_set, List.length_set, List.length_set]; omega), List.set_append_left _ _ (by rw [List.length_set, List.length_set, List.length_set, List.length_set]; omega)]
theorem ActAt.app {L M : List (Option (Nat × AObj))} {q k : Nat} {x : ActV} (A : ActAt L q k x) : ActAt (L ++ M) q k x := ⟨up_app _ A.p, up_app _ A.q0, up_app _ A.q1, up_app _ A.q2, up_app _ A.q3⟩
theorem SkAt.app {L M : List (Option (Nat × AObj))} {q k : Nat} {v : Value} {r : Option (Nat × AObj)} (A : SkAt L q k v r) : SkAt (L ++ M) q k v r := ⟨up_app _ A.p, up_app _ A.q⟩
theorem ActAt.len {L : List (Option (Nat × AObj))} {q k : Nat} {x : ActV} (A : ActAt L q k x) : q + 4 < L.length := (List.getElem?_eq_some_iff.1 A.q3).1
section
variable {B : RO} {h0 h h' : Heap} {L M P : List (Option (Nat × AObj))} {V : VI} {v : VV} {K K1 K2 Ka Kb : AK} {U U1 U2 Ua Ub : AU} {s s1 s2 : AV} {k p q : Nat} {i j : Int} {c : StV} {g : Reg4} {o o' : AObj} {y z rK : Option (Nat × AObj)} {x : ActV} {t : ActS} {vK : Value} {ms : List MarkR}
theorem aacts_wp {Q : Option Addr → Heap → Prop} (S : SS B h0 L h V v K U s) (hQ : Q (some ⟨K.kX, 0, none⟩) h) : C_attempt_Attempt_Acts B (some ⟨K.kA, 0, none⟩) h Q := by
  refine C_attempt_Attempt_Acts.of ?_
  unfold S_attempt_Attempt_Acts
  exact ⟨fun e => (by cases e), fun _ => ⟨_, rfl, _, S.E.cM 7 rfl (i := 9) rfl, Fin.of hQ⟩⟩
theorem SS.e (S : SS B h0 L h V v K U s) {L' : List (Option (Nat × AObj))} {h1 : Heap} (E : Keep B h0 (L' ++ (V.e v ++ AE V K U s)) h1) : SS B h0 L' h1 V v K U s := ⟨E, S.o, S.R, S.O, S.a⟩
theorem asend_wp {a b : Int} {Q : Bool → Heap → Prop} (S : SS B h0 L h V v K U s) (A : ActAt L q K.kX x) (W : ARows t x) (hl : t.outs.length < 10000) (ha : 0 ≤ a ∧ a < 3) (hQ : ∀ x' h', ARows { t with outs := t.outs ++ [(a, b)] } x' → SS B h0 (setA L q K.kX x') h' V v K U s → Q true h') : C_acts_Acts_Send B (some ⟨K.kX, 0, none⟩) a b h Q :=
  send_wp S.E A.app W hl (fun hn => absurd ha hn) fun _ _ x' h' W' E' => hQ x' h' W' (S.e (by rw [setA_app A.len] at E'; exact E'))
theorem aopen_wp {a b : Int} {Q : Bool → Heap → Prop} (S : SS B h0 L h V v K U s) (A : ActAt L q K.kX x) (W : ARows t x) (hl : t.opens.length < 10000) (ha : 0 ≤ a ∧ a < 4) (hQ : ∀ x' h', ARows { t with opens := t.opens ++ [(a, b)] } x' → SS B h0 (setA L q K.kX x') h' V v K U s → Q true h') : C_acts_Acts_Opened B (some ⟨K.kX, 0, none⟩) a b h Q :=
  open_wp S.E A.app W hl (fun hn => absurd ha hn) fun _ _ x' h' W' E' => hQ x' h' W' (S.e (by rw [setA_app A.len] at E'; exact E'))
theorem setregs_wp {g' : Reg4} {Q : Heap → Prop} (S : SS B h0 L h V v K U s) (hQ : ∀ h', SS B h0 L h' V v K U { s with g := g' } → Q h') : C_attempt_Attempt_SetRegs B (some ⟨K.kA, 0, none⟩) g'.a g'.b g'.c g'.d h Q := by
  refine C_attempt_Attempt_SetRegs.of ?_
  unfold S_attempt_Attempt_SetRegs
  intro k6 a6 b6 h7 e7
  have S1 := S.nP a6 b6 e7
  refine ⟨fun e => (by cases e), fun _ => ⟨_, _, _, _, ⟨cellH_vec S1.gP rfl, cellH_vec S1.gP rfl, cellH_vec S1.gP rfl, cellH_vec S1.gP rfl, trivial⟩, _, rfl, ?_⟩⟩
  obtain ⟨h2, st, E2⟩ := S1.E.vM (k := K.kA) (t := TY.attempt_Attempt) (nn := 11) (fs := [.pointer (some ⟨V.kV, 0, none⟩), .pointer (some ⟨K.kS, 0, none⟩), .pointer (some ⟨U.x.kd, 0, none⟩), .pointer (some ⟨U.x.ks, 0, none⟩), .pointer (some ⟨U.x.kc, 0, none⟩)]) (gs := [.int .i64 s.g.a, .int .i64 s.g.b, .int .i64 s.g.c, .int .i64 s.g.d, .pointer (some ⟨K.kX, 0, none⟩), .pointer (some ⟨K.kK, 0, none⟩)]) 7 rfl [.int .i64 g'.a, .int .i64 g'.b, .int .i64 g'.c, .int .i64 g'.d] (by simp [isOne]) 5 rfl (by simp)
  exact ⟨h2, st, Fin.of (hQ h2 (SS.dP (y := some (k6, _)) ⟨E2, S.o, S.R, S.O, S.a.re rfl⟩))⟩
theorem regs_wp {Q : Int → Int → Int → Int → Heap → Prop} (S : SS B h0 L h V v K U s) (hQ : ∀ h', SS B h0 L h' V v K U s → Q s.g.a s.g.b s.g.c s.g.d h') : C_attempt_Attempt_Regs B (some ⟨K.kA, 0, none⟩) h Q := by
  refine C_attempt_Attempt_Regs.of ?_
  unfold S_attempt_Attempt_Regs
  intro k6 a6 b6 h7 e7
  have S1 := S.nP a6 b6 e7
  refine ⟨fun e => (by cases e), fun _ => ⟨_, rfl, s.g.a, s.g.b, s.g.c, s.g.d, ⟨S1.E.cM 7 rfl (i := 5) rfl, S1.E.cM 7 rfl (i := 6) rfl, S1.E.cM 7 rfl (i := 7) rfl, S1.E.cM 7 rfl (i := 8) rfl, trivial⟩, _, stores_whole S1.gP rfl (by simp) (by simp [isOne]) (by simp), ?_⟩⟩
  have S2 := S1.pP (o' := .vec TY.api_Regs (plains [.int .i64 s.g.a, .int .i64 s.g.b, .int .i64 s.g.c, .int .i64 s.g.d]) 4)
  exact ⟨_, _, _, _, ⟨cellH_vec S2.gP rfl, cellH_vec S2.gP rfl, cellH_vec S2.gP rfl, cellH_vec S2.gP rfl, trivial⟩, Fin.of (hQ _ S2.dP)⟩
theorem sure_wp {Q : Heap → Prop} (S : SS B h0 L h V v K U s) (Z : SkAt L p K.kK vK rK) (R : MRow rK vK ms) (hQ : ∀ v' r' h', MRow r' v' [] → SS B h0 ((L.set p (some (K.kK, skO v'))).set (p + 1) r') h' V v K U s → Q h') : C_attempt_Attempt_Sure B (some ⟨K.kA, 0, none⟩) h Q := by
  refine C_attempt_Attempt_Sure.of ?_
  unfold S_attempt_Attempt_Sure
  have h1 := (List.getElem?_eq_some_iff.1 Z.p).1
  have h2 := (List.getElem?_eq_some_iff.1 Z.q).1
  refine ⟨fun e => (by cases e), fun _ => ⟨_, rfl, _, S.E.cM 7 rfl (i := 10) rfl, clear_wp S.E Z.app R fun v' r' h' R' E' => Fin.of (hQ v' r' h' R' (S.e ?_))⟩⟩
  rw [List.set_append_left _ _ h1, List.set_append_left _ _ (by rw [List.length_set]; exact h2)] at E'
  exact E'
theorem SS.stAt (S : SS B h0 L h V v K U s) : StAt (L ++ (V.e v ++ AE V K U s)) (L.length + 10) U.x s.s := ⟨⟨upM 10 rfl, upM 11 rfl⟩, upM 12 rfl, ⟨upM 13 rfl, upM 14 rfl⟩, upM 15 rfl⟩
theorem else_wp {pl : Int} {Q : Heap → Prop} (S : SS B h0 L h V v K U s) (A : ActAt L q K.kX x) (W : ARows t x) (Z : SkAt L p K.kK vK rK) (R : MRow rK vK ms) (hl : ms.length ≤ 1000)
    (hQ : ∀ x' vK' rK' h', StI.Ok x' s.s → MRow rK' vK' (ms ++ [⟨x', s.g, ⟨t.outs.length, t.later.length, t.notes.length, t.opens.length⟩, pl⟩]) → SS B h0 (((L.set p (some (K.kK, skO vK'))).set (p + 1) rK') ++ x'.e s.s) h' V v K U s → Q h') : C_attempt_Attempt_Else B (some ⟨K.kA, 0, none⟩) pl h Q := by
  refine C_attempt_Attempt_Else.of ?_
  unfold S_attempt_Attempt_Else
  have h1 := (List.getElem?_eq_some_iff.1 Z.p).1
  have h2 := (List.getElem?_eq_some_iff.1 Z.q).1
  have cc : ∀ {h1 : Heap}, Keep B h0 (L ++ (V.e v ++ AE V K U s)) h1 → CellsAt B h1 ⟨K.kA, 2, none⟩ 0 [.pointer (some ⟨U.x.kd, 0, none⟩), .pointer (some ⟨U.x.ks, 0, none⟩), .pointer (some ⟨U.x.kc, 0, none⟩), .int .i64 s.g.a, .int .i64 s.g.b, .int .i64 s.g.c, .int .i64 s.g.d] := fun E => ⟨E.cM 7 rfl (i := 2) rfl, E.cM 7 rfl (i := 3) rfl, E.cM 7 rfl (i := 4) rfl, E.cM 7 rfl (i := 5) rfl, E.cM 7 rfl (i := 6) rfl, E.cM 7 rfl (i := 7) rfl, E.cM 7 rfl (i := 8) rfl, trivial⟩
  refine ⟨fun e => (by cases e), fun _ => ⟨_, rfl, _, S.E.cM 7 rfl (i := 10) rfl, _, rfl, _, _, _, _, _, _, _, cc S.E, _, rfl, _, S.E.cM 7 rfl (i := 9) rfl, marksA_wp S.E A.app W fun h3 E3 => ⟨E3.cM 7 rfl (i := 10) rfl, cc E3, E3.cM 7 rfl (i := 9) rfl, ?_⟩⟩⟩
  have dl := S.a.dlen
  have fl := S.a.so.len
  refine push_wp (g := s.g) (mm := ⟨t.outs.length, t.later.length, t.notes.length, t.opens.length⟩) E3 Z.app R (by omega) (S.e E3).stAt S.O (by omega) (by omega) fun x' v' r' h' O' R' E' => Fin.of (hQ x' v' r' h' O' R' (S.e ?_))
  rw [List.set_append_left _ _ h1, List.set_append_left _ _ (by rw [List.length_set]; exact h2), List.append_assoc] at E'
  exact E'.swap
theorem back_none {Q : Int → Option Addr → Nat → Nat → Bool → Heap → Prop} (S : SS B h0 L h V v K U s) (Z : SkAt L p K.kK vK rK) (R : MRow rK vK []) (hQ : ∀ h', SS B h0 L h' V v K U s → Q 0 none 0 0 false h') : C_attempt_Attempt_Back B (some ⟨K.kA, 0, none⟩) h Q := by
  refine C_attempt_Attempt_Back.of ?_
  unfold S_attempt_Attempt_Back
  refine ⟨fun e => (by cases e), fun _ => ⟨_, rfl, _, S.E.cM 7 rfl (i := 10) rfl, pop_wp S.E Z.app R (by simp) (fun _ h1 E1 => ⟨fun e => (by cases e), fun _ k25 a25 b25 h26 e26 => ?_⟩) fun l' z v' r' h' e => ?_⟩⟩
  · have S2 := (S.e E1).nP a25 b25 e26
    refine ⟨_, stores_whole S2.gP rfl (by simp) (by simp [isOne]) (by simp), Fin.of (hQ _ ?_)⟩
    exact (S2.pP (o' := .vec TY.mark_Mark (plains zeroM) 12)).dP
  · exact absurd (congrArg List.length e) (by simp)
theorem back_one {z : MarkR} {st1 : StV} {Q : Int → Option Addr → Nat → Nat → Bool → Heap → Prop} (S : SS B h0 (L ++ z.x.e st1) h V v K U s) (A : ActAt L q K.kX x) (W : ARows t x) (Z : SkAt L p K.kK vK rK) (hqp : q + 4 < p) (R : MRow rK vK (ms ++ [z])) (hl : ms.length ≤ 1000) (O1 : z.x.Ok st1) (a1 : AOk v { s with s := st1, g := z.g })
    (hQ : ∀ x' vK' rK' a' m' c' r' h', MRow rK' vK' ms → ARows (cutA t z.m.a z.m.b z.m.c z.m.d) x' → Row r' (.slice a' m' c') TY.acts_Open 2 ((undoL (t.opens.drop (min t.opens.length z.m.d.toNat))).flatMap OpenC) →
      SS B h0 (setA ((L.set p (some (K.kK, skO vK'))).set (p + 1) rK') q K.kX x' ++ [r']) h' V v K ⟨U.vS, U.rS, z.x⟩ { s with s := st1, g := z.g } → Q z.place a' m' c' true h') : C_attempt_Attempt_Back B (some ⟨K.kA, 0, none⟩) h Q := by
  refine C_attempt_Attempt_Back.of ?_
  unfold S_attempt_Attempt_Back
  have h1 := (List.getElem?_eq_some_iff.1 Z.p).1
  have h2 := (List.getElem?_eq_some_iff.1 Z.q).1
  refine ⟨fun e => (by cases e), fun _ => ⟨_, rfl, _, S.E.cM 7 rfl (i := 10) rfl, pop_wp S.E (SkAt.app Z.app) R (by simp; omega) (fun e => absurd (congrArg List.length e) (by simp)) fun l' z' v' r' h11 e R' E1 => ?_⟩⟩
  obtain ⟨e1, e2⟩ := List.append_inj' e rfl
  subst e1
  obtain rfl : z = z' := by cases e2; rfl
  rw [List.append_assoc, List.set_append_left _ _ h1, List.set_append_left _ _ (by rw [List.length_set]; exact h2)] at E1
  generalize hL1 : (L.set p (some (K.kK, skO v'))).set (p + 1) r' = L1 at E1
  have A1 : ActAt L1 q K.kX x := by
    subst hL1
    refine ⟨?_, ?_, ?_, ?_, ?_⟩
    · rw [List.getElem?_set_ne (by omega), List.getElem?_set_ne (by omega)]; exact A.p
    · rw [List.getElem?_set_ne (by omega), List.getElem?_set_ne (by omega)]; exact A.q0
    · rw [List.getElem?_set_ne (by omega), List.getElem?_set_ne (by omega)]; exact A.q1
    · rw [List.getElem?_set_ne (by omega), List.getElem?_set_ne (by omega)]; exact A.q2
    · rw [List.getElem?_set_ne (by omega), List.getElem?_set_ne (by omega)]; exact A.q3
  refine ⟨fun _ k28 a28 b28 h29 e29 => ?_, fun e => by cases e⟩
  have E2 := E1.nM a28 b28 e29
  refine ⟨_, stores_whole (E2.gM 22 rfl) rfl (by simp) (by simp [isOne]) (by simp), ?_⟩
  have E3 := E2.pM (o' := .vec TY.mark_Mark (plains z.cells) 12) 22 rfl
  refine ⟨_, _, _, _, _, _, _, ⟨E3.cM 22 rfl (i := 0) rfl, E3.cM 22 rfl (i := 1) rfl, E3.cM 22 rfl (i := 2) rfl, E3.cM 22 rfl (i := 3) rfl, E3.cM 22 rfl (i := 4) rfl, E3.cM 22 rfl (i := 5) rfl, E3.cM 22 rfl (i := 6) rfl, trivial⟩, _, rfl, ?_⟩
  obtain ⟨h40, st, E4⟩ := E3.vM (k := K.kA) (t := TY.attempt_Attempt) (nn := 11) (fs := [.pointer (some ⟨V.kV, 0, none⟩), .pointer (some ⟨K.kS, 0, none⟩)]) (gs := [.pointer (some ⟨U.x.kd, 0, none⟩), .pointer (some ⟨U.x.ks, 0, none⟩), .pointer (some ⟨U.x.kc, 0, none⟩), .int .i64 s.g.a, .int .i64 s.g.b, .int .i64 s.g.c, .int .i64 s.g.d, .pointer (some ⟨K.kX, 0, none⟩), .pointer (some ⟨K.kK, 0, none⟩)]) 13 rfl [.pointer (some ⟨z.x.kd, 0, none⟩), .pointer (some ⟨z.x.ks, 0, none⟩), .pointer (some ⟨z.x.kc, 0, none⟩), .int .i64 z.g.a, .int .i64 z.g.b, .int .i64 z.g.c, .int .i64 z.g.d] (by simp [isOne]) 2 rfl (by simp)
  have E5 : Keep B h0 (L1 ++ [some (z.x.kd, drO_int z.x.vd), z.x.rd, some (z.x.ks, shO z.x.kf), some (z.x.kf, drO_file_File z.x.vf), z.x.rf, some (z.x.kc, curO st1), some (V.kV, viewO V v.t), some (V.kC, rowO_int v.c), some (V.kT, tomO V.kR), some (V.kR, frO V.vt), V.rt, some (V.kF, feedO v.ts V.kP), some (V.kP, rowO_int v.l), some (K.kA, attO V K z.x z.g), some (K.kS, rsO U.vS s.st), U.rS, some (U.x.kd, drO_int U.x.vd), U.x.rd, some (U.x.ks, shtO U.x.kf), some (U.x.kf, drO_file_File U.x.vf), U.x.rf, some (U.x.kc, curO s.s), some (k28, .vec TY.mark_Mark (plains z.cells) 12)]) h40 := E4
  clear E4 E3 E2 E1
  refine ⟨h40, st, z.place, E5.cM 22 rfl (i := 11) rfl, _, rfl, _, E5.cM 13 rfl (i := 9) rfl, z.m.a, z.m.b, z.m.c, z.m.d, ⟨E5.cM 22 rfl (i := 7) rfl, E5.cM 22 rfl (i := 8) rfl, E5.cM 22 rfl (i := 9) rfl, E5.cM 22 rfl (i := 10) rfl, trivial⟩, ?_⟩
  refine backA_wp E5 A1.app W fun a' m' c' ru x' h57 Ru W' E6 => ?_
  rw [setA_app A1.len, List.append_assoc] at E6
  refine ⟨E6.cM 22 rfl (i := 11) rfl, E6.cM 13 rfl (i := 9) rfl, ⟨E6.cM 22 rfl (i := 7) rfl, E6.cM 22 rfl (i := 8) rfl, E6.cM 22 rfl (i := 9) rfl, E6.cM 22 rfl (i := 10) rfl, trivial⟩, Fin.of ?_⟩
  subst hL1
  refine hQ x' v' r' a' m' c' ru h57 R' W' Ru ⟨?_, S.o, S.R, O1, a1⟩
  rw [List.append_assoc]
  exact E6.sM [23, 6, 7, 8, 9, 10, 11, 12, 13, 14, 15, 0, 1, 2, 3, 4, 5] (by decide)
end
end Go.Proofs.YtgldgabefiialaaGreat.H
namespace Go.Proofs.YtgldgabefiialaaGreat.H
open Go Go.RowKit
set_option linter.unusedVariables false
set_option maxRecDepth 100000
def regO (g : Reg4) : AObj := .vec TY.api_Regs (plains [.int .i64 g.a, .int .i64 g.b, .int .i64 g.c, .int .i64 g.d]) 4
def PB (k15 : Nat) (g : Reg4) (kX : Nat) (x : ActV) (kK : Nat) (vK : Value) (rK : Option (Nat × AObj)) : List (Option (Nat × AObj)) := [some (k15, regO g), some (kX, x.o), x.r0, x.r1, x.r2, x.r3, some (kK, skO vK), rK]
def GR (V : VI) (v : VV) (K : AK) (U : AU) (s : AV) : List (Option (Nat × AObj)) := V.e v ++ AE V K U s
def vA (text : ByteArray) : VV := { vz with ts := arrT ts0 0 text }
section
variable {B : RO} {h0 h h' : Heap} {L M P : List (Option (Nat × AObj))} {V W : VI} {v w : VV} {K K1 K2 Ka Kb : AK} {U U1 U2 Ua Ub : AU} {s s1 s2 sa sb : AV} {k p q k15 : Nat} {i j pl : Int} {c : StV} {g : Reg4} {o o' : AObj} {y z rK : Option (Nat × AObj)} {x : ActV} {t : ActS} {vK : Value} {ms : List MarkR} {text : ByteArray} {Q : Bool → Heap → Prop}
theorem SS.flipG (S : SS B h0 (P ++ GR W w Kb Ub sb) h V v Ka Ua sa) (ow : VOk W w) (pb : Pas w Ub sb) : SS B h0 (P ++ GR V v Ka Ua sa) h W w Kb Ub sb := by
  refine .of ?_ ow pb
  have E := S.E.unswap
  rw [← List.append_assoc] at E
  exact E
theorem Back_J5 (S : SS B h0 (P ++ GR W v Kb Ub sb) h V v Ka Ua sa) (ow : VOk W v) (hQ : ∀ h', Keep B h0 P h' → Q true h') : S_countermandlaw20_AttemptBack_J5 B (some ⟨V.kV, 0, none⟩) (some ⟨W.kV, 0, none⟩) h Q := by
  unfold S_countermandlaw20_AttemptBack_J5
  have cc : ∀ {k : Nat} {hh : Heap}, hh k = some (.vec TY.countermandref20_Things (plains (thF v)) 23) → CellsAt B hh ⟨k, 0, none⟩ 0 (thF v) := fun {k hh} g => CellsAt.of_vec (thF v) 0 g fun j y hj => by rw [show 0 + 0 + j = j by omega]; exact plains_get_some hj
  refine things_wp S.E VAt.mk S.o fun h1 E1 k1 a1 b1 h2 e2 k2 a2 b2 h3 e3 => ?_
  have S3 := ((S.e E1).nP a1 b1 e2).nP a2 b2 e3
  refine ⟨rfl, _, stores_whole S3.gP' rfl (by simp [thF]) (thF_one _) (by simp [thF]), ?_⟩
  have S4 := S3.pP' (o' := .vec TY.countermandref20_Things (plains (thF v)) 23)
  refine ⟨_, stores_whole S4.gP rfl (by simp) (by simp [isOne]) (by simp), ?_⟩
  have S5 := (S4.pP (o' := .vec TY.a_3_string (plains (txF v.ts)) 3)).dP
  have aw : VAt ((P ++ GR W v Kb Ub sb) ++ [some (k1, .vec TY.countermandref20_Things (plains (thF v)) 23)] ++ (V.e v ++ AE V Ka Ua sa)) P.length W v := by
    rw [List.append_assoc, List.append_assoc]
    unfold GR
    rw [List.append_assoc]
    exact VAt.mk
  refine things_wp S5.E aw ow fun h6 E6 k3 a3 b3 h7 e7 k4 a4 b4 h8 e8 => ?_
  have S8 := ((S5.e E6).nP a3 b3 e7).nP a4 b4 e8
  refine ⟨rfl, _, stores_whole S8.gP' rfl (by simp [thF]) (thF_one _) (by simp [thF]), ?_⟩
  have S9 := S8.pP' (o' := .vec TY.countermandref20_Things (plains (thF v)) 23)
  refine ⟨_, stores_whole S9.gP rfl (by simp) (by simp [isOne]) (by simp), ?_⟩
  have S10 := (S9.pP (o' := .vec TY.a_3_string (plains (txF v.ts)) 3)).dP
  refine ⟨thF v, rfl, cc S10.gP', thF v, rfl, cc S10.gP, fit_th v, fit_th v, Fin.of ?_⟩
  rw [decide_eq_true (eqL_th v)]
  have E := S10.E
  rw [List.append_assoc, List.append_assoc, List.append_assoc] at E
  exact hQ _ E.popL
theorem Back_J4 (S : SS B h0 (P ++ GR W v Kb Ub sb) h V v Ka Ua sa) (ow : VOk W v) (pb : Pas v Ub sb) (he : sa.s = sb.s) (va : vld v sa.rs = true) (vb : vld v sb.rs = true) (la : sa.rs.length ≤ 1000) (lb : sb.rs.length ≤ 1000) (ht : v.t = 0) (hQ : ∀ h', Keep B h0 P h' → Q true h') : S_countermandlaw20_AttemptBack_J4 B (some ⟨V.kV, 0, none⟩) (some ⟨W.kV, 0, none⟩) (some ⟨Ka.kA, 0, none⟩) (some ⟨Kb.kA, 0, none⟩) h Q := by
  unfold S_countermandlaw20_AttemptBack_J4
  refine land_wp S (by omega) (by omega) (fun _ r1 h1 S1 => ⟨fun _ => ?_, fun e => by cases e⟩) (fun hF => absurd (va.symm.trans hF) (by decide))
  have pa := S1.pas
  have oa := S1.o
  refine land_wp (SS.flipG (V := V.w r1) S1 ow pb) (by omega) (by omega) (fun _ r2 h2 S2 => ⟨fun _ => Fin.of ?_, fun e => by cases e⟩) (fun hF => absurd (vb.symm.trans hF) (by decide))
  have e : landV v sb = landV v sa := landV_eq he.symm
  rw [e] at S2
  have ob := S2.o
  exact Back_J5 (V := V.w r1) (W := W.w r2) (SS.flipG (W := V.w r1) (V := W.w r2) S2 oa pa) ob hQ
theorem und_ok : undoL (([(1, 5), (2, 6)] : List (Int × Int)).drop (min 2 0)) = [(2, -6), (1, -5)] := by decide
theorem eqL_reg (a b c d : Int) : eqL [.int .i64 a, .int .i64 b, .int .i64 c, .int .i64 d] [.int .i64 a, .int .i64 b, .int .i64 c, .int .i64 d] = true := by simp [eqL, leafEq]
theorem Back_J3 {sure : Bool} {x1 : StI} {st1 : StV} (S : SS B h0 ((PB k15 g Ka.kX x Ka.kK vK rK ++ GR W v Kb Ub sb) ++ x1.e st1) h V v Ka Ua sa) (ow : VOk W v) (pb : Pas v Ub sb) (O1 : x1.Ok st1) (a1 : AOk v { sa with s := st1, g := g })
    (Wx : ARows ⟨[(0, 7)], [], [], []⟩ x) (R : MRow rK vK ([] ++ [⟨x1, g, ⟨1, 0, 0, 0⟩, pl⟩])) (he : st1 = sb.s) (va : vld v sa.rs = true) (vb : vld v sb.rs = true) (la : sa.rs.length ≤ 1000) (lb : sb.rs.length ≤ 1000) (ht : v.t = 0) (hQ : ∀ h', Keep B h0 [] h' → Q true h') :
    S_countermandlaw20_AttemptBack_J3 B pl sure k15 (some ⟨V.kV, 0, none⟩) (some ⟨W.kV, 0, none⟩) (some ⟨Ka.kA, 0, none⟩) (some ⟨Kb.kA, 0, none⟩) h Q := by
  unfold S_countermandlaw20_AttemptBack_J3
  refine aacts_wp S (asend_wp (q := 1) (x := x) S ⟨rfl, rfl, rfl, rfl, rfl⟩ Wx (by decide) (by decide) fun x2 h2 W2 S2 => ?_)
  replace S2 : SS B h0 ((PB k15 g Ka.kX x2 Ka.kK vK rK ++ GR W v Kb Ub sb) ++ x1.e st1) h2 V v Ka Ua sa := S2
  refine aacts_wp S2 (aopen_wp (q := 1) (x := x2) S2 ⟨rfl, rfl, rfl, rfl, rfl⟩ W2 (by decide) (by decide) fun x3 h3 W3 S3 => ?_)
  replace S3 : SS B h0 ((PB k15 g Ka.kX x3 Ka.kK vK rK ++ GR W v Kb Ub sb) ++ x1.e st1) h3 V v Ka Ua sa := S3
  refine aacts_wp S3 (aopen_wp (q := 1) (x := x3) S3 ⟨rfl, rfl, rfl, rfl, rfl⟩ W3 (by decide) (by decide) fun x4 h4 W4 S4 => ?_)
  replace S4 : SS B h0 ((PB k15 g Ka.kX x4 Ka.kK vK rK ++ GR W v Kb Ub sb) ++ x1.e st1) h4 V v Ka Ua sa := S4
  replace W4 : ARows ⟨[(0, 7), (1, 9)], [], [], [(1, 5), (2, 6)]⟩ x4 := W4
  clear S S2 S3 W2 W3 Wx
  refine setregs_wp (g' := ⟨pl, 1, 2, 3⟩) S4 fun h5 S5 => ?_
  have nil : ∀ {h1 : Heap} {N : List (Option (Nat × AObj))}, Keep B h0 N h1 → Keep B h0 [] h1 := fun E => by have := E.take 0; simpa using this
  refine ⟨fun _ => ?_, fun _ => ?_⟩
  · refine sure_wp (p := 6) (vK := vK) (rK := rK) S5 ⟨rfl, rfl⟩ R fun v6 r6 h6 R6 S6 => ?_
    refine back_none (p := 6) (vK := v6) (rK := r6) S6 ⟨rfl, rfl⟩ R6 fun h7 S7 => ⟨fun e => (by cases e), fun _ => ?_⟩
    refine regs_wp S7 fun h8 S8 => Fin.of ?_
    rw [decide_eq_true (eqL_reg _ _ _ _)]
    exact hQ _ (nil S8.E)
  · refine back_one (L := PB k15 g Ka.kX x4 Ka.kK vK rK ++ GR W v Kb Ub sb) (z := ⟨x1, g, ⟨1, 0, 0, 0⟩, pl⟩) (ms := []) (q := 1) (p := 6) (x := x4) (st1 := st1) (vK := vK) (rK := rK) S5 ⟨rfl, rfl, rfl, rfl, rfl⟩ W4 ⟨rfl, rfl⟩ (by decide) R (by decide) O1 a1 fun x6 v6 r6 a' m' c' ru h6 R6 W6 Ru S6 => ⟨fun _ => ?_, fun e => by cases e⟩
    replace S6 : SS B h0 ((PB k15 g Ka.kX x6 Ka.kK v6 r6 ++ GR W v Kb Ub sb) ++ [ru]) h6 V v Ka ⟨Ua.vS, Ua.rS, x1⟩ { sa with s := st1, g := g } := S6
    refine back_none (p := 6) (vK := v6) (rK := r6) S6 ⟨rfl, rfl⟩ R6 fun h7 S7 => ⟨fun e => (by cases e), fun _ => ?_⟩
    replace Ru : Row ru (.slice a' m' c') TY.acts_Open 2 (([(2, -6), (1, -5)] : List (Int × Int)).flatMap OpenC) := by rw [← und_ok]; exact Ru
    obtain ⟨hm, rd⟩ := Row.rd (B := B) Ru OpenC_len (by omega)
    replace hm : m' = 2 := hm
    subst hm
    have ua : ∀ {h1 : Heap} {N : List (Option (Nat × AObj))}, Keep B h0 ((PB k15 g Ka.kX x6 Ka.kK v6 r6 ++ GR W v Kb Ub sb) ++ [ru] ++ N) h1 → ∀ k o, ru = some (k, o) → h1 k = some o := fun {h1 N} E k o e => E.at (PB k15 g Ka.kX x6 Ka.kK v6 r6 ++ GR W v Kb Ub sb).length (by rw [atMid, e])
    obtain ⟨A, f1, -, -⟩ := rd h7 (ua S7.E) 0 (2, -6) rfl
    have cu : ∀ {h1 : Heap}, (∀ k o, ru = some (k, o) → h1 k = some o) → cellH B h1 (Addr.add A (Int.toNat 0 * 2)) = some (.int .i64 2) ∧ cellH B h1 (Addr.add (Addr.add A (Int.toNat 1 * 2)) 1) = some (.int .i64 (-5)) := fun {h1} hr => by
      obtain ⟨A1, g1, -, c1⟩ := rd h1 hr 0 (2, -6) rfl
      obtain ⟨A2, g2, -, c2⟩ := rd h1 hr 1 (1, -5) rfl
      rw [f1] at g1 g2
      cases g1; cases g2
      exact ⟨c1.1, c2.2.1⟩
    have cg : ∀ {h1 : Heap} {N : List (Option (Nat × AObj))}, Keep B h0 (PB k15 g Ka.kX x6 Ka.kK v6 r6 ++ N) h1 → CellsAt B h1 ⟨k15, 0, none⟩ 0 [.int .i64 g.a, .int .i64 g.b, .int .i64 g.c, .int .i64 g.d] := fun {h1 N} E => ⟨E.cell 0 rfl rfl, E.cell 0 rfl rfl, E.cell 0 rfl rfl, E.cell 0 rfl rfl, trivial⟩
    have asx : ∀ {h1 : Heap} {N : List (Option (Nat × AObj))}, Keep B h0 ((PB k15 g Ka.kX x6 Ka.kK v6 r6 ++ GR W v Kb Ub sb) ++ [ru] ++ N) h1 → Keep B h0 (PB k15 g Ka.kX x6 Ka.kK v6 r6 ++ (GR W v Kb Ub sb ++ ([ru] ++ N))) h1 := fun {h1 N} E => by
      rw [List.append_assoc, List.append_assoc] at E; exact E
    refine ⟨fun _ => ⟨fun _ => ⟨A, f1, by decide, by decide, 2, (cu (ua S7.E)).1, fun _ => ⟨A, f1, by decide, by decide, -5, (cu (ua S7.E)).2, fun _ => ?_, fun e => absurd rfl e⟩, fun e => absurd rfl e⟩, fun e => absurd rfl e⟩, fun e => absurd rfl e⟩
    refine ⟨g.a, g.b, g.c, g.d, cg (asx S7.E), regs_wp S7 fun h8 S8 => ⟨(cu (ua S8.E)).1, (cu (ua S8.E)).2, cg (asx S8.E), fun _ => ?_, fun e => absurd (eqL_reg _ _ _ _) e⟩⟩
    refine aacts_wp S8 ⟨(cu (ua S8.E)).1, (cu (ua S8.E)).2, cg (asx S8.E), ?_⟩
    refine output_wp (i := 1) (x := x6) (s := ⟨[(0, 7)], [], [], []⟩) S8.E ⟨rfl, rfl, rfl, rfl, rfl⟩ W6 fun a9 m9 c9 r9 h9 R9 E9 => ?_
    have hm9 := (Row.rd (B := B) R9 OutC_len (by omega)).1
    replace hm9 : m9 = 1 := hm9
    subst hm9
    have E10 := E9.pop
    refine ⟨(cu (ua E10)).1, (cu (ua E10)).2, cg (asx E10), fun _ => Fin.of ?_, fun e => absurd rfl e⟩
    exact Back_J4 (P := PB k15 g Ka.kX x6 Ka.kK v6 r6) (S8.e E10).dP ow pb he va vb la lb ht fun h' E => hQ h' (nil E)
end
end Go.Proofs.YtgldgabefiialaaGreat.H
namespace Go.Proofs.YtgldgabefiialaaGreat.H
open Go Go.RowKit
set_option linter.unusedVariables false
set_option maxRecDepth 100000
theorem arr_ok {text : ByteArray} (ht : text.size ≤ 64) : FeedOk (vA text).ts (vA text).l := FeedOk.zero.arrive 0 text
theorem wS_g (v : VV) (s : AV) (i : Int) (F : DFL → DFL) : (wS v s i F).1.g = s.g := by
  unfold wS; split
  · exact (touchS_s v s i).2
  · exact (touchS_s v s i).2
theorem doesA_g (v : VV) (s : AV) (d : DeedR) : (doesA v s d).1.g = s.g := by
  unfold doesA
  split
  · unfold loadA; split
    · split <;> rfl
    · rfl
  split
  · unfold storeA; split <;> rfl
  split
  · unfold readA; split <;> exact (touchS_s v s _).2
  split
  · exact wS_g _ _ _ _
  split
  · exact wS_g _ _ _ _
  split
  · exact wS_g _ _ _ _
  split
  · unfold renameA; split
    · split
      · exact (wS_g _ _ _ _).trans (touchS_s v s _).2
      · exact (touchS_s v s _).2
    · rfl
  split
  · exact wS_g _ _ _ _
  split
  · unfold recvA; split
    · split
      · split <;> rfl
      · rfl
    · rfl
  · rfl
theorem dsA_g {v : VV} : ∀ (ds : List DeedR) (s : AV), (dsA v s ds).g = s.g := by
  intro ds
  induction ds with
  | nil => intro s; rfl
  | cons d ds ih => intro s; exact (ih _).trans (doesA_g v s d)
theorem TK.regs_kd : leafB PG 6 TY.api_Regs = some [.int .i64, .int .i64, .int .i64, .int .i64] := by kernel_rfl
theorem Regs_arg {H : Type} {enc : TypeId × Value → H} {w : World} {base : Nat} {spare : Nat → Bool} {held : Bool} {cs : Array Value} {d : DataW H} {p : List MemPlace} (h : DataW.Trod enc PG w base spare held TY.api_Regs (.agg cs) d p) :
    ∃ g : Reg4, cs = #[.int .i64 g.a, .int .i64 g.b, .int .i64 g.c, .int .i64 g.d] := by
  have hk := arg_agg TK.regs_kd h
  obtain ⟨z1, v1, e1, _, h1⟩ := hk.int
  obtain ⟨z2, v2, rfl, _, h2⟩ := h1.int
  obtain ⟨z3, v3, rfl, _, h3⟩ := h2.int
  obtain ⟨z4, v4, rfl, _, h4⟩ := h3.int
  obtain rfl := h4.nil
  exact ⟨⟨z1, z2, z3, z4⟩, by rw [← Array.toList_inj, e1]⟩
section
variable {B : RO} {h0 h h' : Heap} {L M P : List (Option (Nat × AObj))} {V W : VI} {v w : VV} {K K1 K2 Ka Kb : AK} {U U1 U2 Ua Ub : AU} {s s1 s2 sa sb : AV} {k p q k15 : Nat} {i j pl : Int} {c : StV} {g : Reg4} {o o' : AObj} {y z rK : Option (Nat × AObj)} {x : ActV} {t : ActS} {vK : Value} {ms : List MarkR} {text : ByteArray} {Q : Bool → Heap → Prop}
theorem Back_J2 {a4 : Option Addr} {c6 : Nat} {ds : List DeedR} {sure : Bool} (S : SS B h0 (PB k15 g Ka.kX ActV.z Ka.kK (.slice none 0 0) none ++ GR W v Kb Ub sb) h V v Ka Ua sa) (ow : VOk W v) (pb : Pas v Ub sb) (he : sa.s = sb.s) (hg : sa.g = g) (va : vld v sa.rs = true) (vb : vld v sb.rs = true) (la : sa.rs.length ≤ 500) (lb : sb.rs.length ≤ 1000) (ht : v.t = 0) (hl : ds.length ≤ 60)
    (hr : ∀ h', Keep B h0 [] h' → Reads B h' a4 4 DeedR.cells ds) (hQ : ∀ h', Keep B h0 [] h' → Q true h') : S_countermandlaw20_AttemptBack_J2 B a4 ds.length c6 pl sure k15 (some ⟨V.kV, 0, none⟩) (some ⟨W.kV, 0, none⟩) (some ⟨Ka.kA, 0, none⟩) (some ⟨Kb.kA, 0, none⟩) h Q := by
  unfold S_countermandlaw20_AttemptBack_J2
  have nil : ∀ {h1 : Heap} {N : List (Option (Nat × AObj))}, Keep B h0 N h1 → Keep B h0 [] h1 := fun E => by have := E.take 0; simpa using this
  refine aacts_wp S (asend_wp (q := 1) (x := ActV.z) (t := ActS.z) S ⟨rfl, rfl, rfl, rfl, rfl⟩ ARows.z (by decide) (by decide) fun x2 h2 W2 S2 => ?_)
  replace S2 : SS B h0 (PB k15 g Ka.kX x2 Ka.kK (.slice none 0 0) none ++ GR W v Kb Ub sb) h2 V v Ka Ua sa := S2
  replace W2 : ARows ⟨[(0, 7)], [], [], []⟩ x2 := W2
  refine else_wp (q := 1) (p := 6) (x := x2) (ms := []) S2 ⟨rfl, rfl, rfl, rfl, rfl⟩ W2 ⟨rfl, rfl⟩ (Row.nil _ _) (by decide) fun x1 vK rK h3 O1 R S3 => ?_
  replace S3 : SS B h0 ((PB k15 g Ka.kX x2 Ka.kK vK rK ++ GR W v Kb Ub sb) ++ x1.e sa.s) h3 V v Ka Ua sa := S3
  replace R : MRow rK vK ([] ++ [⟨x1, g, ⟨1, 0, 0, 0⟩, pl⟩]) := by rw [← hg]; exact R
  have a1 : AOk v { sa with s := sa.s, g := g } := S.a.re rfl
  obtain ⟨f1, f2⟩ := dsA_fact (v := v) ds sa va
  refine ⟨fun q m h' => ∃ (j : Nat) (U : AU), j ≤ ds.length ∧ q = j ∧ m = ds.length - j ∧ SS B h0 ((PB k15 g Ka.kX x2 Ka.kK vK rK ++ GR W v Kb Ub sb) ++ x1.e sa.s) h' V v Ka U (dsA v sa (ds.take j)), ds.length, Fin.of ⟨0, Ua, by omega, rfl, rfl, S3⟩, ?_⟩
  clear S S2 S3
  rintro _ _ h9 ⟨j, U, hj, rfl, rfl, S⟩
  refine ⟨fun hlt => ?_, fun hge => Fin.of ?_⟩
  · have hj' : j < ds.length := by omega
    have hx := List.getElem?_eq_getElem hj'
    generalize ds[j] = d at hx
    obtain ⟨A, e1, _, e3⟩ := hr h9 (nil S.E) j d hx
    have lt := (dsA_fact (v := v) (ds.take j) sa va).2
    rw [List.length_take] at lt
    refine ⟨A, e1, by omega, by omega, d.k, d.a, d.b, ((d.c.toNat : Nat) : Int), by rw [Int.toNat_natCast]; exact e3, fun k6 a6 b6 h6 e6 => ?_⟩
    have S4 := S.nP a6 b6 e6
    refine ⟨_, stores_whole S4.gP rfl (by simp) (by simp [isOne]) (by simp), ?_⟩
    have S5 := S4.pP (o' := .vec TY.countermandref20_Deed (plains d.cells) 4)
    refine ⟨_, _, _, _, ⟨cellH_vec S5.gP rfl, cellH_vec S5.gP rfl, cellH_vec S5.gP rfl, cellH_vec S5.gP rfl, trivial⟩, ?_⟩
    refine adoes_wp (d := d) S5.dP (by omega) fun U' h7 S6 => Fin.of ⟨ds.length - (j + 1), by omega, j + 1, U', by omega, wrapS (by omega), rfl, ?_⟩
    rw [dsA_take hx]; exact S6
  · have hjn : j = ds.length := by omega
    subst hjn
    rw [List.take_length] at S
    have a2 : AOk v { dsA v sa ds with s := sa.s, g := g } := a1.re rfl
    exact Back_J3 (st1 := sa.s) S ow pb O1 a2 W2 R he f1 vb (by omega) lb ht hQ
theorem AttemptBack_wp {a1 a4 : Option Addr} {c3 c6 : Nat} {ds ds2 : List DeedR} {sure : Bool} (hr : Reads B h a1 4 DeedR.cells ds) (hr2 : Reads B h a4 4 DeedR.cells ds2) (hQ : ∀ h', Keep B h [] h' → Q true h') : C_countermandlaw20_AttemptBack B a1 ds.length c3 a4 ds2.length c6 g.a g.b g.c g.d pl text sure h Q := by
  refine C_countermandlaw20_AttemptBack.of ?_
  unfold S_countermandlaw20_AttemptBack
  intro k15 a15 b15 h16 e16
  have E0 := (Keep.nil B h).made (o := regO g) a15 b15 e16
  have nil : ∀ {h1 : Heap} {N : List (Option (Nat × AObj))}, Keep B h N h1 → Keep B h [] h1 := fun E => by have := E.take 0; simpa using this
  have rds : ∀ {a : Option Addr} {ds : List DeedR}, Reads B h a 4 DeedR.cells ds → ∀ h', Keep B h [] h' → Reads B h' a 4 DeedR.cells ds := fun {a ds} hr h' E j x hx => by
    obtain ⟨A, f1, f2, f3⟩ := hr j x hx
    exact ⟨A, f1, fun hn => f2 (by
      cases hh : h A.block with
      | none => rfl
      | some o => rw [E.le _ _ hh] at hn; cases hn), E.w.cells f3⟩
  refine alive20_wp fun h17 Ea => ⟨fun _ => ?_, fun e => by cases e⟩
  have E1 : Keep B h [some (k15, regO g)] h17 := by
    have := E0.append Ea
    simpa using this
  have out := hQ _ (nil E1)
  refine ⟨fun _ => Fin.of out, fun n1 => ⟨fun _ => Fin.of out, fun n2 => ⟨fun _ => Fin.of out, fun n3 => Fin.of ?_⟩⟩⟩
  clear out E0 Ea
  unfold S_countermandlaw20_AttemptBack_J1
  refine newview_wp fun V h21 ov Ev => ?_
  have E2 := E1.append Ev
  refine newview_wp fun W h23 ow Ew => ?_
  have E3 : Keep B h (([some (k15, regO g)] ++ W.e vz) ++ V.e vz) h23 := by
    have := (E2.append Ew).unswap
    rw [← List.append_assoc] at this
    exact this
  refine ⟨g.a, g.b, g.c, g.d, ⟨E3.cell 0 rfl rfl, E3.cell 0 rfl rfl, E3.cell 0 rfl rfl, E3.cell 0 rfl rfl, trivial⟩, g.a, g.b, g.c, g.d, ⟨E3.cell 0 rfl rfl, E3.cell 0 rfl rfl, E3.cell 0 rfl rfl, E3.cell 0 rfl rfl, trivial⟩, anew_wp (g := g) E3 ov fun Ka Ua h37 Sa => ?_⟩
  have pa := Sa.pas
  have E4 : Keep B h ((PB k15 g Ka.kX ActV.z Ka.kK (.slice none 0 0) none ++ GR V vz Ka Ua (s0 vz g)) ++ W.e vz) h37 := by
    have E : Keep B h ([] ++ ([some (k15, regO g)] ++ W.e vz ++ [some (Ka.kX, acO0), some (Ka.kK, skO (.slice none 0 0))] ++ (V.e vz ++ AE V Ka Ua (s0 vz g)))) h37 := Sa.E
    exact E.sM [0, 8, 99, 98, 97, 96, 9, 95, 10, 11, 12, 13, 14, 15, 16, 17, 18, 19, 20, 21, 22, 23, 24, 25, 1, 2, 3, 4, 5, 6, 7] (by decide)
  refine ⟨⟨Sa.E.cell 0 rfl rfl, Sa.E.cell 0 rfl rfl, Sa.E.cell 0 rfl rfl, Sa.E.cell 0 rfl rfl, trivial⟩, ⟨Sa.E.cell 0 rfl rfl, Sa.E.cell 0 rfl rfl, Sa.E.cell 0 rfl rfl, Sa.E.cell 0 rfl rfl, trivial⟩, anew_wp (g := g) E4 ow fun Kb Ub h41 Sb => ?_⟩
  have Sb := Sb.drop2
  have pb := Sb.pas
  refine ⟨⟨Sb.E.cell 0 rfl rfl, Sb.E.cell 0 rfl rfl, Sb.E.cell 0 rfl rfl, Sb.E.cell 0 rfl rfl, trivial⟩, ⟨Sb.E.cell 0 rfl rfl, Sb.E.cell 0 rfl rfl, Sb.E.cell 0 rfl rfl, Sb.E.cell 0 rfl rfl, trivial⟩, _, rfl, _, Sb.E.cell 8 rfl (j := 2) rfl, ?_⟩
  have ts : text.size ≤ 64 := by omega
  refine feed_arrive_wp FeedOk.zero (Sb.E.at 13 rfl) (by omega) ⟨_, rfl, some ⟨W.kF, 0, none⟩, ?_⟩
  have E5 := Sb.E.put (o' := feedO (arrT ts0 0 text) V.kP) 13 rfl
  refine ⟨E5.cell 24 rfl (j := 2) rfl, feed_arrive_wp FeedOk.zero (E5.at 29 rfl) (by omega) ?_⟩
  have E6 := E5.put (o' := feedO (arrT ts0 0 text) W.kP) 29 rfl
  have ov' : VOk V (vA text) := ⟨ov.r, ov.c8, ov.f, arr_ok ts⟩
  have ow' : VOk W (vA text) := ⟨ow.r, ow.c8, ow.f, arr_ok ts⟩
  have S6 : SS B h (PB k15 g Ka.kX ActV.z Ka.kK (.slice none 0 0) none ++ GR V (vA text) Ka Ua (s0 (vA text) g)) _ W (vA text) Kb Ub (s0 (vA text) g) := .of E6 ow' (pb.view ow'.f)
  have S7 := S6.flipG ov' (pa.view ov'.f)
  have pb' := S6.pas
  refine ⟨fun q m h' => ∃ (j : Nat) (Ua Ub : AU), j ≤ ds.length ∧ q = j ∧ m = ds.length - j ∧ Pas (vA text) Ub (dsA (vA text) (s0 (vA text) g) (ds.take j)) ∧ SS B h (PB k15 g Ka.kX ActV.z Ka.kK (.slice none 0 0) none ++ GR W (vA text) Kb Ub (dsA (vA text) (s0 (vA text) g) (ds.take j))) h' V (vA text) Ka Ua (dsA (vA text) (s0 (vA text) g) (ds.take j)), ds.length, Fin.of ⟨0, Ua, Ub, by omega, rfl, rfl, pb', S7⟩, ?_⟩
  clear S7 S6 E6 E5 Sb E4 Sa E3 Ew Ev E1 E2 pb pb' pa
  rintro _ _ h9 ⟨j, Ua, Ub, hj, rfl, rfl, pb, S⟩
  have df := dsA_fact (v := vA text) (ds.take j) (s0 (vA text) g) rfl
  rw [List.length_take] at df
  have z0 : (s0 (vA text) g).rs.length = 0 := rfl
  refine ⟨fun hlt => ?_, fun hge => Fin.of ?_⟩
  · have hj' : j < ds.length := by omega
    have hx := List.getElem?_eq_getElem hj'
    generalize ds[j] = d at hx
    obtain ⟨A, e1, _, e3⟩ := rds hr h9 (nil S.E) j d hx
    refine ⟨A, e1, by omega, by omega, d.k, d.a, d.b, ((d.c.toNat : Nat) : Int), by rw [Int.toNat_natCast]; exact e3, fun k6 a6 b6 h6 e6 => ?_⟩
    have S4 := S.nP a6 b6 e6
    refine ⟨_, stores_whole S4.gP rfl (by simp) (by simp [isOne]) (by simp), ?_⟩
    have S5 := S4.pP (o' := .vec TY.countermandref20_Deed (plains d.cells) 4)
    refine ⟨_, _, _, _, ⟨cellH_vec S5.gP rfl, cellH_vec S5.gP rfl, cellH_vec S5.gP rfl, cellH_vec S5.gP rfl, trivial⟩, ?_⟩
    refine adoes_wp (d := d) S5 (by omega) fun U' h7 S6 => ?_
    refine ⟨_, _, _, _, ⟨cellH_vec S6.gP rfl, cellH_vec S6.gP rfl, cellH_vec S6.gP rfl, cellH_vec S6.gP rfl, trivial⟩, ?_⟩
    have S7 := S6.dP
    have pa2 := S7.pas
    have oa2 := S7.o
    refine adoes_wp (d := d) (S7.flipG ow' pb) (by omega) fun U2 h8 S8 => Fin.of ⟨ds.length - (j + 1), by omega, j + 1, U', U2, by omega, wrapS (by omega), rfl, ?_, ?_⟩
    · rw [dsA_take hx]; exact S8.pas
    · rw [dsA_take hx]; exact S8.flipG oa2 pa2
  · have hjn : j = ds.length := by omega
    subst hjn
    rw [List.take_length] at S pb
    have df2 := dsA_fact (v := vA text) ds (s0 (vA text) g) rfl
    have hg : (dsA (vA text) (s0 (vA text) g) ds).g = g := dsA_g ds _
    exact Back_J2 S ow' pb rfl hg df2.1 df2.1 (by omega) (by omega) rfl (by omega) (rds hr2) hQ
end
theorem AttemptBack_calls {H : Type} {enc : TypeId × Value → H} (W : World) {a : Option Addr} {len cap : Nat} {d1 : DataW H} {p1 : List MemPlace} (k1 : DataW.Trod enc PG W 0 (fun _ => true) true TY.s_countermandref20_Deed (.slice a len cap) d1 p1) {a2 : Option Addr} {len2 cap2 : Nat} {d2 : DataW H} {p2 : List MemPlace} (k2 : DataW.Trod enc PG W 0 (fun _ => true) true TY.s_countermandref20_Deed (.slice a2 len2 cap2) d2 p2)
    {cs : Array Value} {d3 : DataW H} {p3 : List MemPlace} (k3 : DataW.Trod enc PG W 0 (fun _ => true) true TY.api_Regs (.agg cs) d3 p3) (pl : Int) (wp : (Lit.int .i64 pl).wf = true) (text : ByteArray) (wt : text.size ≤ 140737488351232) (sure : Bool) :
    Calls PG FN.countermandlaw20_AttemptBack #[.slice a len cap, .slice a2 len2 cap2, .agg cs, .int .i64 pl, .string text, .bool sure] W fun e w' => e = .returned (.bool true) ∧ Below W.heap.size W w' := by
  obtain ⟨xs, rfl, hr⟩ := Deed_arg k1
  obtain ⟨ys, rfl, hr2⟩ := Deed_arg k2
  obtain ⟨g, rfl⟩ := Regs_arg k3
  refine Spec.calls (Spec.mono (AttemptBack_wp (g := g) (Q := fun b _ => b = true) (c3 := cap) (c6 := cap2) hr hr2 fun _ _ => rfl) ?_)
  rintro v h' ⟨b, rfl, rfl⟩
  rfl
end Go.Proofs.YtgldgabefiialaaGreat.H
