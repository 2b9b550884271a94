/- What the law's proof stands on, part 5. No condition. -/
import Derived.Shelf.Strings.Repeat
import Derived.Test.YtgldgabefiialaaGreatG4
namespace Go.Proofs.YtgldgabefiialaaGreat.H
open Go
set_option linter.unusedVariables false
set_option maxRecDepth 100000
def repRen : Go.Shelf.Ren := ⟨fun x => match x with | 99 => 144 | 105 => 136 | 165 => 145 | 166 => 146 | 169 => 148 | 170 => 147 | 206 => 157 | 212 => 143 | 240 => 158 | 241 => 159 | 263 => 155 | 264 => 156 | 276 => 161 | 277 => 162 | _ => 0, fun x => match x with | 0 => 0 | 3 => 3 | 4 => 4 | 5 => 5 | 9 => 9 | 20 => 20 | 37 => 226 | 46 => 234 | 51 => 259 | 53 => 262 | 70 => 245 | 72 => 247 | 75 => 249 | 76 => 250 | 80 => 252 | 109 => 242 | 127 => 265 | 146 => 260 | 148 => 263 | 164 => 266 | _ => 0, fun x => x⟩
theorem repLays : Lays.n105 PG repRen := ⟨by kernel_rfl, by kernel_rfl, by kernel_rfl, by kernel_rfl, by kernel_rfl, by kernel_rfl, by kernel_rfl, by kernel_rfl, by kernel_rfl, by kernel_rfl, by kernel_rfl, by kernel_rfl, by kernel_rfl, by kernel_rfl, by kernel_rfl, by kernel_rfl, fun w => by kernel_rfl, fun w => by kernel_rfl, fun w => by kernel_rfl, by kernel_rfl, fun w => by kernel_rfl, fun w => by kernel_rfl, fun w => by kernel_rfl, by kernel_rfl, fun w => by kernel_rfl, fun w => by kernel_rfl, fun w => by kernel_rfl, by kernel_rfl, fun w => by kernel_rfl, fun w => by kernel_rfl, fun w => by kernel_rfl, by kernel_rfl, fun w => by kernel_rfl, fun w => by kernel_rfl, fun w => by kernel_rfl, by kernel_rfl, fun w => by kernel_rfl, fun w => by kernel_rfl, fun w => by kernel_rfl, by kernel_rfl, fun w => by kernel_rfl, fun w => by kernel_rfl, fun w => by kernel_rfl, by kernel_rfl, fun w => by kernel_rfl, fun w => by kernel_rfl, fun w => by kernel_rfl, by kernel_rfl, fun w => by kernel_rfl, fun w => by kernel_rfl, fun w => by kernel_rfl, by kernel_rfl, fun w => by kernel_rfl, fun w => by kernel_rfl, fun w => by kernel_rfl, by kernel_rfl, fun w => by kernel_rfl, fun w => by kernel_rfl, fun w => by kernel_rfl, by kernel_rfl, fun w => by kernel_rfl, fun w => by kernel_rfl, fun w => by kernel_rfl, by kernel_rfl, fun w => by kernel_rfl, fun w => by kernel_rfl, fun w => by kernel_rfl, by kernel_rfl, fun w => by kernel_rfl, fun w => by kernel_rfl, fun w => by kernel_rfl, by kernel_rfl, fun w => by kernel_rfl, fun w => by kernel_rfl, fun w => by kernel_rfl, by kernel_rfl, fun w => by kernel_rfl, fun w => by kernel_rfl, fun w => by kernel_rfl, by kernel_rfl, fun w => by kernel_rfl, fun w => by kernel_rfl, fun w => by kernel_rfl, by kernel_rfl, fun w => by kernel_rfl, fun w => by kernel_rfl, fun w => by kernel_rfl, by kernel_rfl, fun w => by kernel_rfl, fun w => by kernel_rfl, fun w => by kernel_rfl⟩
theorem repExtra : Builder.Extra PG repRen := { sizeBuilder := by kernel_rfl, liesBuilder := by kernel_rfl, t5 := repLays.t5, a5 := repLays.a5, z5 := repLays.z5, v5 := repLays.v5, infoByte := by kernel_rfl, cellsByte := by kernel_rfl, sizeByte := by kernel_rfl, neB5 := by decide }
theorem repF : repRen.f 105 = FN.strings_Repeat := by kernel_rfl
end Go.Proofs.YtgldgabefiialaaGreat.H
namespace Go.Proofs.YtgldgabefiialaaGreat.H
open Go Go.RowKit
set_option linter.unusedVariables false
set_option maxRecDepth 100000
theorem Rel.below {B : RO} {F : Fr} {h : Heap} {w w' : World} (R : Rel B F h w) (b : Below w.heap.size w w') : Rel B F h w' := by
  obtain ⟨own, R⟩ := R
  obtain ⟨b1, b2, b3, b4, hk⟩ := b
  exact ⟨own, b1.trans R.os, b2.trans R.tape, b3.trans R.output, Nat.le_trans R.low b4, fun c o hc => ⟨(hk c (lt_of_get (R.fr c o hc).1)).trans (R.fr c o hc).1, (R.fr c o hc).2⟩,
    fun c o hc => ⟨(hk c (lt_of_get (R.ro c o hc).1)).trans (R.ro c o hc).1, (R.ro c o hc).2⟩, fun c o hc => ⟨(R.obj c o hc).1, (R.obj c o hc).2.keep (hk c (R.obj c o hc).2.lt) (fun k i h' => ⟨h', hk k (R.owned k _ h')⟩)⟩,
    fun k p hk' => Nat.lt_of_lt_of_le (R.owned k p hk') b4⟩
theorem Spec.below {P : Program} {B : RO} {f : FuncId} {args : Array Value} {h : Heap} {v0 : Value} {Q : Value → Heap → Prop} (hc : ∀ w, Calls P f args w fun e w' => e = .returned v0 ∧ Below w.heap.size w w') (hQ : Q v0 h) : Spec P B f args h Q := by
  intro F w R
  refine (hc w).mono ?_
  rintro e w' ⟨rfl, bel⟩
  exact ⟨v0, h, rfl, R.below bel, hQ⟩
section
variable {B : RO} {h h0 : Heap} {L : List (Option (Nat × AObj))} {b : Bool} {s : ByteArray}
theorem repeat_wp {n : Nat} (hn : n ≤ 100000) {Q : ByteArray → Heap → Prop} (hQ : Q (ba (List.replicate n 0)) h) : C_strings_Repeat B (ByteArray.mk #[0]) (n : Int) h Q := by
  unfold C_strings_Repeat
  refine Spec.below (v0 := .string (ba (List.replicate n 0))) (fun w => ?_) ⟨_, rfl, hQ⟩
  have hc := Any.strings_Repeat repLays repExtra (ByteArray.mk #[0]) n w (by omega) (by show 1 * n ≤ _; omega)
  rw [repF] at hc
  refine hc.mono fun e w' ⟨he, hb⟩ => ⟨?_, hb⟩
  rw [he]
  have := Lib.repeatL_replicate 0 1 n
  rw [Nat.mul_one] at this
  have e1 : (ByteArray.mk #[0]).data.toList = List.replicate 1 0 := rfl
  rw [e1, this]; rfl
theorem cut_in {s : ByteArray} {n : Nat} (h : n ≤ s.size) : s.extract 0 n = ba (cutT (bl s) n) := by
  refine bl_inj ?_
  rw [bl_extract, bl_ba, cutT, padT_self (by rw [bl_length]; exact h)]; simp
theorem cut_out {s : ByteArray} {n : Nat} (h : s.size ≤ n) : s ++ ba (List.replicate (n - s.size) 0) = ba (cutT (bl s) n) := by
  refine bl_inj ?_
  rw [bl_append, bl_ba, bl_ba, cutT, List.take_of_length_le (by rw [padT_len, bl_length]; omega), padT, bl_length]
theorem fcut_wp {n : Int} (hs : s.size ≤ 1000000) {Q : Bool → ByteArray → Heap → Prop} (hQ : ∀ h', Wk B h h' → Q (cutF (b, s) n).1 (cutF (b, s) n).2 h') : C_file_Cut B b s n h Q := by
  refine C_file_Cut.of ?_
  unfold S_file_Cut
  intro k7 a7 b7 h8 e8 k9 a9 b9 h10 e10
  have E := ((Keep.nil B h).made a7 b7 e8).made a9 b9 e10
  have E : Keep B h [some (k7, fiO (b, s)), some (k9, fiO (false, ByteArray.empty))] h10 := E
  have done : ¬ (b = true ∧ 0 ≤ n ∧ n ≤ 32) → ∃ b45 : Bool, ∃ s46 : ByteArray, CellsAt B h10 ⟨k7, 0, none⟩ 0 [(.bool b45), (.string s46)] ∧ ∃ h47 : Heap, StoresAt ⟨k9, 0, none⟩ h10 0 [(.bool b45), (.string s46)] h47 ∧
      ∃ b48 : Bool, ∃ s49 : ByteArray, CellsAt B h47 ⟨k9, 0, none⟩ 0 [(.bool b48), (.string s49)] ∧ Fin B h47 (Q (b48) s49) := fun hn => by
    unfold cutF at hQ
    rw [if_neg hn] at hQ
    refine ⟨b, s, ⟨E.cell 0 rfl (j := 0) rfl, E.cell 0 rfl (j := 1) rfl, trivial⟩, _, stores_whole (E.at 1 rfl) rfl (by simp) (by simp [isOne]) (by simp), ?_⟩
    have E1 := E.put (o' := fiO (b, s)) 1 rfl
    exact ⟨_, _, ⟨E1.cell 1 rfl (j := 0) rfl, E1.cell 1 rfl (j := 1) rfl, trivial⟩, Fin.of (hQ _ E1.w)⟩
  refine ⟨b, E.cell 0 rfl (j := 0) rfl, fun hb => ⟨fun hlt => done (by omega), fun hge => ⟨fun h32 => done (by omega), fun hlt => Fin.of ?_⟩⟩, fun hb => done (by simp [hb])⟩
  clear done
  have hin : b = true ∧ 0 ≤ n ∧ n ≤ 32 := ⟨hb, by omega, by omega⟩
  unfold cutF at hQ
  rw [if_pos hin] at hQ
  obtain ⟨k, rfl⟩ := Int.eq_ofNat_of_zero_le hin.2.1
  rw [Int.toNat_natCast] at hQ
  unfold S_file_Cut_J1
  refine ⟨s, E.cell 0 rfl (j := 1) rfl, fun hle => ⟨s, E.cell 0 rfl (j := 1) rfl, by omega, by omega, hle, ?_⟩, fun hgt => ⟨s, E.cell 0 rfl (j := 1) rfl, s, E.cell 0 rfl (j := 1) rfl, ?_⟩⟩
  · rw [show Int.toNat 0 = 0 from rfl, Int.toNat_natCast, cut_in (by omega)]
    refine ⟨_, stores_whole (E.at 1 rfl) rfl (by simp) (by simp [isOne]) (by simp), ?_⟩
    have E1 := E.put (o' := fiO (true, ba (cutT (bl s) k))) 1 rfl
    exact ⟨_, _, ⟨E1.cell 1 rfl (j := 0) rfl, E1.cell 1 rfl (j := 1) rfl, trivial⟩, Fin.of (hQ _ E1.w)⟩
  · have e1 : IntKind.wrap .i64 ((k : Int) - (s.size : Nat)) = ((k - s.size : Nat) : Int) := by rw [w64 (by omega) (by omega)]; omega
    rw [e1]
    refine repeat_wp (by omega) ⟨E.cell 0 rfl (j := 1) rfl, E.cell 0 rfl (j := 1) rfl, by rw [ba_size, List.length_replicate]; omega, ?_⟩
    rw [cut_out (by omega)]
    refine ⟨_, stores_whole (E.at 1 rfl) rfl (by simp) (by simp [isOne]) (by simp), ?_⟩
    have E1 := E.put (o' := fiO (true, ba (cutT (bl s) k))) 1 rfl
    exact ⟨_, _, ⟨E1.cell 1 rfl (j := 0) rfl, E1.cell 1 rfl (j := 1) rfl, trivial⟩, Fin.of (hQ _ E1.w)⟩
end
end Go.Proofs.YtgldgabefiialaaGreat.H
namespace Go.Proofs.YtgldgabefiialaaGreat.H
open Go Go.RowKit
set_option linter.unusedVariables false
set_option maxRecDepth 100000
def inR (n : Int) : Bool := decide (0 ≤ n ∧ n < 6)
theorem inR_t {n : Int} (h : inR n = true) : 0 ≤ n ∧ n < 6 := of_decide_eq_true h
theorem inR_f {n : Int} (h : inR n = false) : ¬ (0 ≤ n ∧ n < 6) := of_decide_eq_false h
def upS (l : FL) (d : DFL) (n : Int) (f : FileS) : DFL := if inR n = true then putS l d n f else d
def f0 : FileS := (false, ByteArray.empty)
structure SOk (l : FL) (d : DFL) : Prop where
  s : SortD d
  k : ∀ x ∈ d, (0 ≤ x.1 ∧ x.1 < 6) ∧ goodF x.2.1 x.2.2 = true
  l6 : l.length = 6
  g : ∀ y ∈ l, goodF y.1.1 y.1.2 = true
theorem sort_len6 : ∀ (d : DFL) (a : Nat), SortD d → (∀ x ∈ d, (a : Int) ≤ x.1 ∧ x.1 < 6) → d.length ≤ 6 - a := by
  intro d
  induction d with
  | nil => intro a _ _; simp
  | cons x d ih =>
    intro a s h
    obtain ⟨h1, h2⟩ := h x (by simp)
    obtain ⟨s1, s2⟩ := List.pairwise_cons.1 s
    have := ih (a + 1) s2 (fun y hy => ⟨by have := s1 y hy; omega, (h y (by simp [hy])).2⟩)
    simp only [List.length_cons]; omega
theorem SOk.len {l : FL} {d : DFL} (o : SOk l d) : d.length ≤ 6 := sort_len6 d 0 o.s fun x hx => (o.k x hx).1
theorem atD_mem {d : DFL} {n : Int} {f : FileS} (h : atD d n = some f) : ∃ x ∈ d, x.1 = n ∧ x.2 = f := by
  unfold atD at h
  cases hf : d.find? (fun x => x.1 == n) with
  | none => rw [hf] at h; cases h
  | some x =>
    rw [hf] at h
    have h1 := List.find?_some hf
    exact ⟨x, List.mem_of_find?_eq_some hf, by simpa using h1, by simpa using h⟩
theorem SOk.fat {l : FL} {d : DFL} (o : SOk l d) (n : Int) : goodF (fileAt l n).1.1 (fileAt l n).1.2 = true := by
  by_cases h : 0 ≤ n ∧ n < (l.length : Int)
  · rw [fileAt_in h.1 (by omega)]; exact o.g _ (List.getElem_mem _)
  · rw [fileAt_out h]; rfl
theorem SOk.good {l : FL} {d : DFL} (o : SOk l d) (n : Int) : goodF (getS l d n).1.1 (getS l d n).1.2 = true := by
  cases h : atD d n with
  | none => rw [getS_none h]; exact o.fat n
  | some f =>
    rw [getS_some h]
    obtain ⟨x, hx, _, rfl⟩ := atD_mem h
    exact (o.k x hx).2
theorem goodF_size {b : Bool} {s : ByteArray} (h : goodF b s = true) : s.size ≤ 32 := by unfold goodF at h; simp at h; exact h.1
theorem goodF_put {f : FileS} (h : goodF f.1 f.2 = true) (n : Int) (c : UInt8) : goodF (putF f n c).1 (putF f n c).2 = true := by
  unfold putF
  split
  · rename_i hn
    have := goodF_size h
    unfold goodF
    rw [ba_size, putT_len, bl_length, decide_eq_true (by omega)]; rfl
  · exact h
theorem goodF_cut {f : FileS} (h : goodF f.1 f.2 = true) (n : Int) : goodF (cutF f n).1 (cutF f n).2 = true := by
  unfold cutF
  split
  · rename_i hn
    unfold goodF
    rw [ba_size, cutT_len, decide_eq_true (by omega)]; rfl
  · exact h
theorem goodF_make {f : FileS} (h : goodF f.1 f.2 = true) : goodF true f.2 = true := by
  have := goodF_size h
  unfold goodF; rw [decide_eq_true this]; rfl
theorem SOk.up {l : FL} {d : DFL} (o : SOk l d) {n : Int} {f : FileS} (g : goodF f.1 f.2 = true) : SOk l (upS l d n f) := by
  unfold upS putS
  split
  · rename_i hn
    have hn := inR_t hn
    split
    · exact o
    · refine ⟨o.s.ins, fun x hx => ?_, o.l6, o.g⟩
      rcases insD_mem hx with rfl | hx
      · exact ⟨hn, g⟩
      · exact o.k x hx
  · exact o
def renS (l : FL) (d : DFL) (a b : Int) : DFL := if (inR a && inR b && (getS l d a).1.1 && decide (a ≠ b)) = true then putS l (putS l d b (getS l d a).1) a f0 else d
theorem SOk.ren {l : FL} {d : DFL} (o : SOk l d) (a b : Int) : SOk l (renS l d a b) := by
  unfold renS
  split
  · rename_i h
    simp only [Bool.and_eq_true] at h
    have h1 := o.up (n := b) (o.good a)
    have h2 := h1.up (n := a) (f := f0) rfl
    unfold upS at h1 h2
    rw [if_pos h.1.1.2] at h1 h2
    rw [if_pos h.1.1.1] at h2
    exact h2
  · exact o
section
variable {B : RO} {h0 h h' : Heap} {L : List (Option (Nat × AObj))} {r rd : Option (Nat × AObj)} {v vd : Value} {l z : FL} {d : DFL} {n : Int} {x : ShI} {f : FileS}
theorem Keep.nP {M : List (Option (Nat × AObj))} {k : Nat} {o : AObj} (E : Keep B h0 (L ++ M) h) (hk : h k = none) (hb : B k = none) (e : h' = h.set k o) : Keep B h0 ((L ++ [some (k, o)]) ++ M) h' := by
  refine (E.made hk hb e).remap (fun j => if j < L.length then j else if j = L.length then L.length + M.length else j - 1) (fun j y hy => ?_) (fun i j hi hj e => ?_)
  · by_cases h1 : j < L.length
    · simp only [if_pos h1]
      rw [List.append_assoc, List.getElem?_append_left h1] at hy
      rw [List.append_assoc, List.getElem?_append_left h1]; exact hy
    · simp only [if_neg h1]
      by_cases h2 : j = L.length
      · simp only [if_pos h2]
        subst h2
        rw [List.append_assoc, List.getElem?_append_right (Nat.le_refl _), Nat.sub_self] at hy
        rw [List.getElem?_append_right (by rw [List.length_append]; omega), List.length_append, Nat.sub_self]; exact hy
      · simp only [if_neg h2]
        rw [List.append_assoc, List.getElem?_append_right (by omega), List.getElem?_append_right (by simp only [List.length_cons, List.length_nil]; omega)] at hy
        refine up_app _ ?_
        rw [List.getElem?_append_right (by omega), show j - 1 - L.length = j - L.length - [some (k, o)].length by simp only [List.length_cons, List.length_nil]; omega]; exact hy
  · simp only [List.length_append, List.length_cons, List.length_nil] at hi hj
    split at e <;> split at e <;> (try split at e) <;> (try split at e) <;> omega
theorem Keep.dP {M : List (Option (Nat × AObj))} {y : Option (Nat × AObj)} (E : Keep B h0 ((L ++ [y]) ++ M) h) : Keep B h0 (L ++ M) h := by
  rw [List.append_assoc] at E; exact E.dropMid
theorem sputG_wp {Q : Bool → Heap → Prop} (E : Keep B h0 (L ++ x.m vd rd) h) (R : FRow x.rt x.vt l) (Rd : DRow_file_File rd vd d) (o : SOk l d)
    (hQ : ∀ vd' rd' h', DRow_file_File rd' vd' (upS l d n f) → Keep B h0 (L ++ x.m vd' rd') h' → Q (inR n) h') : C_sheet_Sheet_put B (some ⟨x.ks, 0, none⟩) (some ⟨x.kT, 0, none⟩) n f.1 f.2 h Q := by
  have hl := o.len
  by_cases hn : inR n = true
  · unfold upS at hQ
    rw [hn, if_pos rfl] at hQ
    exact sput_wp (f := f) E R Rd o.s (by omega) (inR_t hn) hQ
  · have hn : inR n = false := by simpa using hn
    have hn' := inR_f hn
    unfold upS at hQ
    rw [hn, if_neg (by decide)] at hQ
    refine C_sheet_Sheet_put.of ?_
    unfold S_sheet_Sheet_put
    intro k7 a7 b7 h8 e8
    have E1 := (E.made a7 b7 e8).pop
    exact ⟨fun e => (by cases e), fun _ => ⟨fun hlt => Fin.of (hQ _ _ _ Rd E1), fun hge => ⟨fun h6 => Fin.of (hQ _ _ _ Rd E1), fun hlt => by omega⟩⟩⟩
theorem swrite_wp {a : Int} {w : Int} {c : UInt8} (hw : w = ((c.toNat : Nat) : Int)) {Q : Bool → Heap → Prop} (E : Keep B h0 (L ++ x.m vd rd) h) (R : FRow x.rt x.vt l) (Rd : DRow_file_File rd vd d) (o : SOk l d)
    (hQ : ∀ vd' rd' h', DRow_file_File rd' vd' (upS l d n (putF (getS l d n).1 a c)) → Keep B h0 (L ++ x.m vd' rd') h' → Q (inR n) h') : C_sheet_Sheet_Write B (some ⟨x.ks, 0, none⟩) (some ⟨x.kT, 0, none⟩) n a w h Q := by
  have hl := o.len
  refine C_sheet_Sheet_Write.of ?_
  unfold S_sheet_Sheet_Write
  refine sget_wp E R Rd o.s (by omega) fun h6 E1 => ?_
  intro k10 a10 b10 h11 e11
  have E2 := E1.nM a10 b10 e11
  refine ⟨_, stores_whole (E2.gM 6 rfl) rfl (by simp) (by simp [isOne]) (by simp), ?_⟩
  have E3 := E2.pM (o' := fO (getS l d n).1) 6 rfl
  refine ⟨_, _, ⟨E3.cM 6 rfl (i := 0) rfl, E3.cM 6 rfl (i := 1) rfl, trivial⟩, fput_wp hw (by have := goodF_size (o.good n); omega) fun h14 wk => ?_⟩
  have E4 := (E3.wk wk).tM 6
  exact sputG_wp (f := putF (getS l d n).1 a c) E4 R Rd o fun v1 r1 h17 R1 E5 => Fin.of (hQ v1 r1 _ R1 E5)
theorem scut_wp {a : Int} {Q : Bool → Heap → Prop} (E : Keep B h0 (L ++ x.m vd rd) h) (R : FRow x.rt x.vt l) (Rd : DRow_file_File rd vd d) (o : SOk l d)
    (hQ : ∀ vd' rd' h', DRow_file_File rd' vd' (upS l d n (cutF (getS l d n).1 a)) → Keep B h0 (L ++ x.m vd' rd') h' → Q (inR n) h') : C_sheet_Sheet_Cut B (some ⟨x.ks, 0, none⟩) (some ⟨x.kT, 0, none⟩) n a h Q := by
  have hl := o.len
  refine C_sheet_Sheet_Cut.of ?_
  unfold S_sheet_Sheet_Cut
  refine sget_wp E R Rd o.s (by omega) fun h6 E1 => ?_
  intro k10 a10 b10 h11 e11
  have E2 := E1.nM a10 b10 e11
  refine ⟨_, stores_whole (E2.gM 6 rfl) rfl (by simp) (by simp [isOne]) (by simp), ?_⟩
  have E3 := E2.pM (o' := fO (getS l d n).1) 6 rfl
  refine ⟨_, _, ⟨E3.cM 6 rfl (i := 0) rfl, E3.cM 6 rfl (i := 1) rfl, trivial⟩, fcut_wp (by have := goodF_size (o.good n); omega) fun h14 wk => ?_⟩
  have E4 := (E3.wk wk).tM 6
  exact sputG_wp (f := cutF (getS l d n).1 a) E4 R Rd o fun v1 r1 h17 R1 E5 => Fin.of (hQ v1 r1 _ R1 E5)
theorem screateG_wp {Q : Bool → Heap → Prop} (E : Keep B h0 (L ++ x.m vd rd) h) (R : FRow x.rt x.vt l) (Rd : DRow_file_File rd vd d) (o : SOk l d)
    (hQ : ∀ vd' rd' h', DRow_file_File rd' vd' (upS l d n (true, (getS l d n).1.2)) → Keep B h0 (L ++ x.m vd' rd') h' → Q (inR n) h') : C_sheet_Sheet_Create B (some ⟨x.ks, 0, none⟩) (some ⟨x.kT, 0, none⟩) n h Q := by
  have hl := o.len
  refine C_sheet_Sheet_Create.of ?_
  unfold S_sheet_Sheet_Create
  refine sget_wp E R Rd o.s (by omega) fun h5 E1 => ?_
  intro k9 a9 b9 h10 e10
  have E2 := E1.nM a9 b9 e10
  refine ⟨_, stores_whole (E2.gM 6 rfl) rfl (by simp) (by simp [isOne]) (by simp), ?_⟩
  have E3 := E2.pM (o' := fO (getS l d n).1) 6 rfl
  refine ⟨_, _, ⟨E3.cM 6 rfl (i := 0) rfl, E3.cM 6 rfl (i := 1) rfl, trivial⟩, make_wp fun h14 w => ?_⟩
  have E4 := (E3.wk w).tM 6
  exact sputG_wp (f := (true, (getS l d n).1.2)) E4 R Rd o fun v1 r1 h17 R1 E5 => Fin.of (hQ v1 r1 _ R1 E5)
theorem sremove_wp {Q : Bool → Heap → Prop} (E : Keep B h0 (L ++ x.m vd rd) h) (R : FRow x.rt x.vt l) (Rd : DRow_file_File rd vd d) (o : SOk l d)
    (hQ : ∀ vd' rd' h', DRow_file_File rd' vd' (upS l d n f0) → Keep B h0 (L ++ x.m vd' rd') h' → Q (inR n) h') : C_sheet_Sheet_Remove B (some ⟨x.ks, 0, none⟩) (some ⟨x.kT, 0, none⟩) n h Q := by
  refine C_sheet_Sheet_Remove.of ?_
  unfold S_sheet_Sheet_Remove
  exact sputG_wp (f := f0) E R Rd o fun v1 r1 h17 R1 E5 => Fin.of (hQ v1 r1 _ R1 E5)
theorem srenameG_wp {a b : Int} {Q : Bool → Heap → Prop} (E : Keep B h0 (L ++ x.m vd rd) h) (R : FRow x.rt x.vt l) (Rd : DRow_file_File rd vd d) (o : SOk l d)
    (hQ : ∀ vd' rd' h', DRow_file_File rd' vd' (renS l d a b) → Keep B h0 (L ++ x.m vd' rd') h' → Q (inR a && inR b) h') : C_sheet_Sheet_Rename B (some ⟨x.ks, 0, none⟩) (some ⟨x.kT, 0, none⟩) a b h Q := by
  have hl := o.len
  refine C_sheet_Sheet_Rename.of ?_
  unfold S_sheet_Sheet_Rename
  refine sget_wp E R Rd o.s (by omega) fun h6 E1 => ?_
  intro k10 a10 b10 h11 e11
  have E2 := E1.nM a10 b10 e11
  refine ⟨_, stores_whole (E2.gM 6 rfl) rfl (by simp) (by simp [isOne]) (by simp), fun e => (by cases e), fun _ => ?_⟩
  have E3 := E2.pM (o' := fO (getS l d a).1) 6 rfl
  have out : (inR a && inR b) = false → S_sheet_Sheet_Rename_J2 B (some ⟨x.ks, 0, none⟩) (some ⟨x.kT, 0, none⟩) a b k10 true (h11.set k10 (fO (getS l d a).1)) Q := fun hn => by
    unfold S_sheet_Sheet_Rename_J2
    have hd : renS l d a b = d := by unfold renS; rw [if_neg (by rw [hn]; simp)]
    rw [hd, hn] at hQ
    exact ⟨fun _ => Fin.of (hQ _ _ _ Rd (E3.tM 6)), fun e => by cases e⟩
  have nota : ¬ (0 ≤ a ∧ a < 6) → (inR a && inR b) = false := fun hn => by unfold inR; rw [decide_eq_false hn]; rfl
  have notb : ¬ (0 ≤ b ∧ b < 6) → (inR a && inR b) = false := fun hn => by unfold inR; rw [decide_eq_false hn (p := 0 ≤ b ∧ b < 6), Bool.and_false]
  refine ⟨fun hn => Fin.of (out (nota (by omega))), fun h1 => ⟨fun hn => Fin.of (out (nota (by omega))), fun h2 => ⟨fun hn => Fin.of (out (notb (by omega))), fun h3 => ⟨fun hn => Fin.of (out (notb (by omega))), fun h4 => Fin.of ?_⟩⟩⟩⟩
  have ha : inR a = true := decide_eq_true (by omega)
  have hb : inR b = true := decide_eq_true (by omega)
  rw [ha, hb] at hQ
  clear out nota notb
  unfold S_sheet_Sheet_Rename_J2
  refine ⟨fun e => (by cases e), fun _ => ⟨_, E3.cM 6 rfl (i := 0) rfl, fun hi => ⟨fun e => Fin.of ?_, fun hne => Fin.of ?_⟩, fun hi => Fin.of ?_⟩⟩
  · have hd : renS l d a b = d := by unfold renS; rw [if_neg (by simp [e])]
    rw [hd] at hQ
    exact hQ _ _ _ Rd (E3.tM 6)
  · have hd : renS l d a b = upS l (upS l d b (getS l d a).1) a f0 := by unfold renS upS; rw [ha, hb, hi]; simp [hne]
    rw [hd] at hQ
    unfold S_sheet_Sheet_Rename_J1
    refine ⟨_, _, ⟨E3.cM 6 rfl (i := 0) rfl, E3.cM 6 rfl (i := 1) rfl, trivial⟩, ?_⟩
    refine sputG_wp (f := (getS l d a).1) (E3.tM 6) R Rd o fun v1 r1 h17 R1 E5 => ?_
    exact sputG_wp (f := f0) E5 R R1 (o.up (o.good a)) fun v2 r2 h19 R2 E6 => Fin.of (by rw [ha] at *; exact hQ v2 r2 _ R2 E6)
  · have hd : renS l d a b = d := by unfold renS; rw [if_neg (by rw [hi]; simp)]
    rw [hd] at hQ
    exact hQ _ _ _ Rd (E3.tM 6)
end
end Go.Proofs.YtgldgabefiialaaGreat.H
namespace Go.Proofs.YtgldgabefiialaaGreat.H
open Go Go.RowKit
set_option linter.unusedVariables false
set_option maxRecDepth 100000
structure SCall where
  k : Int
  a : Int
  b : Int
  c : UInt8
def SCall.cells (x : SCall) : List Value := [.int .i64 x.k, .int .i64 x.a, .int .i64 x.b, .int .u8 ((x.c.toNat : Nat) : Int)]
theorem SCall.len (x : SCall) : x.cells.length = 4 := rfl
def opD (l : FL) (d : DFL) (x : SCall) : DFL :=
  if x.k = 0 then upS l d x.a (putF (getS l d x.a).1 x.b x.c)
  else if x.k = 1 then upS l d x.a (cutF (getS l d x.a).1 x.b)
  else if x.k = 2 then upS l d x.a (true, (getS l d x.a).1.2)
  else if x.k = 3 then upS l d x.a f0
  else if x.k = 4 then renS l d x.a x.b
  else d
theorem SOk.op {l : FL} {d : DFL} (o : SOk l d) (x : SCall) : SOk l (opD l d x) := by
  unfold opD
  split
  · exact o.up (goodF_put (o.good x.a) _ _)
  · split
    · exact o.up (goodF_cut (o.good x.a) _)
    · split
      · exact o.up (f := (true, (getS l d x.a).1.2)) (goodF_make (f := (getS l d x.a).1) (o.good x.a))
      · split
        · exact o.up rfl
        · split
          · exact o.ren _ _
          · exact o
def opsD (l : FL) (d : DFL) (xs : List SCall) : DFL := xs.foldl (opD l) d
theorem SOk.ops {l : FL} {d : DFL} (o : SOk l d) : ∀ xs : List SCall, SOk l (opsD l d xs) := by
  intro xs
  induction xs generalizing d with
  | nil => exact o
  | cons x xs ih => exact ih (o.op x)
section
variable {B : RO} {h0 h h' : Heap} {L : List (Option (Nat × AObj))} {r rd : Option (Nat × AObj)} {v vd : Value} {l z : FL} {d : DFL} {n : Int} {x : ShI} {f : FileS} {q kd : Nat}
end
end Go.Proofs.YtgldgabefiialaaGreat.H
namespace Go.Proofs.YtgldgabefiialaaGreat.H
open Go Go.RowKit
set_option linter.unusedVariables false
set_option maxRecDepth 100000
def apD (ver : Int) (l : FL) (d : DFL) : FL := d.foldl (fun l x => setF l x.1 x.2.1 x.2.2 ver) l
theorem apD_len (ver : Int) : ∀ (d : DFL) (l : FL), (apD ver l d).length = l.length := by
  intro d
  induction d with
  | nil => intro l; rfl
  | cons x d ih => intro l; exact (ih _).trans (setF_len _ _ _ _ _)
theorem apD_take {ver : Int} {l : FL} {d : DFL} {j : Nat} {x : Int × FileS} (h : d[j]? = some x) : apD ver l (d.take (j + 1)) = setF (apD ver l (d.take j)) x.1 x.2.1 x.2.2 ver := by
  obtain ⟨h1, rfl⟩ := List.getElem?_eq_some_iff.1 h
  rw [List.take_succ_eq_append_getElem h1, apD, List.foldl_append]; rfl
section
variable {B : RO} {h0 h h' : Heap} {L : List (Option (Nat × AObj))} {r rd : Option (Nat × AObj)} {v vd : Value} {l z : FL} {d : DFL} {n ver : Int} {x : ShI} {f : FileS} {q kd c : Nat} {a : Option Addr} {xs : List SCall}
def ShI.w (x : ShI) (r : Option (Nat × AObj)) : ShI := { x with rt := r }
theorem sdraft_wp {Q : Option Addr → Heap → Prop} (E : Keep B h0 (L ++ x.m vd rd) h) (hQ : Q (some ⟨x.kf, 0, none⟩) h) : C_sheet_Sheet_Draft B (some ⟨x.ks, 0, none⟩) h Q := by
  refine C_sheet_Sheet_Draft.of ?_
  unfold S_sheet_Sheet_Draft
  exact ⟨fun e => (by cases e), fun _ => ⟨_, rfl, _, E.cM 3 rfl (i := 0) rfl, Fin.of hQ⟩⟩
theorem sover_wp {Q : Int → Heap → Prop} (E : Keep B h0 (L ++ x.m vd rd) h) (R : FRow x.rt x.vt l) (Rd : DRow_file_File rd vd d) (o : SOk l d)
    (hQ : ∀ r' h', FRow r' x.vt (apD ver l d) → Keep B h0 (L ++ (x.w r').m vd rd) h' → Q (d.length : Nat) h') : C_sheet_Sheet_Over B (some ⟨x.ks, 0, none⟩) (some ⟨x.kT, 0, none⟩) ver h Q := by
  have hl := o.len
  refine C_sheet_Sheet_Over.of ?_
  unfold S_sheet_Sheet_Over
  intro k5 a5 b5 h6 e6 k7 a7 b7 h8 e8 k9 a9 b9 h10 e10
  have E1 := ((E.nM a5 b5 e6).nM a7 b7 e8).nM a9 b9 e10
  refine ⟨_, storeH_vec (E1.gM 8 rfl) rfl, ?_⟩
  have E2 := E1.pM (o' := .vec TY.int (plains [.int .i64 0]) 1) 8 rfl
  refine sdraft_wp (x := x) (vd := vd) (rd := rd) (L := L) (E2.tM 6) (fdall_wp fun kc ac bc => ?_)
  have E3 := E2.nM (o := .vec TY.p_draft_Draft_file_File [.plain (.pointer (some ⟨x.kf, 0, none⟩))] 1) ac bc rfl
  refine ⟨d, fdG kc x.kf vd rd, fun q h' => ∃ r', q ≤ d.length ∧ FRow r' x.vt (apD ver l (d.take q)) ∧ Keep B h0 (L ++ ((x.w r').m vd rd ++ [some (k5, .vec TY.p_tome_Tome [.plain (.pointer (some ⟨x.kT, 0, none⟩))] 1), some (k7, .vec TY.int [.plain (.int .i64 ver)] 1), some (k9, .vec TY.int (plains [.int .i64 ((q : Nat) : Int)]) 1), some (kc, .vec TY.p_draft_Draft_file_File [.plain (.pointer (some ⟨x.kf, 0, none⟩))] 1)])) h', fdall_iter (k := x.kf) Rd (by omega), fdG_ins, ?_, Fin.of ⟨x.rt, by omega, R, E3⟩, ?_, ?_⟩
  · rintro q h' ⟨r', _, _, E⟩
    exact ⟨E.gM 9 rfl, E.gM 4 rfl, fun k o e => E.gM 5 (by show some rd = _; rw [e])⟩
  · clear E1 E2 E3
    rintro q h20 i16 b17 s18 hg ⟨r1, hq, R1, E⟩
    have hq' := (List.getElem?_eq_some_iff.1 hg).1
    have gx := o.k _ (List.mem_of_getElem? hg)
    simp only at gx
    intro k24 a24 b24 h25 e25
    have E1 := E.nM a24 b24 e25
    refine ⟨_, stores_whole (E1.gM 10 rfl) rfl (by simp) (by simp [isOne]) (by simp), ?_⟩
    have E2 := E1.pM (o' := fO (b17, s18)) 10 rfl
    refine ⟨_, E2.cM 6 rfl (i := 0) rfl, _, _, ⟨E2.cM 10 rfl (i := 0) rfl, E2.cM 10 rfl (i := 1) rfl, trivial⟩, _, E2.cM 7 rfl (i := 0) rfl, ?_⟩
    refine tset_wp (i := L.length) E2 ⟨upM 0 rfl, ⟨upM 1 rfl, upM 2 rfl⟩⟩ R1 fun r2 h31 R2 E3 => ?_
    have hb : setB (apD ver l (d.take q)) i16 b17 s18 = true := by
      unfold setB; rw [gx.2, Bool.true_and, decide_eq_true_eq, apD_len, o.l6]; exact gx.1
    rw [setM] at E3
    rw [hb]
    refine ⟨fun _ => ⟨_, E3.cM 8 rfl (i := 0) rfl, _, storeH_vec (E3.gM 8 rfl) rfl, Fin.of ⟨r2, by omega, ?_, ?_⟩⟩, fun e => by cases e⟩
    · rw [apD_take hg]; exact R2
    · have e1 : IntKind.wrap .i64 (((q : Nat) : Int) + 1) = ((q + 1 : Nat) : Int) := by rw [w64 (by omega) (by omega)]; omega
      have E4 := (E3.pM (o' := .vec TY.int (plains [.int .i64 (IntKind.wrap .i64 (((q : Nat) : Int) + 1))]) 1) 8 rfl).tM 10
      rw [e1] at E4 ⊢
      exact E4
  · rintro h20 ⟨r1, _, R1, E⟩
    rw [List.take_length] at R1
    exact ⟨_, E.cM 8 rfl (i := 0) rfl, Fin.of (hQ r1 _ R1 (E.tM 6))⟩
end
end Go.Proofs.YtgldgabefiialaaGreat.H
namespace Go.Proofs.YtgldgabefiialaaGreat.H
open Go Go.RowKit
set_option linter.unusedVariables false
set_option maxRecDepth 100000
structure VI where
  kV : Nat
  kC : Nat
  kT : Nat
  kR : Nat
  vt : Value
  rt : Option (Nat × AObj)
  kF : Nat
  kP : Nat
structure VV where
  c : List (Int × Int)
  f : FL
  ts : List ByteArray
  l : List (Int × Int)
  t : Int
def viewO (x : VI) (t : Int) : AObj := .vec TY.attempt_View (plains [.pointer (some ⟨x.kC, 0, none⟩), .pointer (some ⟨x.kT, 0, none⟩), .pointer (some ⟨x.kF, 0, none⟩), .int .i64 t]) 4
def VI.e (x : VI) (v : VV) : List (Option (Nat × AObj)) := [some (x.kV, viewO x v.t), some (x.kC, rowO_int v.c), some (x.kT, tomO x.kR), some (x.kR, frO x.vt), x.rt, some (x.kF, feedO v.ts x.kP), some (x.kP, rowO_int v.l)]
structure VOk (x : VI) (v : VV) : Prop where
  r : FRow x.rt x.vt v.f
  c8 : v.c.length = 8
  f : TomeOk v.f
  k : FeedOk v.ts v.l
def VAt (L : List (Option (Nat × AObj))) (i : Nat) (x : VI) (v : VV) : Prop := ∀ j, j < 7 → L[i + j]? = (x.e v)[j]?
theorem VAt.mk {L R : List (Option (Nat × AObj))} {x : VI} {v : VV} : VAt (L ++ (x.e v ++ R)) L.length x v := fun j hj => by
  rw [List.getElem?_append_right (by omega), Nat.add_sub_cancel_left, List.getElem?_append_left (by exact hj)]
theorem VAt.app {L M : List (Option (Nat × AObj))} {i : Nat} {x : VI} {v : VV} (A : VAt L i x v) : VAt (L ++ M) i x v := fun j hj => by
  have h1 : (x.e v)[j]? = some ((x.e v)[j]'hj) := List.getElem?_eq_getElem hj
  rw [h1]
  exact up_app _ ((A j hj).trans h1)
def vz : VV := ⟨List.replicate 8 (0, 0), List.replicate 6 ((false, ByteArray.empty), 0), ts0, fl0, 0⟩
def verOf (v : VV) (k i : Int) : Int := if k = 0 then (cellAt_int v.c i).2 else if k = 1 then (fileAt v.f i).2 else if k = 2 then (cellAt_int v.l i).2 else 0
def cV (v : VV) (i : Int) : Value := .int .i64 (cellAt_int v.c i).2
def fV (v : VV) (i : Int) : Value := .int .i64 (fileAt v.f i).2
def lV (v : VV) (i : Int) : Value := .int .i64 (cellAt_int v.l i).2
def nowF (v : VV) : List Value := [cV v 0, cV v 1, cV v 2, cV v 3, cV v 4, cV v 5, cV v 6, cV v 7, fV v 0, fV v 1, fV v 2, fV v 3, fV v 4, fV v 5, .int .i64 0, .int .i64 0, lV v 0, lV v 1, lV v 2, .int .i64 0, .int .i64 0, .int .i64 0, .int .i64 0, .int .i64 0, .int .i64 v.t]
def nowZ (t : Int) : List Value := List.replicate 24 (.int .i64 0) ++ [.int .i64 t]
def cT (v : VV) (i : Int) : Value := .int .i64 (cellAt_int v.c i).1
def fT (v : VV) (i : Int) : Value := .bool (fileAt v.f i).1.1
def sT (v : VV) (i : Int) : Value := .string (fileAt v.f i).1.2
def lT (v : VV) (i : Int) : Value := .int .i64 (cellAt_int v.l i).1
def thF (v : VV) : List Value := [cT v 0, cT v 1, cT v 2, cT v 3, cT v 4, cT v 5, cT v 6, cT v 7, fT v 0, sT v 0, fT v 1, sT v 1, fT v 2, sT v 2, fT v 3, sT v 3, fT v 4, sT v 4, fT v 5, sT v 5, lT v 0, lT v 1, lT v 2]
def thZ : List Value := List.replicate 8 (.int .i64 0) ++ [.bool false, .string ByteArray.empty, .bool false, .string ByteArray.empty, .bool false, .string ByteArray.empty, .bool false, .string ByteArray.empty, .bool false, .string ByteArray.empty, .bool false, .string ByteArray.empty] ++ List.replicate 3 (.int .i64 0)
def txF (ts : List ByteArray) : List Value := [.string (textAt ts 0), .string (textAt ts 1), .string (textAt ts 2)]
def txZ : List Value := [.string ByteArray.empty, .string ByteArray.empty, .string ByteArray.empty]
theorem now_c {v : VV} {j : Nat} (h : j < 8) : (nowF v)[j]? = some (.int .i64 (cellAt_int v.c (j : Nat)).2) := match j, h with
  | 0, _ | 1, _ | 2, _ | 3, _ | 4, _ | 5, _ | 6, _ | 7, _ => rfl
  | n + 8, h => absurd h (by omega)
theorem now_f {v : VV} {j : Nat} (h : j < 6) : (nowF v)[8 + j]? = some (.int .i64 (fileAt v.f (j : Nat)).2) := match j, h with
  | 0, _ | 1, _ | 2, _ | 3, _ | 4, _ | 5, _ => rfl
  | n + 6, h => absurd h (by omega)
theorem now_l {v : VV} {j : Nat} (h : j < 3) : (nowF v)[16 + j]? = some (.int .i64 (cellAt_int v.l (j : Nat)).2) := match j, h with
  | 0, _ | 1, _ | 2, _ => rfl
  | n + 3, h => absurd h (by omega)
theorem th_c {v : VV} {j : Nat} (h : j < 8) : (thF v)[j]? = some (.int .i64 (cellAt_int v.c (j : Nat)).1) := match j, h with
  | 0, _ | 1, _ | 2, _ | 3, _ | 4, _ | 5, _ | 6, _ | 7, _ => rfl
  | n + 8, h => absurd h (by omega)
theorem th_f {v : VV} {j : Nat} (h : j < 6) : (thF v)[8 + j * 2]? = some (.bool (fileAt v.f (j : Nat)).1.1) ∧ (thF v)[8 + j * 2 + 1]? = some (.string (fileAt v.f (j : Nat)).1.2) := match j, h with
  | 0, _ | 1, _ | 2, _ | 3, _ | 4, _ | 5, _ => ⟨rfl, rfl⟩
  | n + 6, h => absurd h (by omega)
theorem th_l {v : VV} {j : Nat} (h : j < 3) : (thF v)[20 + j]? = some (.int .i64 (cellAt_int v.l (j : Nat)).1) := match j, h with
  | 0, _ | 1, _ | 2, _ => rfl
  | n + 3, h => absurd h (by omega)
theorem tx_at {ts : List ByteArray} {j : Nat} (h : j < 3) : (txF ts)[j]? = some (.string (textAt ts (j : Nat))) := match j, h with
  | 0, _ | 1, _ | 2, _ => rfl
  | n + 3, h => absurd h (by omega)
def part (F Z : List Value) (m : Nat) : List Value := F.take m ++ Z.drop m
theorem wrapS {j : Nat} (h : j < 1000000000) : IntKind.wrap .i64 ((j : Int) + 1) = ((j + 1 : Nat) : Int) := by rw [w64 (by omega) (by omega)]; omega
section
variable {B : RO} {h0 h h' : Heap} {L M : List (Option (Nat × AObj))} {i k n : Nat} {t : TypeId} {x : VI} {v : VV}
theorem Keep.fillN {F Z : List Value} {m : Nat} (E : Keep B h0 (L ++ M) h) (p : Nat) (hp : M[p]? = some (some (k, .vec t (plains (part F Z m)) n))) (hl : F.length = Z.length) (ys : List Value) (hy : (F.drop m).take ys.length = ys) (hm : m + ys.length ≤ F.length) (hn : F.length ≤ n) (ho : ∀ y ∈ ys, isOne y = true) {a : Addr} (ha : a = ⟨k, m, none⟩) :
    ∃ h', StoresAt a h 0 ys h' ∧ Keep B h0 (L ++ M.set p (some (k, .vec t (plains (part F Z (m + ys.length))) n))) h' := by
  subst ha
  obtain ⟨h', s1, E1⟩ := E.vM (fs := F.take m) (gs := Z.drop m) p hp ys ho m (by rw [List.length_take]; omega) (by omega)
  refine ⟨h', s1, ?_⟩
  have e1 : F.take m ++ ys ++ (Z.drop m).drop ys.length = part F Z (m + ys.length) := by
    unfold part
    rw [List.drop_drop, List.take_add, hy]
  rw [e1] at E1
  exact E1
theorem Keep.fill1 {F Z : List Value} {m : Nat} {y : Value} (E : Keep B h0 (L ++ M) h) (p : Nat) (hp : M[p]? = some (some (k, .vec t (plains (part F Z m)) n))) (hl : F.length = Z.length) (hF : F[m]? = some y) (hn : F.length ≤ n) (ho : isOne y = true) {a : Addr} (ha : a = ⟨k, m, none⟩) :
    ∃ h', storeH h a y = some h' ∧ Keep B h0 (L ++ M.set p (some (k, .vec t (plains (part F Z (m + 1))) n))) h' := by
  obtain ⟨hm, hg⟩ := List.getElem?_eq_some_iff.1 hF
  obtain ⟨h', ⟨_, w, e1, e2⟩, E1⟩ := E.fillN p hp hl [y] (by rw [List.drop_eq_getElem_cons hm, hg]; rfl) (by simp; omega) hn (by simpa using ho) ha
  obtain rfl : h' = w := e2
  exact ⟨h', e1, E1⟩
theorem Keep.allM {F : List Value} (E : Keep B h0 (L ++ M) h) (p : Nat) (hp : M[p]? = some (some (k, .vec t (plains F) n))) : CellsAt B h ⟨k, 0, none⟩ 0 F :=
  CellsAt.of_vec F 0 (E.gM p hp) fun j y hj => by rw [plains_get, show 0 + 0 + j = j by omega, hj]; rfl
theorem VAt.at {k : Nat} {o : AObj} (A : VAt L i x v) (E : Keep B h0 L h) (j : Nat) (hj : j < 7) (e : (x.e v)[j]? = some (some (k, o))) : h k = some o := E.at (i + j) ((A j hj).trans e)
theorem VAt.tome (A : VAt L i x v) : TomeAt L (i + 2) x.kT x.kR x.vt x.rt := ⟨A 2 (by decide), ⟨A 3 (by decide), A 4 (by decide)⟩⟩
theorem now_wp {Q : List Value → Heap → Prop} (E : Keep B h0 L h) (A : VAt L i x v) (o : VOk x v) (hQ : ∀ h', Keep B h0 L h' → Q (nowF v) h') : C_attempt_View_Now B (some ⟨x.kV, 0, none⟩) h Q := by
  refine C_attempt_View_Now.of ?_
  unfold S_attempt_View_Now
  intro k3 a3 b3 h4 e4
  have E1 := E.start.nM a3 b3 e4
  refine ⟨fun e => (by cases e), fun _ => ⟨_, rfl, v.t, cellH_vec (A.app.at E1 0 (by decide) rfl) rfl, ?_⟩⟩
  intro k11 a11 b11 h12 e12
  have E2 := E1.nM a11 b11 e12
  refine ⟨_, stores_whole (E2.gM 1 rfl) rfl (by simp) (by simp [isOne]) (by simp), ?_⟩
  have E3 := E2.pM (o' := .vec TY.reads_Now (plains (part (nowF v) (nowZ v.t) 0)) 25) 1 rfl
  let J (b : Nat) (j : Nat) (h : Heap) : Prop := Keep B h0 (L ++ [some (k3, .vec TY.reads_Now (plains (List.replicate 25 (.int .i64 0))) 25), some (k11, .vec TY.reads_Now (plains (part (nowF v) (nowZ v.t) (b + j))) 25)]) h
  refine ⟨fun q m h' => ∃ j : Nat, j ≤ 8 ∧ q = j ∧ m = 8 - j ∧ J 0 j h', 8, Fin.of ⟨0, by omega, rfl, rfl, E3⟩, ?_⟩
  clear E1 E2 E3 e4 e12
  rintro _ _ h14 ⟨j, hj, rfl, rfl, E4⟩
  have E4 : Keep B h0 (L ++ [some (k3, .vec TY.reads_Now (plains (List.replicate 25 (.int .i64 0))) 25), some (k11, .vec TY.reads_Now (plains (part (nowF v) (nowZ v.t) (0 + j))) 25)]) h14 := E4
  rw [Nat.zero_add] at E4
  refine ⟨fun hlt => ⟨_, rfl, _, cellH_vec (A.app.at E4 0 (by decide) rfl) rfl, version_wp_int (rowO_int_v (A.app.at E4 1 (by decide) rfl)) ⟨by decide, by decide, by omega, by omega, ?_⟩⟩, fun hge => Fin.of ?_⟩
  · obtain ⟨h5, s, E5⟩ := E4.fill1 1 rfl rfl (now_c (by omega : j < 8)) (Nat.le_refl _) rfl (a := Addr.add ⟨k11, 0, none⟩ (Int.toNat (j : Int) * 1)) (by rw [addr_more]; simp)
    exact ⟨h5, s, Fin.of ⟨8 - (j + 1), by omega, j + 1, by omega, wrapS (by omega), rfl, by show Keep _ _ _ _; rw [Nat.zero_add]; exact E5⟩⟩
  have hj8 : j = 8 := by omega
  subst hj8
  unfold S_attempt_View_Now_J1
  refine ⟨fun q m h' => ∃ j : Nat, j ≤ 6 ∧ q = j ∧ m = 6 - j ∧ J 8 j h', 6, Fin.of ⟨0, by omega, rfl, rfl, E4⟩, ?_⟩
  clear E4
  rintro _ _ h14 ⟨j, hj, rfl, rfl, E4⟩
  have E4 : Keep B h0 (L ++ [some (k3, .vec TY.reads_Now (plains (List.replicate 25 (.int .i64 0))) 25), some (k11, .vec TY.reads_Now (plains (part (nowF v) (nowZ v.t) (8 + j))) 25)]) h14 := E4
  refine ⟨fun hlt => ⟨_, rfl, _, cellH_vec (A.app.at E4 0 (by decide) rfl) rfl, tget_wp E4 A.app.tome o.r ?_⟩, fun hge => Fin.of ?_⟩
  · intro h43 E5
    refine ⟨by decide, by decide, by omega, by omega, ?_⟩
    obtain ⟨h5, s, E6⟩ := E5.fill1 1 rfl rfl (now_f (by omega : j < 6)) (Nat.le_refl _) rfl (a := Addr.add ⟨k11, 8, none⟩ (Int.toNat (j : Int) * 1)) (by rw [addr_more]; simp)
    exact ⟨h5, s, Fin.of ⟨6 - (j + 1), by omega, j + 1, by omega, wrapS (by omega), rfl, E6⟩⟩
  have hj8 : j = 6 := by omega
  subst hj8
  unfold S_attempt_View_Now_J2
  refine ⟨fun q m h' => ∃ j : Nat, j ≤ 3 ∧ q = j ∧ m = 3 - j ∧ J 16 j h', 3, Fin.of ⟨0, by omega, rfl, rfl, E4⟩, ?_⟩
  clear E4
  rintro _ _ h14 ⟨j, hj, rfl, rfl, E4⟩
  have E4 : Keep B h0 (L ++ [some (k3, .vec TY.reads_Now (plains (List.replicate 25 (.int .i64 0))) 25), some (k11, .vec TY.reads_Now (plains (part (nowF v) (nowZ v.t) (16 + j))) 25)]) h14 := E4
  refine ⟨fun hlt => ⟨_, rfl, _, cellH_vec (A.app.at E4 0 (by decide) rfl) rfl, feed_place_wp o.k.t3 (A.app.at E4 5 (by decide) rfl) (A.app.at E4 6 (by decide) rfl) ?_⟩, fun hge => ?_⟩
  · refine ⟨by decide, by decide, by omega, by omega, ?_⟩
    obtain ⟨h5, s, E6⟩ := E4.fill1 1 rfl rfl (now_l (by omega : j < 3)) (Nat.le_refl _) rfl (a := Addr.add ⟨k11, 16, none⟩ (Int.toNat (j : Int) * 1)) (by rw [addr_more]; simp)
    exact ⟨h5, s, Fin.of ⟨3 - (j + 1), by omega, j + 1, by omega, wrapS (by omega), rfl, E6⟩⟩
  have hj8 : j = 3 := by omega
  subst hj8
  have E5 : Keep B h0 (L ++ [some (k3, .vec TY.reads_Now (plains (List.replicate 25 (.int .i64 0))) 25), some (k11, .vec TY.reads_Now (plains (nowF v)) 25)]) h14 := E4
  refine ⟨nowF v, rfl, E5.allM 1 rfl, rfl, _, stores_whole (E5.gM 0 rfl) rfl (Nat.le_refl _) (by simp [nowF, isOne, cV, fV, lV]) (by simp [nowF]), ?_⟩
  have E6 := E5.pM (o' := .vec TY.reads_Now (plains (nowF v)) 25) 0 rfl
  exact ⟨nowF v, rfl, E6.allM 0 rfl, Fin.of (hQ _ E6.zM)⟩
theorem newview_wp {Q : Option Addr → Heap → Prop} (hQ : ∀ x h', VOk x vz → Keep B h (x.e vz) h' → Q (some ⟨x.kV, 0, none⟩) h') : C_attempt_NewView B h Q := by
  refine C_attempt_NewView.of ?_
  unfold S_attempt_NewView
  refine new_wp_int (by decide) fun kC a b => ?_
  have E := (Keep.nil B h).new (o := rowO_int (List.replicate 8 (0, 0))) a b
  refine tnew_wp fun kT kR v r h4 R E1 => ?_
  have E2 := E.append E1
  refine feed_new_wp fun kP kF h1 h2 aP bP e1 aF bF e2 => ?_
  have E3 := (E2.made aP bP e1).made aF bF e2
  intro k8 a8 b8 h9 e9
  have E4 := E3.made a8 b8 e9
  exact Fin.of (hQ ⟨k8, kC, kT, kR, v, r, kF, kP⟩ _ ⟨R, rfl, TomeOk.zero, FeedOk.zero⟩ (E4.picks [6, 0, 1, 2, 3, 5, 4] (by decide)))
theorem things_wp {Q : List Value → ByteArray → ByteArray → ByteArray → Heap → Prop} (E : Keep B h0 L h) (A : VAt L i x v) (o : VOk x v) (hQ : ∀ h', Keep B h0 L h' → Q (thF v) (textAt v.ts 0) (textAt v.ts 1) (textAt v.ts 2) h') : C_countermandlaw20_things B (some ⟨x.kV, 0, none⟩) h Q := by
  refine C_countermandlaw20_things.of ?_
  unfold S_countermandlaw20_things
  intro k6 a6 b6 h7 e7 k8 a8 b8 h9 e9 k10 a10 b10 h11 e11 k12 a12 b12 h13 e13
  have E1 := (((E.start.nM a6 b6 e7).nM a8 b8 e9).nM a10 b10 e11).nM a12 b12 e13
  let M (b j : Nat) : List (Option (Nat × AObj)) := [some (k6, .vec TY.countermandref20_Things (plains thZ) 23), some (k8, .vec TY.a_3_string (plains txZ) 3), some (k10, .vec TY.countermandref20_Things (plains (part (thF v) thZ b)) 23), some (k12, .vec TY.a_3_string (plains (part (txF v.ts) txZ j)) 3)]
  have E1 : Keep B h0 (L ++ M 0 0) h13 := E1
  refine ⟨fun q m h' => ∃ j : Nat, j ≤ 8 ∧ q = j ∧ m = 8 - j ∧ Keep B h0 (L ++ M j 0) h', 8, Fin.of ⟨0, by omega, rfl, rfl, E1⟩, ?_⟩
  clear E1 e7 e9 e11 e13
  rintro _ _ h14 ⟨j, hj, rfl, rfl, E4⟩
  refine ⟨fun hlt => ⟨_, rfl, _, cellH_vec (A.app.at E4 0 (by decide) rfl) rfl, get_wp_int (rowO_int_v (A.app.at E4 1 (by decide) rfl)) ⟨by omega, by omega, ?_⟩⟩, fun hge => Fin.of ?_⟩
  · obtain ⟨h5, s, E5⟩ := E4.fill1 2 rfl rfl (th_c (by omega : j < 8)) (Nat.le_refl _) rfl (a := Addr.add ⟨k10, 0, none⟩ (Int.toNat (j : Int) * 1)) (by rw [addr_more]; simp)
    exact ⟨h5, s, Fin.of ⟨8 - (j + 1), by omega, j + 1, by omega, wrapS (by omega), rfl, E5⟩⟩
  have hj8 : j = 8 := by omega
  subst hj8
  unfold S_countermandlaw20_things_J1
  refine ⟨fun q m h' => ∃ j : Nat, j ≤ 6 ∧ q = j ∧ m = 6 - j ∧ Keep B h0 (L ++ M (8 + j * 2) 0) h', 6, Fin.of ⟨0, by omega, rfl, rfl, E4⟩, ?_⟩
  clear E4
  rintro _ _ h14 ⟨j, hj, rfl, rfl, E4⟩
  refine ⟨fun hlt => ⟨_, rfl, _, cellH_vec (A.app.at E4 0 (by decide) rfl) rfl, tget_wp E4 A.app.tome o.r ?_⟩, fun hge => Fin.of ?_⟩
  · intro h43 E5 k64 a64 b64 h65 e65
    have E6 := E5.nM a64 b64 e65
    refine ⟨_, stores_whole (E6.gM 4 rfl) rfl (by simp) (by simp [isOne]) (by simp), ?_⟩
    have E7 := E6.pM (o' := .vec TY.file_File (plains [.bool (fileAt v.f (j : Nat)).1.1, .string (fileAt v.f (j : Nat)).1.2]) 2) 4 rfl
    refine ⟨_, _, ⟨E7.cM 4 rfl (i := 0) rfl, E7.cM 4 rfl (i := 1) rfl, trivial⟩, by omega, by omega, ?_⟩
    have hf := th_f (v := v) (by omega : j < 6)
    obtain ⟨h5, s, E8⟩ := (E7.tM 4).fillN (F := thF v) (Z := thZ) (m := 8 + j * 2) 2 rfl rfl [.bool (fileAt v.f (j : Nat)).1.1, .string (fileAt v.f (j : Nat)).1.2] (by
      obtain ⟨l1, g1⟩ := List.getElem?_eq_some_iff.1 hf.1
      obtain ⟨l2, g2⟩ := List.getElem?_eq_some_iff.1 hf.2
      rw [List.drop_eq_getElem_cons l1, g1, List.drop_eq_getElem_cons l2, g2]; rfl) (by show 8 + j * 2 + 2 ≤ 23; omega) (Nat.le_refl _) (by simp [isOne]) (a := Addr.add ⟨k10, 8, none⟩ (Int.toNat (j : Int) * 2)) (by rw [addr_more]; simp)
    refine ⟨h5, s, Fin.of ⟨6 - (j + 1), by omega, j + 1, by omega, wrapS (by omega), rfl, ?_⟩⟩
    rw [show 8 + (j + 1) * 2 = 8 + j * 2 + 2 by omega]; exact E8
  have hj8 : j = 6 := by omega
  subst hj8
  unfold S_countermandlaw20_things_J2
  refine ⟨fun q m h' => ∃ j : Nat, j ≤ 3 ∧ q = j ∧ m = 3 - j ∧ Keep B h0 (L ++ M (20 + j) j) h', 3, Fin.of ⟨0, by omega, rfl, rfl, E4⟩, ?_⟩
  clear E4
  rintro _ _ h14 ⟨j, hj, rfl, rfl, E4⟩
  refine ⟨fun hlt => ⟨_, rfl, _, cellH_vec (A.app.at E4 0 (by decide) rfl) rfl, feed_place_wp o.k.t3 (A.app.at E4 5 (by decide) rfl) (A.app.at E4 6 (by decide) rfl) ?_⟩, fun hge => ?_⟩
  · refine ⟨by omega, by omega, ?_⟩
    obtain ⟨h5, s, E6⟩ := E4.fill1 2 rfl rfl (th_l (by omega : j < 3)) (Nat.le_refl _) rfl (a := Addr.add ⟨k10, 20, none⟩ (Int.toNat (j : Int) * 1)) (by rw [addr_more]; simp)
    refine ⟨h5, s, _, rfl, _, cellH_vec (A.app.at E6 0 (by decide) rfl) rfl, feed_text_wp o.k.t3 (A.app.at E6 5 (by decide) rfl) ⟨by omega, by omega, ?_⟩⟩
    obtain ⟨h6, s, E7⟩ := E6.fill1 3 rfl rfl (tx_at (by omega : j < 3)) (Nat.le_refl _) rfl (a := Addr.add ⟨k12, 0, none⟩ (Int.toNat (j : Int) * 1)) (by rw [addr_more]; simp)
    exact ⟨h6, s, Fin.of ⟨3 - (j + 1), by omega, j + 1, by omega, wrapS (by omega), rfl, E7⟩⟩
  have hj8 : j = 3 := by omega
  subst hj8
  have E5 : Keep B h0 (L ++ [some (k6, .vec TY.countermandref20_Things (plains thZ) 23), some (k8, .vec TY.a_3_string (plains txZ) 3), some (k10, .vec TY.countermandref20_Things (plains (thF v)) 23), some (k12, .vec TY.a_3_string (plains (txF v.ts)) 3)]) h14 := E4
  have c1 := E5.allM 3 rfl
  refine ⟨thF v, rfl, E5.allM 2 rfl, _, _, _, c1, rfl, _, stores_whole (E5.gM 0 rfl) rfl (by simp [thF]) (by simp [thF, isOne, cT, fT, sT, lT]) (by simp [thF]), ?_⟩
  have E6 := E5.pM (o' := .vec TY.countermandref20_Things (plains (thF v)) 23) 0 rfl
  refine ⟨E6.allM 2 rfl, E6.allM 3 rfl, _, stores_whole (E6.gM 1 rfl) rfl (by simp) (by simp [isOne]) (by simp), ?_⟩
  have E7 := E6.pM (o' := .vec TY.a_3_string (plains (txF v.ts)) 3) 1 rfl
  exact ⟨thF v, rfl, E7.allM 0 rfl, _, _, _, E7.allM 1 rfl, Fin.of (hQ _ E7.zM)⟩
end
end Go.Proofs.YtgldgabefiialaaGreat.H
namespace Go.Proofs.YtgldgabefiialaaGreat.H
open Go Go.RowKit
set_option linter.unusedVariables false
set_option maxRecDepth 100000
abbrev RE := Int × Int × Int
def enR (e : RE) : List Value := [.int .i64 e.1, .int .i64 e.2.1, .int .i64 e.2.2]
theorem enR_len (e : RE) : (enR e).length = 3 := rfl
theorem enR_one (e : RE) : ∀ y ∈ enR e, isOne y = true := fun y hy => by simp [enR] at hy; rcases hy with rfl | rfl | rfl <;> rfl
theorem TK.slc_re : slcB PG TY.s_reads_Entry = some (TY.reads_Entry, 3, 24) := by kernel_rfl
theorem TK.zero_re : zeroB PG TY.reads_Entry = some [.int .i64 0, .int .i64 0, .int .i64 0] := by kernel_rfl
theorem TK.sl_re : slT PG TY.s_reads_Entry = true := by kernel_rfl
def ERow (r : Option (Nat × AObj)) (v : Value) (l : List RE) : Prop := Row r v TY.reads_Entry 3 (l.flatMap enR)
def rsO (v : Value) (st : Int) : AObj := .vec TY.reads_Set (plains [v, .int .i64 st]) 2
structure RdAt (L : List (Option (Nat × AObj))) (i k : Nat) (v : Value) (st : Int) (r : Option (Nat × AObj)) : Prop where
  p : L[i]? = some (some (k, rsO v st))
  q : L[i + 1]? = some r
structure V3 (v : VV) : Prop where
  c8 : v.c.length = 8
  f6 : v.f.length = 6
  l3 : v.l.length = 3
theorem VOk.v3 {x : VI} {v : VV} (o : VOk x v) : V3 v := ⟨o.c8, o.f.n6, o.k.l3⟩
def vld (v : VV) (rs : List RE) : Bool := rs.all fun e => decide (verOf v e.1 e.2.1 = e.2.2)
def fE (rs : List RE) (k i : Int) : Option Int := (rs.find? fun e => decide (e.1 = k ∧ e.2.1 = i)).map fun e => e.2.2
def noteA (v : VV) (rs : List RE) (st k i : Int) : Bool × List RE × Int := match fE rs k i with
  | some w => (w == verOf v k i, rs, st)
  | none => if verOf v k i > st then (if vld v rs = true then (true, rs ++ [(k, i, verOf v k i)], v.t) else (false, rs, st)) else (true, rs ++ [(k, i, verOf v k i)], st)
theorem noteA_len (v : VV) (rs : List RE) (st k i : Int) : (noteA v rs st k i).2.1.length ≤ rs.length + 1 := by
  unfold noteA; split
  · simp
  · split
    · split <;> simp
    · simp
theorem verOf_out {v : VV} (o : V3 v) {k i : Int} (h : ¬ (0 ≤ k ∧ k ≤ 2 ∧ 0 ≤ i ∧ i < 8)) : verOf v k i = 0 := by
  unfold verOf
  split
  · rw [cellAt_int_out (by rw [o.c8]; omega)]
  · split
    · rw [fileAt_out (by rw [o.f6]; omega)]
    · split
      · rw [cellAt_int_out (by rw [o.l3]; omega)]
      · rfl
theorem now_ver {v : VV} (o : V3 v) {k i : Nat} (hk : k ≤ 2) (hi : i < 8) : (nowF v)[k * 8 + i]? = some (.int .i64 (verOf v (k : Int) (i : Int))) := by
  have hc : k = 0 ∨ k = 1 ∨ k = 2 := by omega
  rcases hc with rfl | rfl | rfl
  · rw [Nat.zero_mul, Nat.zero_add, now_c hi]; rfl
  · by_cases h6 : i < 6
    · rw [Nat.one_mul, now_f h6]; rfl
    · have : verOf v ((1 : Nat) : Int) (i : Int) = 0 := by
        show (fileAt v.f (i : Int)).2 = 0
        rw [fileAt_out (by rw [o.f6]; omega)]
      rw [this]
      have h2 : i = 6 ∨ i = 7 := by omega
      rcases h2 with rfl | rfl <;> rfl
  · by_cases h3 : i < 3
    · rw [show 2 * 8 + i = 16 + i by omega, now_l h3]; rfl
    · have : verOf v ((2 : Nat) : Int) (i : Int) = 0 := by
        show (cellAt_int v.l (i : Int)).2 = 0
        rw [cellAt_int_out (by rw [o.l3]; omega)]
      rw [this]
      have h2 : i = 3 ∨ i = 4 ∨ i = 5 ∨ i = 6 ∨ i = 7 := by omega
      rcases h2 with rfl | rfl | rfl | rfl | rfl <;> rfl
section
variable {B : RO} {h0 h h' : Heap} {L M : List (Option (Nat × AObj))} {j kS : Nat} {vS : Value} {st : Int} {r : Option (Nat × AObj)} {rs : List RE} {v : VV} {k i : Int}
theorem nof_wp {Q : Int → Heap → Prop} (o : V3 v) (hQ : Q (verOf v k i) h) : C_reads_Now_Of B (nowF v) k i h Q := by
  refine C_reads_Now_Of.of ?_
  unfold S_reads_Now_Of
  intro k5 a5 b5 h6 e6
  have E := (Keep.nil B h).made a5 b5 e6
  have out : ¬ (0 ≤ k ∧ k ≤ 2 ∧ 0 ≤ i ∧ i < 8) → Fin B h6 (Q 0) := fun hn => by
    rw [verOf_out o hn] at hQ
    exact Fin.ent E.back (Fin.of hQ)
  refine ⟨fun h1 => out (by omega), fun h1 => ⟨fun h2 => out (by omega), fun h2 => ⟨fun h3 => out (by omega), fun h3 => ⟨fun h4 => out (by omega), fun h4 => Fin.of ?_⟩⟩⟩⟩
  unfold S_reads_Now_Of_J1
  obtain ⟨k, rfl⟩ := Int.eq_ofNat_of_zero_le (by omega : 0 ≤ k)
  obtain ⟨i, rfl⟩ := Int.eq_ofNat_of_zero_le (by omega : 0 ≤ i)
  refine ⟨by omega, by omega, by omega, by omega, _, ?_, Fin.ent E.back (Fin.of hQ)⟩
  rw [addr_more, addr_more]
  refine cellH_vec (E.at 0 rfl) ?_
  rw [plains_get, show 0 + Int.toNat (k : Int) * 8 + Int.toNat (i : Int) * 1 = k * 8 + i by simp, now_ver o (by omega) (by omega)]; rfl
theorem ERow.len {a : Option Addr} {m c : Nat} (R : ERow r (.slice a m c) rs) : m = rs.length := (Row.rd (B := fun _ => none) R enR_len (by omega)).1
theorem valid_wp {Q : Bool → Heap → Prop} (E : Keep B h0 L h) (A : RdAt L j kS vS st r) (R : ERow r vS rs) (hl : rs.length ≤ 100000) (o : V3 v) (hQ : ∀ h', Keep B h0 L h' → Q (vld v rs) h') : C_reads_Set_Valid B (some ⟨kS, 0, none⟩) (nowF v) h Q := by
  refine C_reads_Set_Valid.of ?_
  unfold S_reads_Set_Valid
  intro k4 a4 b4 h5 e5
  have E1 := E.start.nM a4 b4 e5
  obtain ⟨a, m, c, rfl⟩ := Row.slice R
  obtain rfl := ERow.len R
  obtain ⟨_, rd⟩ := Row.rd (B := B) R enR_len (by omega)
  refine ⟨fun e => (by cases e), fun _ => ⟨_, rfl, .inl ⟨a, _, c, E1.cell j (up_app _ A.p) rfl, ?_⟩⟩⟩
  refine ⟨fun q m h' => ∃ p : Nat, p ≤ rs.length ∧ q = p ∧ m = rs.length - p ∧ vld v (rs.take p) = true ∧ Keep B h0 (L ++ [some (k4, .vec TY.reads_Now (plains (nowF v)) 25)]) h', rs.length, Fin.of ⟨0, by omega, rfl, rfl, rfl, E1⟩, ?_⟩
  clear E1 e5
  rintro _ _ h14 ⟨p, hp, rfl, rfl, hv, E2⟩
  refine ⟨fun hlt => ?_, fun hge => Fin.of ?_⟩
  · have hpl : p < rs.length := by omega
    have hx := List.getElem?_eq_getElem hpl
    have htk : vld v (rs.take (p + 1)) = (vld v (rs.take p) && decide (verOf v rs[p].1 rs[p].2.1 = rs[p].2.2)) := by
      unfold vld; rw [List.take_succ_eq_append_getElem hpl, List.all_append]; simp
    have hall : ¬ verOf v rs[p].1 rs[p].2.1 = rs[p].2.2 → vld v rs = false := fun hn => by
      unfold vld; rw [List.all_eq_false]; exact ⟨rs[p], List.getElem_mem _, by simp [hn]⟩
    generalize rs[p] = x at hx htk hall
    obtain ⟨A', f1, _, f2⟩ := rd h14 (fun k o e => E2.at (j + 1) (by rw [up_app _ A.q, e])) p x hx
    refine ⟨A', f1, by omega, by omega, x.1, x.2.1, x.2.2, f2, fun k24 a24 b24 h25 e25 => ?_⟩
    have E3 := E2.nM a24 b24 e25
    refine ⟨_, stores_whole (E3.gM 1 rfl) rfl (by simp) (by simp [isOne]) (by simp), ?_⟩
    have E4 := E3.pM (o' := .vec TY.reads_Entry (plains [.int .i64 x.1, .int .i64 x.2.1, .int .i64 x.2.2]) 3) 1 rfl
    refine ⟨nowF v, rfl, E4.allM 0 rfl, _, E4.cM 1 rfl (i := 0) rfl, _, E4.cM 1 rfl (i := 1) rfl, _, E4.cM 1 rfl (i := 2) rfl, nof_wp o ⟨E4.allM 0 rfl, E4.cM 1 rfl (i := 0) rfl, E4.cM 1 rfl (i := 1) rfl, E4.cM 1 rfl (i := 2) rfl, fun he => Fin.of ?_, fun hn => Fin.of ?_⟩⟩
    · exact ⟨rs.length - (p + 1), by omega, p + 1, by omega, wrapS (by omega), rfl, by rw [htk, hv, he]; simp, E4.tM 1⟩
    · rw [← hall hn]; exact hQ _ E4.zM
  · have : p = rs.length := by omega
    subst this
    rw [List.take_length] at hv
    rw [← hv]; exact hQ _ E2.zM
theorem fE_none : fE rs k i = none ↔ ∀ e ∈ rs, ¬ (e.1 = k ∧ e.2.1 = i) := by
  unfold fE; rw [Option.map_eq_none_iff, List.find?_eq_none]; simp
theorem fE_at {p : Nat} {e : RE} (hp : rs[p]? = some e) (hm : e.1 = k ∧ e.2.1 = i) (hn : ∀ q e', q < p → rs[q]? = some e' → ¬ (e'.1 = k ∧ e'.2.1 = i)) : fE rs k i = some e.2.2 := by
  obtain ⟨hl, rfl⟩ := List.getElem?_eq_some_iff.1 hp
  have hs : rs = rs.take p ++ rs[p] :: rs.drop (p + 1) := by rw [← List.drop_eq_getElem_cons hl, List.take_append_drop]
  unfold fE
  generalize rs[p] = x at *
  rw [hs, List.find?_append, List.find?_eq_none.2 (fun e' he' => by
    obtain ⟨q, hq, rfl⟩ := List.mem_iff_getElem.1 he'
    rw [List.length_take] at hq
    rw [List.getElem_take]
    have := hn q rs[q] (by omega) (List.getElem?_eq_getElem (by omega))
    simpa using this)]
  rw [Option.none_or, List.find?_cons_of_pos (by simpa using hm)]; rfl
theorem place1_wp {e : RE} {a b : Addr} {Q : Bool → Heap → Prop} (c1 : cellH B h a = some (.int .i64 k)) (c2 : cellH B h b = some (.int .i64 i)) (hQ : ∀ h', Keep B h [] h' → Q (decide (e.1 = k ∧ e.2.1 = i)) h') : C_reads_Set_place_1 B e.1 e.2.1 e.2.2 a b h Q := by
  refine C_reads_Set_place_1.of ?_
  unfold S_reads_Set_place_1
  intro k7 a7 b7 h8 e8
  have E := (Keep.nil B h).made a7 b7 e8
  have w := E.w
  refine ⟨_, E.cell 0 rfl rfl, k, w.cell c1, fun he => ⟨_, E.cell 0 rfl rfl, i, w.cell c2, Fin.of ?_⟩, fun hn => Fin.of ?_⟩
  · have : (e.2.1 == i) = decide (e.1 = k ∧ e.2.1 = i) := by
      rw [Bool.eq_iff_iff]; simp [he]
    rw [this]; exact hQ _ E.pop
  · have := hQ _ E.pop
    rw [decide_eq_false (by simp [hn])] at this; exact this
theorem place_wp {Q : Int → Heap → Prop} (E : Keep B h0 L h) (A : RdAt L j kS vS st r) (R : ERow r vS rs) (hl : rs.length ≤ 100000) (hS : ∀ p e h', rs[p]? = some e → fE rs k i = some e.2.2 → Keep B h0 L h' → Q (p : Nat) h') (hN : fE rs k i = none → ∀ h', Keep B h0 L h' → Q (-1) h') : C_reads_Set_place B (some ⟨kS, 0, none⟩) k i h Q := by
  refine C_reads_Set_place.of ?_
  unfold S_reads_Set_place
  intro k5 a5 b5 h6 e6 k7 a7 b7 h8 e8
  have E1 := (E.start.nM a5 b5 e6).nM a7 b7 e8
  obtain ⟨a, m, c, rfl⟩ := Row.slice R
  obtain rfl := ERow.len R
  obtain ⟨_, rd⟩ := Row.rd (B := B) R enR_len (by omega)
  refine ⟨_, rfl, .inl ⟨a, _, c, E1.cell j (up_app _ A.p) rfl, ?_⟩⟩
  refine C_slices_IndexFunc_s_reads_Entry_reads_Entry.of ?_
  unfold S_slices_IndexFunc_s_reads_Entry_reads_Entry
  refine ⟨fun q m h' => ∃ p : Nat, p ≤ rs.length ∧ q = p ∧ m = rs.length - p ∧ (∀ q e, q < p → rs[q]? = some e → ¬ (e.1 = k ∧ e.2.1 = i)) ∧ Keep B h0 (L ++ [some (k5, .vec TY.reads_Kind (plains [.int .i64 k]) 1), some (k7, .vec TY.int (plains [.int .i64 i]) 1)]) h', rs.length, Fin.of ⟨0, by omega, rfl, rfl, fun q e hq => by omega, E1⟩, ?_⟩
  clear E1 e6 e8
  rintro _ _ h14 ⟨p, hp, rfl, rfl, hv, E2⟩
  refine ⟨fun hlt => ?_, fun hge => Fin.of (Fin.of ?_)⟩
  · have hpl : p < rs.length := by omega
    have hx := List.getElem?_eq_getElem hpl
    generalize rs[p] = x at hx
    obtain ⟨A', f1, _, f2⟩ := rd h14 (fun k o e => E2.at (j + 1) (by rw [up_app _ A.q, e])) p x hx
    refine ⟨A', f1, by omega, by omega, x.1, x.2.1, x.2.2, f2, CallV.func TG.reads_Set_place_1 (place1_wp (e := x) (E2.cM 0 rfl (i := 0) rfl) (E2.cM 1 rfl (i := 0) rfl) fun h17 E3 => ⟨fun hT => Fin.of (Fin.of ?_), fun hF => Fin.of ?_⟩)⟩
    · rw [decide_eq_true_eq] at hT
      exact hS p x h17 hx (fE_at hx hT hv) (E2.wk E3.w).zM
    · rw [decide_eq_false_iff_not] at hF
      refine ⟨rs.length - (p + 1), by omega, p + 1, by omega, wrapS (by omega), rfl, fun q e hq hg => ?_, E2.wk E3.w⟩
      by_cases he : q = p
      · subst he; rw [hx] at hg; cases hg; exact hF
      · exact hv q e (by omega) hg
  · refine hN (fE_none.2 fun e he => ?_) _ E2.zM
    obtain ⟨q, hq, rfl⟩ := List.mem_iff_getElem.1 he
    exact hv q _ (by omega) (List.getElem?_eq_getElem hq)
theorem set_self {q : Nat} {y : Option (Nat × AObj)} (h : L[q]? = some y) : L.set q y = L := by
  obtain ⟨_, h2⟩ := List.getElem?_eq_some_iff.1 h
  rw [← h2, List.set_getElem_self]
theorem Note_J1 {Q : Bool → Heap → Prop} (E : Keep B h0 L h) (A : RdAt L j kS vS st r) (R : ERow r vS rs) (hl : rs.length ≤ 100000) {w : Int} (hQ : ∀ vS' r' h', ERow r' vS' (rs ++ [(k, i, w)]) → Keep B h0 ((L.set j (some (kS, rsO vS' st))).set (j + 1) r') h' → Q true h') : S_reads_Set_Note_J1 B (some ⟨kS, 0, none⟩) k i w h Q := by
  unfold S_reads_Set_Note_J1
  obtain ⟨a, m, c, rfl⟩ := Row.slice R
  obtain rfl := ERow.len R
  have hj := (List.getElem?_eq_some_iff.1 A.p).1
  have hj1 := (List.getElem?_eq_some_iff.1 A.q).1
  have hfl := flatMap_length enR_len rs
  refine ⟨_, rfl, .inl ⟨a, _, c, E.cell j A.p rfl, fun k31 a31 b31 h32 e32 => ?_⟩⟩
  have E1 := E.made a31 b31 e32
  have g := E1.last
  refine E1.pushS (j + 1) (n := 1) (ys := enR (k, i, w)) (up_app _ A.q) R TK.slc_re TK.zero_re rfl (by omega) (by omega) TK.sl_re ⟨rfl, enR_one _, .inl ⟨_, _, rfl, CellsAt.of_vec (enR (k, i, w)) 0 g fun q y hy => by rw [show 0 + 0 + q = q by omega]; exact plains_get_some hy⟩⟩ (by rw [hfl, enR_len]; omega) fun a' m' c' r' h61 R' E2 => ?_
  rw [List.set_append_left _ _ hj1] at E2
  have hp : (L.set (j + 1) r' ++ [some (k31, AObj.vec TY.reads_Entry (plains (enR (k, i, w))) 3)])[j]? = some (some (kS, rsO (.slice a rs.length c) st)) := up_app _ (by rw [List.getElem?_set_ne (by omega)]; exact A.p)
  obtain ⟨es, E3⟩ := E2.store j 0 (.slice a' m' c') hp rfl
  refine ⟨a', m', c', rfl, _, rfl, _, es, Fin.of (hQ (.slice a' m' c') r' _ ?_ ?_)⟩
  · unfold ERow; rw [List.flatMap_append]; simpa using R'
  · rw [List.set_append_left _ _ (by rw [List.length_set]; omega), List.set_comm _ _ (by omega)] at E3
    exact E3.popL
theorem note_wp {Q : Bool → Heap → Prop} (E : Keep B h0 L h) (A : RdAt L j kS vS st r) (R : ERow r vS rs) (hl : rs.length ≤ 90000) (o : V3 v)
    (hQ : ∀ vS' r' h', ERow r' vS' (noteA v rs st k i).2.1 → Keep B h0 ((L.set j (some (kS, rsO vS' (noteA v rs st k i).2.2))).set (j + 1) r') h' → Q (noteA v rs st k i).1 h') : C_reads_Set_Note B (some ⟨kS, 0, none⟩) (nowF v) k i h Q := by
  refine C_reads_Set_Note.of ?_
  unfold S_reads_Set_Note
  have hj := (List.getElem?_eq_some_iff.1 A.p).1
  have hj1 := (List.getElem?_eq_some_iff.1 A.q).1
  intro k6 a6 b6 h7 e7
  have E1 := E.start.nM a6 b6 e7
  refine ⟨fun e => (by cases e), fun _ => ⟨nowF v, rfl, E1.allM 0 rfl, nof_wp o ?_⟩⟩
  have A1 : ∀ {y : Option (Nat × AObj)}, RdAt (L ++ [y]) j kS vS st r := ⟨up_app _ A.p, up_app _ A.q⟩
  have same : ∀ h', Keep B h0 L h' → Keep B h0 ((L.set j (some (kS, rsO vS st))).set (j + 1) r) h' := fun h' E => by
    rw [set_self A.p, set_self A.q]; exact E
  obtain ⟨_, rd⟩ : ∃ u : Unit, ∀ a m c, vS = .slice a m c → m = rs.length ∧ RowRd B r a 3 enR rs := ⟨(), fun a m c e => by subst e; exact Row.rd (B := B) R enR_len (by omega)⟩
  refine place_wp E1 A1 R (by omega) (fun p e h12 hp hf E2 => ⟨fun _ => ?_, fun hn => by omega⟩) (fun hf h12 E2 => ⟨fun hn => by omega, fun _ => ?_⟩)
  · obtain ⟨a, m, c, rfl⟩ := Row.slice R
    obtain ⟨hm, rd⟩ := rd a m c rfl
    obtain ⟨A', f1, _, f2⟩ := rd h12 (fun k o e => E2.at (j + 1) (by rw [up_app _ A.q, e])) p e hp
    have hpl := (List.getElem?_eq_some_iff.1 hp).1
    have hc : cellH B h12 (Addr.add (Addr.add A' (Int.toNat (p : Int) * 3)) 2) = some (.int .i64 e.2.2) := by rw [Int.toNat_natCast]; exact f2.2.2.1
    refine ⟨_, rfl, .inl ⟨a, m, c, E2.cell j (up_app _ A.p) rfl, A', f1, by omega, by omega, _, hc, Fin.of ?_⟩⟩
    have h1 : noteA v rs st k i = (e.2.2 == verOf v k i, rs, st) := by unfold noteA; rw [hf]
    rw [h1] at hQ
    exact hQ _ r _ R (same _ E2.zM)
  · refine ⟨_, rfl, st, E2.cell j (up_app _ A.p) rfl, fun hgt => ⟨nowF v, rfl, E2.allM 0 rfl, valid_wp E2 A1 R (by omega) o fun h44 E3 => ⟨fun hT => ?_, fun hF => Fin.of ?_⟩⟩, fun hle => Fin.of ?_⟩
    · have h1 : noteA v rs st k i = (true, rs ++ [(k, i, verOf v k i)], v.t) := by unfold noteA; rw [hf]; simp only; rw [if_pos hgt, if_pos hT]
      rw [h1] at hQ
      obtain ⟨es, E4⟩ := E3.store j 1 (.int .i64 v.t) (up_app _ A.p) rfl
      refine ⟨v.t, cellH_vec (E3.gM 0 rfl) rfl, _, rfl, _, es, Fin.of ?_⟩
      rw [List.set_append_left _ _ hj] at E4
      refine Note_J1 (E4.zM) (st := v.t) ⟨List.getElem?_set_self hj, by rw [List.getElem?_set_ne (by omega)]; exact A.q⟩ R (by omega) fun vS' r' h' R' E5 => hQ vS' r' h' R' (by rw [List.set_set] at E5; exact E5)
    · have h1 : noteA v rs st k i = (false, rs, st) := by unfold noteA; rw [hf]; simp only; rw [if_pos hgt, if_neg (by rw [hF]; simp)]
      rw [h1] at hQ
      exact hQ _ r _ R (same _ E3.zM)
    · have h1 : noteA v rs st k i = (true, rs ++ [(k, i, verOf v k i)], st) := by unfold noteA; rw [hf]; simp only; rw [if_neg (fun h => hle h)]
      rw [h1] at hQ
      exact Note_J1 E2.zM A R (by omega) hQ
end
end Go.Proofs.YtgldgabefiialaaGreat.H
namespace Go.Proofs.YtgldgabefiialaaGreat.H
open Go Go.RowKit
set_option linter.unusedVariables false
set_option maxRecDepth 100000
def StV.cr (s : StV) (i : Int) : Int := if i = 0 then s.c0 else if i = 1 then s.c1 else if i = 2 then s.c2 else 0
def StV.step (s : StV) (i : Int) : StV := if i = 0 then { s with c0 := s.c0 + 1 } else if i = 1 then { s with c1 := s.c1 + 1 } else if i = 2 then { s with c2 := s.c2 + 1 } else s
theorem StV.step_cr (s : StV) {i j : Int} (hi : 0 ≤ i ∧ i < 3) : (s.step i).cr j = if j = i then s.cr i + 1 else s.cr j := by
  have hc : i = 0 ∨ i = 1 ∨ i = 2 := by omega
  rcases hc with rfl | rfl | rfl
  · show StV.cr { s with c0 := s.c0 + 1 } j = if j = 0 then s.c0 + 1 else s.cr j
    unfold StV.cr; by_cases h : j = 0 <;> simp [h]
  · show StV.cr { s with c1 := s.c1 + 1 } j = if j = 1 then s.c1 + 1 else s.cr j
    unfold StV.cr; by_cases h : j = 1
    · subst h; rfl
    · simp [h]
  · show StV.cr { s with c2 := s.c2 + 1 } j = if j = 2 then s.c2 + 1 else s.cr j
    unfold StV.cr; by_cases h : j = 2
    · subst h; rfl
    · simp [h]
theorem StV.step_d (s : StV) (i : Int) : (s.step i).d = s.d ∧ (s.step i).f = s.f := by
  unfold StV.step; (repeat' split) <;> exact ⟨rfl, rfl⟩
structure AK where
  kA : Nat
  kS : Nat
  kX : Nat
  kK : Nat
structure AU where
  vS : Value
  rS : Option (Nat × AObj)
  x : StI
structure AV where
  rs : List RE
  st : Int
  s : StV
  g : Reg4
def attO (V : VI) (K : AK) (x : StI) (g : Reg4) : AObj := .vec TY.attempt_Attempt (plains [.pointer (some ⟨V.kV, 0, none⟩), .pointer (some ⟨K.kS, 0, none⟩), .pointer (some ⟨x.kd, 0, none⟩), .pointer (some ⟨x.ks, 0, none⟩), .pointer (some ⟨x.kc, 0, none⟩), .int .i64 g.a, .int .i64 g.b, .int .i64 g.c, .int .i64 g.d, .pointer (some ⟨K.kX, 0, none⟩), .pointer (some ⟨K.kK, 0, none⟩)]) 11
def AE (V : VI) (K : AK) (U : AU) (s : AV) : List (Option (Nat × AObj)) := [some (K.kA, attO V K U.x s.g), some (K.kS, rsO U.vS s.st), U.rS, some (U.x.kd, drO_int U.x.vd), U.x.rd, some (U.x.ks, shtO U.x.kf), some (U.x.kf, drO_file_File U.x.vf), U.x.rf, some (U.x.kc, curO s.s)]
structure AOk (v : VV) (s : AV) : Prop where
  so : SOk v.f s.s.f
  sd : SortD s.s.d
  dk : ∀ x ∈ s.s.d, 0 ≤ x.1 ∧ x.1 < 8
  cr : ∀ i, 0 ≤ s.s.cr i ∧ s.s.cr i ≤ 64
theorem sort_lenN {W : Type} (n : Nat) : ∀ (d : List (Int × W)) (a : Nat), SortD d → (∀ x ∈ d, (a : Int) ≤ x.1 ∧ x.1 < n) → d.length ≤ n - a := by
  intro d
  induction d with
  | nil => intro a _ _; simp
  | cons x d ih =>
    intro a s h
    obtain ⟨h1, h2⟩ := h x (by simp)
    obtain ⟨s1, s2⟩ := List.pairwise_cons.1 s
    have := ih (a + 1) s2 (fun y hy => ⟨by have := s1 y hy; omega, (h y (by simp [hy])).2⟩)
    simp only [List.length_cons]; omega
theorem AOk.dlen {v : VV} {s : AV} (o : AOk v s) : s.s.d.length ≤ 8 := sort_lenN 8 s.s.d 0 o.sd fun x hx => o.dk x hx
structure SS (B : RO) (h0 : Heap) (L : List (Option (Nat × AObj))) (h : Heap) (V : VI) (v : VV) (K : AK) (U : AU) (s : AV) : Prop where
  E : Keep B h0 (L ++ (V.e v ++ AE V K U s)) h
  o : VOk V v
  R : ERow U.rS U.vS s.rs
  O : U.x.Ok s.s
  a : AOk v s
def s0 (v : VV) (g : Reg4) : AV := ⟨[], v.t, StV.z, g⟩
theorem SOk.nil {l : FL} (k : TomeOk l) : SOk l [] := ⟨List.Pairwise.nil, fun x hx => (by cases hx), k.n6, k.good⟩
theorem AOk.zero {v : VV} {V : VI} (o : VOk V v) {g : Reg4} : AOk v (s0 v g) := ⟨SOk.nil o.f, List.Pairwise.nil, fun x hx => (by cases hx), fun i => by simp only [s0, StV.z, StV.cr]; (repeat' split) <;> omega⟩
section
variable {B : RO} {h0 h h' : Heap} {L M : List (Option (Nat × AObj))} {V : VI} {v : VV} {K : AK} {U : AU} {s : AV} {k : Nat} {i j : Int} {c : StV} {g : Reg4}
theorem cur_cell (hk : h k = some (curO c)) (hi : 0 ≤ i ∧ i < 3) : cellH B h (Addr.add ⟨k, 0, none⟩ (Int.toNat i * 1)) = some (.int .i64 (c.cr i)) := by
  rw [addr_more]
  have hc : i = 0 ∨ i = 1 ∨ i = 2 := by omega
  rcases hc with rfl | rfl | rfl <;> exact cellH_vec hk rfl
theorem pis_wp {n : Int} {Q : Bool → Heap → Prop} (hQ : Q (decide (0 ≤ n ∧ n < 3)) h) : C_cursor_is B n h Q := by
  refine C_cursor_is.of ?_
  unfold S_cursor_is
  refine ⟨fun h1 => Fin.of ?_, fun h1 => Fin.of ?_⟩
  · have : decide (0 ≤ n ∧ n < 3) = decide (n < 3) := by simp; omega
    rw [this] at hQ; exact hQ
  · rw [decide_eq_false (by omega)] at hQ; exact hQ
theorem cread_wp {Q : Int → Heap → Prop} (hk : h k = some (curO c)) (hi : 0 ≤ i ∧ i < 3) (hQ : Q (c.cr i) h) : C_cursor_Cursor_Read B (some ⟨k, 0, none⟩) i h Q := by
  refine C_cursor_Cursor_Read.of ?_
  unfold S_cursor_Cursor_Read
  refine ⟨fun e => (by cases e), fun _ => pis_wp ⟨fun _ => Fin.of ?_, fun e => absurd e (by simp; omega)⟩⟩
  unfold S_cursor_Cursor_Read_J1
  exact ⟨_, rfl, by omega, by omega, _, cur_cell hk hi, Fin.of hQ⟩
theorem cat_wp {p : Int} {Q : Int → Heap → Prop} (hk : h k = some (curO c)) (hi : 0 ≤ i ∧ i < 3) (hQ : Q (IntKind.wrap .i64 (p + c.cr i)) h) : C_cursor_Cursor_At B (some ⟨k, 0, none⟩) i p h Q := by
  refine C_cursor_Cursor_At.of ?_
  unfold S_cursor_Cursor_At
  refine ⟨fun e => (by cases e), fun _ => pis_wp ⟨fun _ => Fin.of ?_, fun e => absurd e (by simp; omega)⟩⟩
  unfold S_cursor_Cursor_At_J1
  exact ⟨_, rfl, by omega, by omega, _, cur_cell hk hi, Fin.of hQ⟩
theorem cstep_wp {q : Nat} {Q : Bool → Heap → Prop} (E : Keep B h0 L h) (hq : L[q]? = some (some (k, curO c))) (hi : 0 ≤ i ∧ i < 3) (hc : 0 ≤ c.cr i ∧ c.cr i < 64) (hQ : ∀ h', Keep B h0 (L.set q (some (k, curO (c.step i)))) h' → Q true h') : C_cursor_Cursor_Step B (some ⟨k, 0, none⟩) i h Q := by
  refine C_cursor_Cursor_Step.of ?_
  unfold S_cursor_Cursor_Step
  have hk := E.at q hq
  refine ⟨fun e => (by cases e), fun _ => pis_wp ⟨fun _ => ⟨_, rfl, by omega, by omega, _, cur_cell hk hi, fun hg => by omega, fun hl => Fin.of ?_⟩, fun e => absurd e (by simp; omega)⟩⟩
  unfold S_cursor_Cursor_Step_J1
  have hw : IntKind.wrap .i64 (c.cr i + 1) = c.cr i + 1 := w64 (by omega) (by omega)
  refine ⟨_, rfl, by omega, by omega, _, cur_cell hk hi, _, rfl, by omega, by omega, ?_⟩
  rw [hw, addr_more]
  have h3 : i = 0 ∨ i = 1 ∨ i = 2 := by omega
  rcases h3 with rfl | rfl | rfl
  · obtain ⟨es, E1⟩ := E.store q 0 (.int .i64 (c.cr 0 + 1)) hq rfl
    exact ⟨_, es, Fin.of (hQ _ E1)⟩
  · obtain ⟨es, E1⟩ := E.store q 1 (.int .i64 (c.cr 1 + 1)) hq rfl
    exact ⟨_, es, Fin.of (hQ _ E1)⟩
  · obtain ⟨es, E1⟩ := E.store q 2 (.int .i64 (c.cr 2 + 1)) hq rfl
    exact ⟨_, es, Fin.of (hQ _ E1)⟩
theorem rnew_wp {st : Int} {Q : Option Addr → Heap → Prop} (hQ : ∀ k, h k = none → B k = none → Q (some ⟨k, 0, none⟩) (h.set k (rsO (.slice none 0 0) st))) : C_reads_New B st h Q := by
  refine C_reads_New.of ?_
  unfold S_reads_New
  intro k a b h1 e
  subst e
  exact Fin.of (hQ k a b)
theorem Keep.apM {M' : List (Option (Nat × AObj))} (E : Keep B h0 (L ++ M) h) (E' : Keep B h M' h') : Keep B h0 (L ++ (M ++ M')) h' := by
  rw [← List.append_assoc]; exact E.append E'
def acO0 : AObj := .vec TY.acts_Acts (plains [.slice none 0 0, .slice none 0 0, .slice none 0 0, .slice none 0 0]) 4
theorem new_J1 {k7 : Nat} {Q : Option Addr → Heap → Prop} (E0 : Keep B h0 ((L ++ V.e v) ++ [some (k7, .vec TY.api_Regs (plains [.int .i64 g.a, .int .i64 g.b, .int .i64 g.c, .int .i64 g.d]) 4)]) h) (o : VOk V v)
    (hQ : ∀ K U h', SS B h0 (L ++ [some (K.kX, acO0), some (K.kK, skO (.slice none 0 0))]) h' V v K U (s0 v g) → Q (some ⟨K.kA, 0, none⟩) h') : S_attempt_New_J1 B k7 (some ⟨V.kV, 0, none⟩) h Q := by
  have pr : ∀ {M : List (Option (Nat × AObj))} {h1 : Heap}, Keep B h0 ((L ++ V.e v) ++ (some (k7, .vec TY.api_Regs (plains [.int .i64 g.a, .int .i64 g.b, .int .i64 g.c, .int .i64 g.d]) 4) :: M)) h1 → cellH B h1 (Addr.add ⟨V.kV, 0, none⟩ 3) = some (.int .i64 v.t) ∧ CellsAt B h1 ⟨k7, 0, none⟩ 0 [.int .i64 g.a, .int .i64 g.b, .int .i64 g.c, .int .i64 g.d] := fun {M h1} E => by
    refine ⟨?_, E.cM 0 rfl (i := 0) rfl, E.cM 0 rfl (i := 1) rfl, E.cM 0 rfl (i := 2) rfl, E.cM 0 rfl (i := 3) rfl, trivial⟩
    rw [List.append_assoc] at E
    exact cellH_vec ((VAt.mk (L := L) (x := V) (v := v)).at E 0 (by decide) rfl) rfl
  have fin : ∀ {kS kX kK : Nat} {x : StI} {h1 : Heap}, StI.Ok x StV.z → Keep B h0 ((L ++ V.e v) ++ [some (k7, .vec TY.api_Regs (plains [.int .i64 g.a, .int .i64 g.b, .int .i64 g.c, .int .i64 g.d]) 4), some (kS, rsO (.slice none 0 0) v.t), some (x.kd, drO_int x.vd), x.rd, some (x.ks, shtO x.kf), some (x.kf, drO_file_File x.vf), x.rf, some (x.kc, curO StV.z), some (kX, acO0), some (kK, skO (.slice none 0 0))]) h1 → S_attempt_New_J2 B k7 (some ⟨V.kV, 0, none⟩) ⟨V.kV, 0, none⟩ v.t g.a g.b g.c g.d (some ⟨kS, 0, none⟩) (some ⟨x.kd, 0, none⟩) (some ⟨x.ks, 0, none⟩) (some ⟨x.kc, 0, none⟩) g.a g.b g.c g.d ⟨kX, 0, none⟩ ⟨kK, 0, none⟩ h1 Q := fun {kS kX kK x h1} O E => by
    unfold S_attempt_New_J2
    intro kA a b h2 e2
    have E1 := E.nM a b e2
    refine ⟨(pr E1).1, (pr E1).2, Fin.of (hQ ⟨kA, kS, kX, kK⟩ ⟨.slice none 0 0, none, x⟩ _ ⟨?_, o, Row.nil _ _, O, AOk.zero o⟩)⟩
    rw [List.append_assoc] at E1 ⊢
    exact E1.sM [15, 16, 0, 1, 2, 3, 4, 5, 6, 17, 8, 99, 9, 10, 11, 12, 13, 14] (by decide)
  unfold S_attempt_New_J1
  refine ⟨_, rfl, v.t, (pr E0).1, g.a, g.b, g.c, g.d, (pr E0).2, ?_⟩
  refine ⟨?_, ?_, ?_⟩
  · skip
    refine rnew_wp fun q1 a1 b1 => ?_
    have E1 := E0.nM (o := rsO (.slice none 0 0) v.t) a1 b1 rfl
    refine ⟨(pr E1).1, (pr E1).2, ?_⟩
    refine ⟨?_, ?_, ?_⟩
    · skip
      refine fresh_wp (g := g) fun x2 h2 O2 F2 => ?_
      have E2 := E1.apM F2
      refine ⟨(pr E2).1, (pr E2).2, ?_⟩
      refine ⟨?_, ?_⟩
      · skip
        intro q3 a3 b3 h3 e3
        have E3 := E2.nM a3 b3 e3
        refine ⟨(pr E3).1, (pr E3).2, ?_⟩
        intro q4 a4 b4 h4 e4
        have E4 := E3.nM a4 b4 e4
        refine ⟨(pr E4).1, (pr E4).2, ?_⟩
        exact fin (by assumption) (E4.sM [0, 1, 2, 3, 4, 5, 6, 7, 8, 9] (by decide))
      · skip
        intro q5 a5 b5 h5 e5
        have E5 := E2.nM a5 b5 e5
        refine ⟨(pr E5).1, (pr E5).2, ?_⟩
        intro q6 a6 b6 h6 e6
        have E6 := E5.nM a6 b6 e6
        refine ⟨(pr E6).1, (pr E6).2, ?_⟩
        exact fin (by assumption) (E6.sM [0, 1, 2, 3, 4, 5, 6, 7, 9, 8] (by decide))
    · skip
      intro q7 a7 b7 h7 e7
      have E7 := E1.nM a7 b7 e7
      refine ⟨(pr E7).1, (pr E7).2, ?_⟩
      refine ⟨?_, ?_⟩
      · skip
        refine fresh_wp (g := g) fun x8 h8 O8 F8 => ?_
        have E8 := E7.apM F8
        refine ⟨(pr E8).1, (pr E8).2, ?_⟩
        intro q9 a9 b9 h9 e9
        have E9 := E8.nM a9 b9 e9
        refine ⟨(pr E9).1, (pr E9).2, ?_⟩
        exact fin (by assumption) (E9.sM [0, 1, 3, 4, 5, 6, 7, 8, 2, 9] (by decide))
      · skip
        intro q10 a10 b10 h10 e10
        have E10 := E7.nM a10 b10 e10
        refine ⟨(pr E10).1, (pr E10).2, ?_⟩
        refine fresh_wp (g := g) fun x11 h11 O11 F11 => ?_
        have E11 := E10.apM F11
        refine ⟨(pr E11).1, (pr E11).2, ?_⟩
        exact fin (by assumption) (E11.sM [0, 1, 4, 5, 6, 7, 8, 9, 2, 3] (by decide))
    · skip
      intro q12 a12 b12 h12 e12
      have E12 := E1.nM a12 b12 e12
      refine ⟨(pr E12).1, (pr E12).2, ?_⟩
      refine ⟨?_, ?_⟩
      · skip
        refine fresh_wp (g := g) fun x13 h13 O13 F13 => ?_
        have E13 := E12.apM F13
        refine ⟨(pr E13).1, (pr E13).2, ?_⟩
        intro q14 a14 b14 h14 e14
        have E14 := E13.nM a14 b14 e14
        refine ⟨(pr E14).1, (pr E14).2, ?_⟩
        exact fin (by assumption) (E14.sM [0, 1, 3, 4, 5, 6, 7, 8, 9, 2] (by decide))
      · skip
        intro q15 a15 b15 h15 e15
        have E15 := E12.nM a15 b15 e15
        refine ⟨(pr E15).1, (pr E15).2, ?_⟩
        refine fresh_wp (g := g) fun x16 h16 O16 F16 => ?_
        have E16 := E15.apM F16
        refine ⟨(pr E16).1, (pr E16).2, ?_⟩
        exact fin (by assumption) (E16.sM [0, 1, 4, 5, 6, 7, 8, 9, 3, 2] (by decide))
  · skip
    intro q17 a17 b17 h17 e17
    have E17 := E0.nM a17 b17 e17
    refine ⟨(pr E17).1, (pr E17).2, ?_⟩
    refine ⟨?_, ?_⟩
    · skip
      refine rnew_wp fun q18 a18 b18 => ?_
      have E18 := E17.nM (o := rsO (.slice none 0 0) v.t) a18 b18 rfl
      refine ⟨(pr E18).1, (pr E18).2, ?_⟩
      refine ⟨?_, ?_⟩
      · skip
        refine fresh_wp (g := g) fun x19 h19 O19 F19 => ?_
        have E19 := E18.apM F19
        refine ⟨(pr E19).1, (pr E19).2, ?_⟩
        intro q20 a20 b20 h20 e20
        have E20 := E19.nM a20 b20 e20
        refine ⟨(pr E20).1, (pr E20).2, ?_⟩
        exact fin (by assumption) (E20.sM [0, 2, 3, 4, 5, 6, 7, 8, 1, 9] (by decide))
      · skip
        intro q21 a21 b21 h21 e21
        have E21 := E18.nM a21 b21 e21
        refine ⟨(pr E21).1, (pr E21).2, ?_⟩
        refine fresh_wp (g := g) fun x22 h22 O22 F22 => ?_
        have E22 := E21.apM F22
        refine ⟨(pr E22).1, (pr E22).2, ?_⟩
        exact fin (by assumption) (E22.sM [0, 2, 4, 5, 6, 7, 8, 9, 1, 3] (by decide))
    · skip
      intro q23 a23 b23 h23 e23
      have E23 := E17.nM a23 b23 e23
      refine ⟨(pr E23).1, (pr E23).2, ?_⟩
      refine rnew_wp fun q24 a24 b24 => ?_
      have E24 := E23.nM (o := rsO (.slice none 0 0) v.t) a24 b24 rfl
      refine ⟨(pr E24).1, (pr E24).2, ?_⟩
      refine fresh_wp (g := g) fun x25 h25 O25 F25 => ?_
      have E25 := E24.apM F25
      refine ⟨(pr E25).1, (pr E25).2, ?_⟩
      exact fin (by assumption) (E25.sM [0, 3, 4, 5, 6, 7, 8, 9, 1, 2] (by decide))
  · skip
    intro q26 a26 b26 h26 e26
    have E26 := E0.nM a26 b26 e26
    refine ⟨(pr E26).1, (pr E26).2, ?_⟩
    refine ⟨?_, ?_⟩
    · skip
      refine rnew_wp fun q27 a27 b27 => ?_
      have E27 := E26.nM (o := rsO (.slice none 0 0) v.t) a27 b27 rfl
      refine ⟨(pr E27).1, (pr E27).2, ?_⟩
      refine ⟨?_, ?_⟩
      · skip
        refine fresh_wp (g := g) fun x28 h28 O28 F28 => ?_
        have E28 := E27.apM F28
        refine ⟨(pr E28).1, (pr E28).2, ?_⟩
        intro q29 a29 b29 h29 e29
        have E29 := E28.nM a29 b29 e29
        refine ⟨(pr E29).1, (pr E29).2, ?_⟩
        exact fin (by assumption) (E29.sM [0, 2, 3, 4, 5, 6, 7, 8, 9, 1] (by decide))
      · skip
        intro q30 a30 b30 h30 e30
        have E30 := E27.nM a30 b30 e30
        refine ⟨(pr E30).1, (pr E30).2, ?_⟩
        refine fresh_wp (g := g) fun x31 h31 O31 F31 => ?_
        have E31 := E30.apM F31
        refine ⟨(pr E31).1, (pr E31).2, ?_⟩
        exact fin (by assumption) (E31.sM [0, 2, 4, 5, 6, 7, 8, 9, 3, 1] (by decide))
    · skip
      intro q32 a32 b32 h32 e32
      have E32 := E26.nM a32 b32 e32
      refine ⟨(pr E32).1, (pr E32).2, ?_⟩
      refine rnew_wp fun q33 a33 b33 => ?_
      have E33 := E32.nM (o := rsO (.slice none 0 0) v.t) a33 b33 rfl
      refine ⟨(pr E33).1, (pr E33).2, ?_⟩
      refine fresh_wp (g := g) fun x34 h34 O34 F34 => ?_
      have E34 := E33.apM F34
      refine ⟨(pr E34).1, (pr E34).2, ?_⟩
      exact fin (by assumption) (E34.sM [0, 3, 4, 5, 6, 7, 8, 9, 2, 1] (by decide))
theorem anew_wp {Q : Option Addr → Heap → Prop} (E : Keep B h0 (L ++ V.e v) h) (o : VOk V v)
    (hQ : ∀ K U h', SS B h0 (L ++ [some (K.kX, acO0), some (K.kK, skO (.slice none 0 0))]) h' V v K U (s0 v g) → Q (some ⟨K.kA, 0, none⟩) h') : C_attempt_New B (some ⟨V.kV, 0, none⟩) g.a g.b g.c g.d h Q := by
  refine C_attempt_New.of ?_
  unfold S_attempt_New
  intro k7 a7 b7 h8 e8
  exact ⟨fun e => (by cases e), fun _ => Fin.of (new_J1 (E.made a7 b7 e8) o hQ)⟩
theorem AOk.re {s' : AV} (a : AOk v s) (e : s'.s = s.s) : AOk v s' := ⟨by rw [e]; exact a.so, by rw [e]; exact a.sd, by rw [e]; exact a.dk, by rw [e]; exact a.cr⟩
def noteS (v : VV) (s : AV) (k i : Int) : AV := { s with rs := (noteA v s.rs s.st k i).2.1, st := (noteA v s.rs s.st k i).2.2 }
def noteE (v : VV) (s : AV) (k i : Int) : Int := if (noteA v s.rs s.st k i).1 = true then 0 else 9
theorem anote_wp {k i : Int} {Q : Int → Heap → Prop} (S : SS B h0 L h V v K U s) (hn : s.rs.length ≤ 90000) (hQ : ∀ U' h', U'.x = U.x → SS B h0 L h' V v K U' (noteS v s k i) → Q (noteE v s k i) h') : C_attempt_Attempt_note B (some ⟨K.kA, 0, none⟩) k i h Q := by
  refine C_attempt_Attempt_note.of ?_
  unfold S_attempt_Attempt_note
  refine ⟨_, rfl, _, S.E.cM 7 rfl (i := 1) rfl, _, rfl, _, S.E.cM 7 rfl (i := 0) rfl, now_wp S.E VAt.mk S.o fun h1 E1 => ⟨E1.cM 7 rfl (i := 1) rfl, E1.cM 7 rfl (i := 0) rfl, ?_⟩⟩
  refine note_wp (j := L.length + 8) (vS := U.vS) (st := s.st) (r := U.rS) E1 ⟨upM 8 rfl, upM 9 rfl⟩ S.R hn S.o.v3 fun vS' r' h2 R' E2 => ?_
  rw [setM, show L.length + 8 + 1 = L.length + 9 from rfl, setM] at E2
  have S2 : SS B h0 L h2 V v K ⟨vS', r', U.x⟩ (noteS v s k i) := ⟨E2, S.o, R', S.O, S.a.re rfl⟩
  have hq := hQ ⟨vS', r', U.x⟩ _ rfl S2
  unfold noteE at hq
  refine ⟨fun hT => ⟨S2.E.cM 7 rfl (i := 1) rfl, S2.E.cM 7 rfl (i := 0) rfl, Fin.of ?_⟩, fun hF => ⟨S2.E.cM 7 rfl (i := 1) rfl, S2.E.cM 7 rfl (i := 0) rfl, Fin.of ?_⟩⟩
  · rw [if_pos hT] at hq; exact hq
  · rw [if_neg (by rw [hF]; simp)] at hq; exact hq
theorem SS.dat (S : SS B h0 L h V v K U s) : DAt_int (L ++ (V.e v ++ AE V K U s)) (L.length + 10) U.x.kd U.x.vd U.x.rd := ⟨upM 10 rfl, upM 11 rfl⟩
def inC (i : Int) : Bool := decide (0 ≤ i ∧ i < 8)
def loadA (v : VV) (s : AV) (i : Int) : AV × Int × Int :=
  if inC i = true then (match atD s.s.d i with
    | some x => (s, x, 0)
    | none => (noteS v s 0 i, if noteE v s 0 i = 0 then (cellAt_int v.c i).1 else 0, noteE v s 0 i)) else (s, 0, 1)
theorem load_wp {i : Int} {Q : Int → Int → Heap → Prop} (S : SS B h0 L h V v K U s) (hn : s.rs.length ≤ 90000) (hQ : ∀ U' h', U'.x = U.x → SS B h0 L h' V v K U' (loadA v s i).1 → Q (loadA v s i).2.1 (loadA v s i).2.2 h') : C_attempt_Attempt_Load B (some ⟨K.kA, 0, none⟩) i h Q := by
  refine C_attempt_Attempt_Load.of ?_
  unfold S_attempt_Attempt_Load
  have out : inC i = false → Q 0 1 h := fun hn => by
    have e : loadA v s i = (s, 0, 1) := by unfold loadA; rw [hn]; rfl
    rw [e] at hQ; exact hQ U h rfl S
  refine ⟨fun e => (by cases e), fun _ => ⟨fun h1 => Fin.of (out (decide_eq_false (by omega))), fun h1 => ⟨fun h2 => Fin.of (out (decide_eq_false (by omega))), fun h2 => Fin.of ?_⟩⟩⟩
  have hi : inC i = true := decide_eq_true (by omega)
  unfold S_attempt_Attempt_Load_J1
  refine ⟨_, rfl, _, S.E.cM 7 rfl (i := 2) rfl, get_int_wp S.E S.dat S.O.d S.a.sd (by have := S.a.dlen; omega) ?_⟩
  cases hd : atD s.s.d i with
  | some y =>
    have e : loadA v s i = (s, y, 0) := by unfold loadA; rw [if_pos hi, hd]
    rw [e] at hQ
    exact ⟨fun _ => Fin.of (hQ U h rfl S), fun e => by cases e⟩
  | none =>
    have e : loadA v s i = (noteS v s 0 i, if noteE v s 0 i = 0 then (cellAt_int v.c i).1 else 0, noteE v s 0 i) := by unfold loadA; rw [if_pos hi, hd]
    rw [e] at hQ
    refine ⟨fun e => (by cases e), fun _ => anote_wp S hn fun U' h1 e1 S1 => ?_⟩
    have hq := hQ U' h1 e1 S1
    refine ⟨fun h0 => ⟨_, rfl, _, S1.E.cM 7 rfl (i := 0) rfl, _, rfl, _, S1.E.cM 0 rfl (i := 0) rfl, get_wp_int (rowO_int_v (S1.E.gM 1 rfl)) (Fin.of ?_)⟩, fun h0 => Fin.of ?_⟩
    · simp only [h0, if_true] at hq ⊢; exact hq
    · simp only [if_neg h0] at hq; exact hq
def storeA (s : AV) (i x : Int) : AV × Int := if inC i = true then ({ s with s := { s.s with d := insD s.s.d i x } }, 0) else (s, 1)
theorem AOk.store {i x : Int} (a : AOk v s) (hi : inC i = true) : AOk v { s with s := { s.s with d := insD s.s.d i x } } := ⟨a.so, a.sd.ins, fun y hy => by
  rcases insD_mem hy with rfl | hy
  · exact of_decide_eq_true hi
  · exact a.dk y hy, a.cr⟩
theorem store_wp {i x : Int} {Q : Int → Heap → Prop} (S : SS B h0 L h V v K U s) (hQ : ∀ U' h', SS B h0 L h' V v K U' (storeA s i x).1 → Q (storeA s i x).2 h') : C_attempt_Attempt_Store B (some ⟨K.kA, 0, none⟩) i x h Q := by
  refine C_attempt_Attempt_Store.of ?_
  unfold S_attempt_Attempt_Store
  have out : inC i = false → Q 1 h := fun hn => by
    have e : storeA s i x = (s, 1) := by unfold storeA; rw [hn]; rfl
    rw [e] at hQ; exact hQ U h S
  refine ⟨fun e => (by cases e), fun _ => ⟨fun h1 => Fin.of (out (decide_eq_false (by omega))), fun h1 => ⟨fun h2 => Fin.of (out (decide_eq_false (by omega))), fun h2 => Fin.of ?_⟩⟩⟩
  have hi : inC i = true := decide_eq_true (by omega)
  unfold S_attempt_Attempt_Store_J1
  have e : storeA s i x = ({ s with s := { s.s with d := insD s.s.d i x } }, 0) := by unfold storeA; rw [if_pos hi]
  rw [e] at hQ
  refine ⟨_, rfl, _, S.E.cM 7 rfl (i := 2) rfl, put_int_wp S.E S.dat S.O.d S.a.sd (by have := S.a.dlen; omega) fun v' r' h1 R1 E1 => Fin.of ?_⟩
  rw [setM, show L.length + 10 + 1 = L.length + 11 from rfl, setM] at E1
  exact hQ ⟨U.vS, U.rS, { U.x with vd := v', rd := r' }⟩ _ ⟨E1, S.o, S.R, ⟨R1, S.O.f⟩, S.a.store hi⟩
theorem avalid_wp {Q : Bool → Heap → Prop} (S : SS B h0 L h V v K U s) (hn : s.rs.length ≤ 90000) (hQ : ∀ h', SS B h0 L h' V v K U s → Q (vld v s.rs) h') : C_attempt_Attempt_Valid B (some ⟨K.kA, 0, none⟩) h Q := by
  refine C_attempt_Attempt_Valid.of ?_
  unfold S_attempt_Attempt_Valid
  refine ⟨fun e => (by cases e), fun _ => ⟨_, rfl, _, S.E.cM 7 rfl (i := 1) rfl, _, rfl, _, S.E.cM 7 rfl (i := 0) rfl, now_wp S.E VAt.mk S.o fun h1 E1 => ⟨E1.cM 7 rfl (i := 1) rfl, E1.cM 7 rfl (i := 0) rfl, ?_⟩⟩⟩
  refine valid_wp (j := L.length + 8) (vS := U.vS) (st := s.st) (r := U.rS) E1 ⟨upM 8 rfl, upM 9 rfl⟩ S.R (by omega) S.o.v3 fun h2 E2 => ⟨E2.cM 7 rfl (i := 1) rfl, E2.cM 7 rfl (i := 0) rfl, Fin.of (hQ _ ⟨E2, S.o, S.R, S.O, S.a⟩)⟩
def recvA (v : VV) (s : AV) (i : Int) : AV × Int × Int :=
  if 0 ≤ i ∧ i < 3 then (if noteE v s 2 i = 0 then (if atOf v.ts i ((cellAt_int v.l i).1 + s.s.cr i) < 0 then (noteS v s 2 i, 0, 10) else ({ noteS v s 2 i with s := s.s.step i }, atOf v.ts i ((cellAt_int v.l i).1 + s.s.cr i), 0)) else (noteS v s 2 i, 0, noteE v s 2 i)) else (s, 0, 1)
theorem AOk.recv {i : Int} (a : AOk v s) (hi : 0 ≤ i ∧ i < 3) (hc : s.s.cr i < 64) {s' : AV} (e : s'.s = s.s.step i) : AOk v s' := by
  obtain ⟨e1, e2⟩ := StV.step_d s.s i
  refine ⟨by rw [e, e2]; exact a.so, by rw [e, e1]; exact a.sd, by rw [e, e1]; exact a.dk, fun j => ?_⟩
  rw [e, StV.step_cr _ hi]
  split
  · have := a.cr i; omega
  · exact a.cr j
theorem StI.Ok.of {x : StI} {a b : StV} (o : x.Ok a) (e1 : b.d = a.d) (e2 : b.f = a.f) : x.Ok b := ⟨by rw [e1]; exact o.d, by rw [e2]; exact o.f⟩
theorem recv_wp {i : Int} {Q : Int → Int → Heap → Prop} (S : SS B h0 L h V v K U s) (hn : s.rs.length ≤ 90000) (hQ : ∀ U' h', SS B h0 L h' V v K U' (recvA v s i).1 → Q (recvA v s i).2.1 (recvA v s i).2.2 h') : C_attempt_Attempt_Recv B (some ⟨K.kA, 0, none⟩) i h Q := by
  refine C_attempt_Attempt_Recv.of ?_
  unfold S_attempt_Attempt_Recv
  have out : ¬ (0 ≤ i ∧ i < 3) → Q 0 1 h := fun hn => by
    have e : recvA v s i = (s, 0, 1) := by unfold recvA; rw [if_neg hn]
    rw [e] at hQ; exact hQ U h S
  refine ⟨fun e => (by cases e), fun _ => ⟨fun h1 => Fin.of (out (by omega)), fun h1 => ⟨fun h2 => Fin.of (out (by omega)), fun h2 => Fin.of ?_⟩⟩⟩
  have hi : 0 ≤ i ∧ i < 3 := by omega
  unfold S_attempt_Attempt_Recv_J1
  refine anote_wp S hn fun U' h1 e1 S1 => ⟨fun h0 => ?_, fun h0 => Fin.of ?_⟩
  · refine ⟨_, rfl, _, S1.E.cM 7 rfl (i := 0) rfl, _, rfl, _, S1.E.cM 0 rfl (i := 2) rfl, feed_place_wp S.o.k.t3 (S1.E.gM 5 rfl) (S1.E.gM 6 rfl) ?_⟩
    refine ⟨_, rfl, _, S1.E.cM 7 rfl (i := 0) rfl, _, rfl, _, S1.E.cM 0 rfl (i := 2) rfl, _, rfl, _, S1.E.cM 7 rfl (i := 4) rfl, ?_⟩
    refine cat_wp (c := s.s) (S1.E.gM 15 rfl) hi ⟨S1.E.cM 7 rfl (i := 0) rfl, S1.E.cM 0 rfl (i := 2) rfl, S1.E.cM 7 rfl (i := 4) rfl, ?_⟩
    have hp := S.o.k.place i
    have hs := S.o.k.size i
    have hc := S.a.cr i
    rw [w64 (by omega) (by omega)]
    refine feed_at_wp S.o.k.t3 (S1.E.gM 5 rfl) ⟨S1.E.cM 7 rfl (i := 0) rfl, S1.E.cM 0 rfl (i := 2) rfl, S1.E.cM 7 rfl (i := 4) rfl, fun hlt => Fin.of ?_, fun hge => ?_⟩
    · have e : recvA v s i = (noteS v s 2 i, 0, 10) := by unfold recvA; rw [if_pos hi, if_pos h0, if_pos hlt]
      rw [e] at hQ; exact hQ _ _ S1
    · have e : recvA v s i = ({ noteS v s 2 i with s := s.s.step i }, atOf v.ts i ((cellAt_int v.l i).1 + s.s.cr i), 0) := by unfold recvA; rw [if_pos hi, if_pos h0, if_neg hge]
      rw [e] at hQ
      have hlt : s.s.cr i < 64 := by
        unfold atOf at hge
        split at hge
        · omega
        · omega
      refine ⟨_, rfl, _, S1.E.cM 7 rfl (i := 4) rfl, cstep_wp (c := s.s) (q := L.length + 15) S1.E (upM 15 rfl) hi ⟨hc.1, hlt⟩ fun h2 E2 => Fin.of ?_⟩
      rw [setM] at E2
      obtain ⟨e1, e2⟩ := StV.step_d s.s i
      exact hQ U' _ ⟨E2, S.o, S1.R, S1.O.of e1 e2, S.a.recv hi hlt rfl⟩
  · have e : recvA v s i = (noteS v s 2 i, 0, noteE v s 2 i) := by unfold recvA; rw [if_pos hi, if_neg h0]
    rw [e] at hQ; exact hQ _ _ S1
end
end Go.Proofs.YtgldgabefiialaaGreat.H
namespace Go.Proofs.YtgldgabefiialaaGreat.H
open Go Go.RowKit
set_option linter.unusedVariables false
set_option maxRecDepth 100000
def shI (V : VI) (U : AU) : ShI := ⟨V.kT, V.kR, V.vt, V.rt, U.x.ks, U.x.kf⟩
def restS (V : VI) (v : VV) (K : AK) (U : AU) (s : AV) : List (Option (Nat × AObj)) := [some (V.kV, viewO V v.t), some (V.kC, rowO_int v.c), some (V.kF, feedO v.ts V.kP), some (V.kP, rowO_int v.l), some (K.kA, attO V K U.x s.g), some (K.kS, rsO U.vS s.st), U.rS, some (U.x.kd, drO_int U.x.vd), U.x.rd, some (U.x.kc, curO s.s)]
def AU.w (U : AU) (vf : Value) (rf : Option (Nat × AObj)) : AU := { U with x := { U.x with vf := vf, rf := rf } }
def AV.wf (s : AV) (f : DFL) : AV := { s with s := { s.s with f := f } }
def VI.w (V : VI) (r : Option (Nat × AObj)) : VI := { V with rt := r }
def touchS (v : VV) (s : AV) (i : Int) : AV := if inR i = true then (if (getS v.f s.s.f i).2 = true then s else noteS v s 1 i) else s
def touchE (v : VV) (s : AV) (i : Int) : Int := if inR i = true then (if (getS v.f s.s.f i).2 = true then 0 else noteE v s 1 i) else 1
def touchF (v : VV) (s : AV) (i : Int) : FileS := if inR i = true then (getS v.f s.s.f i).1 else f0
theorem touchS_s (v : VV) (s : AV) (i : Int) : (touchS v s i).s = s.s ∧ (touchS v s i).g = s.g := by
  unfold touchS; (repeat' split) <;> exact ⟨rfl, rfl⟩
theorem touchS_len (v : VV) (s : AV) (i : Int) : (touchS v s i).rs.length ≤ s.rs.length + 1 := by
  unfold touchS; (repeat' split)
  · omega
  · exact noteA_len _ _ _ _ _
  · omega
theorem touchE_in {v : VV} {s : AV} {i : Int} (h : touchE v s i = 0) : inR i = true := by
  unfold touchE at h
  split at h
  · assumption
  · omega
def wS (v : VV) (s : AV) (i : Int) (F : DFL → DFL) : AV × Int := if touchE v s i = 0 then ((touchS v s i).wf (F s.s.f), 0) else (touchS v s i, touchE v s i)
def atF (f : FileS) (n : Int) : Int := if 0 ≤ n ∧ n < f.2.size then byteAt f.2 n.toNat else -1
def readA (v : VV) (s : AV) (i n : Int) : AV × Int × Int := if touchE v s i = 0 then (touchS v s i, atF (getS v.f s.s.f i).1 n, 0) else (touchS v s i, 0, touchE v s i)
def writeA (v : VV) (s : AV) (i n : Int) (c : UInt8) : AV × Int := wS v s i fun d => upS v.f d i (putF (getS v.f d i).1 n c)
def createA (v : VV) (s : AV) (i : Int) : AV × Int := wS v s i fun d => upS v.f d i (true, (getS v.f d i).1.2)
def removeA (v : VV) (s : AV) (i : Int) : AV × Int := wS v s i fun d => upS v.f d i f0
def cutA (v : VV) (s : AV) (i n : Int) : AV × Int := wS v s i fun d => upS v.f d i (cutF (getS v.f d i).1 n)
def renameA (v : VV) (s : AV) (a b : Int) : AV × Int :=
  if inR b = true then (if touchE v s a = 0 then wS v (touchS v s a) b (fun d => renS v.f d a b) else (touchS v s a, touchE v s a)) else (s, 1)
section
variable {B : RO} {h0 h h' : Heap} {L M : List (Option (Nat × AObj))} {V : VI} {v : VV} {K : AK} {U : AU} {s : AV} {k : Nat} {i j : Int} {c : StV} {g : Reg4} {o o' : AObj} {y : Option (Nat × AObj)}
theorem toSh (E : Keep B h0 (L ++ (V.e v ++ AE V K U s)) h) : Keep B h0 ((L ++ restS V v K U s) ++ (shI V U).m U.x.vf U.x.rf) h := by
  rw [List.append_assoc]
  exact E.sM [0, 1, 5, 6, 7, 8, 9, 10, 11, 15, 2, 3, 4, 12, 13, 14] (by decide)
theorem ofSh {vd : Value} {rd : Option (Nat × AObj)} {f : DFL} (E : Keep B h0 ((L ++ restS V v K U s) ++ (shI V U).m vd rd) h) : Keep B h0 (L ++ (V.e v ++ AE V K (U.w vd rd) (s.wf f))) h := by
  rw [List.append_assoc] at E
  exact E.sM [0, 1, 10, 11, 12, 2, 3, 4, 5, 6, 7, 8, 13, 14, 15, 9] (by decide)
theorem atMid : ((L ++ [y]) ++ M)[L.length]? = some y := up_app _ (by rw [List.getElem?_append_right (Nat.le_refl _), Nat.sub_self]; rfl)
theorem setMid (z : Option (Nat × AObj)) : ((L ++ [y]) ++ M).set L.length z = (L ++ [z]) ++ M := by
  rw [List.append_assoc, List.set_append_right _ _ (Nat.le_refl _), Nat.sub_self, List.append_assoc]; rfl
theorem Keep.gP (E : Keep B h0 ((L ++ [some (k, o)]) ++ M) h) : h k = some o := E.at L.length atMid
theorem Keep.pP (E : Keep B h0 ((L ++ [some (k, o)]) ++ M) h) : Keep B h0 ((L ++ [some (k, o')]) ++ M) (h.set k o') := by
  have := E.put (o' := o') L.length atMid
  rwa [setMid] at this
theorem Keep.gP' (E : Keep B h0 ((L ++ [some (k, o)] ++ [y]) ++ M) h) : h k = some o := by
  rw [List.append_assoc (L ++ [some (k, o)])] at E
  exact E.gP
theorem Keep.pP' (E : Keep B h0 ((L ++ [some (k, o)] ++ [y]) ++ M) h) : Keep B h0 ((L ++ [some (k, o')] ++ [y]) ++ M) (h.set k o') := by
  rw [List.append_assoc (L ++ [some (k, o)])] at E
  have := E.pP (o' := o')
  rwa [← List.append_assoc] at this
theorem SS.nP (S : SS B h0 L h V v K U s) (hk : h k = none) (hb : B k = none) (e : h' = h.set k o) : SS B h0 (L ++ [some (k, o)]) h' V v K U s := ⟨S.E.nP hk hb e, S.o, S.R, S.O, S.a⟩
theorem SS.dP (S : SS B h0 (L ++ [y]) h V v K U s) : SS B h0 L h V v K U s := ⟨S.E.dP, S.o, S.R, S.O, S.a⟩
theorem SS.pP (S : SS B h0 (L ++ [some (k, o)]) h V v K U s) : SS B h0 (L ++ [some (k, o')]) (h.set k o') V v K U s := ⟨S.E.pP, S.o, S.R, S.O, S.a⟩
theorem SS.pP' (S : SS B h0 (L ++ [some (k, o)] ++ [y]) h V v K U s) : SS B h0 (L ++ [some (k, o')] ++ [y]) (h.set k o') V v K U s := ⟨S.E.pP', S.o, S.R, S.O, S.a⟩
theorem SS.gP (S : SS B h0 (L ++ [some (k, o)]) h V v K U s) : h k = some o := S.E.gP
theorem SS.gP' (S : SS B h0 (L ++ [some (k, o)] ++ [y]) h V v K U s) : h k = some o := S.E.gP'
theorem SS.f (S : SS B h0 L h V v K U s) {vd : Value} {rd : Option (Nat × AObj)} {f : DFL} {h1 : Heap} (E : Keep B h0 ((L ++ restS V v K U s) ++ (shI V U).m vd rd) h1) (R : DRow_file_File rd vd f) (a : SOk v.f f) : SS B h0 L h1 V v K (U.w vd rd) (s.wf f) :=
  ⟨ofSh E, S.o, S.R, ⟨S.O.d, R⟩, ⟨a, S.a.sd, S.a.dk, S.a.cr⟩⟩
theorem touch_J2 {k6 kb : Nat} {f6 f : FileS} {w : Bool} {Q : Bool → ByteArray → Int → Heap → Prop} (S : SS B h0 (L ++ [some (k6, fO f6)] ++ [some (kb, fO f)]) h V v K U s) (hn : s.rs.length ≤ 90000)
    (hT : w = true → ∀ h', SS B h0 L h' V v K U s → Q f.1 f.2 0 h') (hF : w = false → ∀ U' h', SS B h0 L h' V v K U' (noteS v s 1 i) → Q f.1 f.2 (noteE v s 1 i) h') : S_attempt_Attempt_touch_J2 B (some ⟨K.kA, 0, none⟩) i k6 ⟨kb, 0, none⟩ w h Q := by
  unfold S_attempt_Attempt_touch_J2
  refine ⟨fun hw => ?_, fun hw => ?_⟩
  · refine ⟨_, _, ⟨cellH_vec S.gP rfl, cellH_vec S.gP rfl, trivial⟩, _, stores_whole S.gP' rfl (by simp) (by simp [isOne]) (by simp), ?_⟩
    have S1 := S.pP' (o' := fO f)
    exact ⟨_, _, ⟨cellH_vec S1.gP' rfl, cellH_vec S1.gP' rfl, trivial⟩, Fin.of (hT hw _ S1.dP.dP)⟩
  · refine ⟨_, _, ⟨cellH_vec S.gP rfl, cellH_vec S.gP rfl, trivial⟩, anote_wp S hn fun U' h1 e1 S1 => ⟨⟨cellH_vec S1.gP rfl, cellH_vec S1.gP rfl, trivial⟩, _, stores_whole S1.gP' rfl (by simp) (by simp [isOne]) (by simp), ?_⟩⟩
    have S2 := S1.pP' (o' := fO f)
    exact ⟨⟨cellH_vec S2.gP rfl, cellH_vec S2.gP rfl, trivial⟩, _, _, ⟨cellH_vec S2.gP' rfl, cellH_vec S2.gP' rfl, trivial⟩, Fin.of (hF hw U' _ S2.dP.dP)⟩
theorem touch_J3 {k6 kb : Nat} {f6 f7 f : FileS} {w : Bool} {Q : Bool → ByteArray → Int → Heap → Prop} (S : SS B h0 (L ++ [some (k6, fO f6)] ++ [some (kb, fO f7)]) h V v K U s) (hn : s.rs.length ≤ 90000)
    (hT : w = true → ∀ h', SS B h0 L h' V v K U s → Q f.1 f.2 0 h') (hF : w = false → ∀ U' h', SS B h0 L h' V v K U' (noteS v s 1 i) → Q f.1 f.2 (noteE v s 1 i) h') : S_attempt_Attempt_touch_J3 B (some ⟨K.kA, 0, none⟩) i k6 ⟨K.kA, 0, none⟩ (some ⟨U.x.ks, 0, none⟩) ⟨K.kA, 0, none⟩ (some ⟨V.kV, 0, none⟩) ⟨V.kV, 0, none⟩ (some ⟨V.kT, 0, none⟩) ⟨kb, 0, none⟩ f.1 f.2 w h Q := by
  unfold S_attempt_Attempt_touch_J3
  have S1 := S.pP (o' := fO f)
  refine ⟨_, stores_whole S.gP rfl (by simp) (by simp [isOne]) (by simp), S1.E.cM 7 rfl (i := 3) rfl, S1.E.cM 7 rfl (i := 0) rfl, S1.E.cM 0 rfl (i := 1) rfl, fun hw => Fin.of ?_, fun hw => Fin.of ?_⟩
  · exact touch_J2 S1 hn (fun _ => hT hw) (fun e => by cases e)
  · exact touch_J2 S1 hn (fun e => by cases e) (fun _ => hF hw)
theorem aget_wp {Q : Bool → ByteArray → Bool → Heap → Prop} (S : SS B h0 L h V v K U s) (hQ : ∀ h', SS B h0 L h' V v K U s → Q (getS v.f s.s.f i).1.1 (getS v.f s.s.f i).1.2 (getS v.f s.s.f i).2 h') : C_sheet_Sheet_Get B (some ⟨U.x.ks, 0, none⟩) (some ⟨V.kT, 0, none⟩) i h Q :=
  sget_wp (x := shI V U) (toSh S.E) S.o.r S.O.f S.a.so.s (by have := S.a.so.len; omega) fun h1 E1 => hQ h1 (S.f E1 S.O.f S.a.so)
theorem touch_wp {Q : Bool → ByteArray → Int → Heap → Prop} (S : SS B h0 L h V v K U s) (hn : s.rs.length ≤ 90000) (hQ : ∀ U' h', SS B h0 L h' V v K U' (touchS v s i) → Q (touchF v s i).1 (touchF v s i).2 (touchE v s i) h') : C_attempt_Attempt_touch B (some ⟨K.kA, 0, none⟩) i h Q := by
  refine C_attempt_Attempt_touch.of ?_
  unfold S_attempt_Attempt_touch
  intro k6 a6 b6 h7 e7
  have S0 := S.nP (o := fO f0) a6 b6 e7
  have out : ¬ (0 ≤ i ∧ i < 6) → ∃ h1 : Heap, StoresAt ⟨k6, 0, none⟩ h7 0 [(.bool false), (.string ByteArray.empty)] h1 ∧ ∃ b1 : Bool, ∃ s1 : ByteArray, CellsAt B h1 ⟨k6, 0, none⟩ 0 [(.bool b1), (.string s1)] ∧ Fin B h1 (Q (b1) s1 (1)) := fun hi => by
    have hr : inR i = false := decide_eq_false hi
    unfold touchS touchF touchE at hQ
    rw [hr] at hQ
    have S1 := S0.pP (o' := fO f0)
    exact ⟨_, stores_whole S0.gP rfl (by simp) (by simp [isOne]) (by simp), _, _, ⟨cellH_vec S1.gP rfl, cellH_vec S1.gP rfl, trivial⟩, Fin.of (hQ U _ S1.dP)⟩
  refine ⟨fun e => (by cases e), fun _ => ⟨fun h1 => out (by omega), fun h1 => ⟨fun h2 => out (by omega), fun h2 => Fin.of ?_⟩⟩⟩
  have hr : inR i = true := decide_eq_true (by omega)
  have hT : (getS v.f s.s.f i).2 = true → ∀ h', SS B h0 L h' V v K U s → Q (getS v.f s.s.f i).1.1 (getS v.f s.s.f i).1.2 0 h' := fun hw h' S' => by
    unfold touchS touchF touchE at hQ
    rw [if_pos hr, if_pos hw, if_pos hr, if_pos hr, if_pos hw] at hQ
    exact hQ U h' S'
  have hF : (getS v.f s.s.f i).2 = false → ∀ U' h', SS B h0 L h' V v K U' (noteS v s 1 i) → Q (getS v.f s.s.f i).1.1 (getS v.f s.s.f i).1.2 (noteE v s 1 i) h' := fun hw U' h' S' => by
    have hw' : ¬ (getS v.f s.s.f i).2 = true := by rw [hw]; decide
    unfold touchS touchF touchE at hQ
    rw [if_pos hr, if_neg hw', if_pos hr, if_pos hr, if_neg hw'] at hQ
    exact hQ U' h' S'
  clear out hQ
  unfold S_attempt_Attempt_touch_J1
  refine ⟨_, rfl, _, S0.E.cM 7 rfl (i := 3) rfl, _, rfl, _, S0.E.cM 7 rfl (i := 0) rfl, _, rfl, _, S0.E.cM 0 rfl (i := 1) rfl, aget_wp S0 fun h1 S1 => ?_, fun k112 a112 b112 h113 e113 => ?_⟩
  · refine ⟨S1.E.cM 7 rfl (i := 3) rfl, S1.E.cM 7 rfl (i := 0) rfl, S1.E.cM 0 rfl (i := 1) rfl, fun hw => ?_, fun hw => ?_⟩
    all_goals
      intro k2 a2 b2 h2 e2
      have S2 := S1.nP (o := fO f0) a2 b2 e2
      refine ⟨S2.E.cM 7 rfl (i := 3) rfl, S2.E.cM 7 rfl (i := 0) rfl, S2.E.cM 0 rfl (i := 1) rfl, touch_J3 (f := (getS v.f s.s.f i).1) S2 hn ?_ ?_⟩
    · exact fun _ => hT hw
    · exact fun e => by cases e
    · exact fun e => by cases e
    · exact fun _ => hF hw
  · have S2 := S0.nP (o := fO f0) a112 b112 e113
    refine ⟨S2.E.cM 7 rfl (i := 3) rfl, S2.E.cM 7 rfl (i := 0) rfl, S2.E.cM 0 rfl (i := 1) rfl, aget_wp S2 fun h3 S3 => ⟨S3.E.cM 7 rfl (i := 3) rfl, S3.E.cM 7 rfl (i := 0) rfl, S3.E.cM 0 rfl (i := 1) rfl, fun hw => ?_, fun hw => ?_⟩⟩
    · exact touch_J3 (f := (getS v.f s.s.f i).1) S3 hn (fun _ => hT hw) (fun e => by cases e)
    · exact touch_J3 (f := (getS v.f s.s.f i).1) S3 hn (fun e => by cases e) (fun _ => hF hw)
theorem fat_wp {f : FileS} {n : Int} {Q : Int → Heap → Prop} (hQ : Q (atF f n) h) : C_file_At B f.1 f.2 n h Q := by
  refine C_file_At.of ?_
  unfold S_file_At
  intro k5 a5 b5 h6 e6
  have E := (Keep.nil B h).made (o := fO f) a5 b5 e6
  have out : ¬ (0 ≤ n ∧ n < f.2.size) → S_file_At_J1 B n k5 true h6 Q := fun hn => by
    unfold S_file_At_J1
    unfold atF at hQ
    rw [if_neg hn] at hQ
    exact ⟨fun _ => Fin.ent E.back (Fin.of hQ), fun e => by cases e⟩
  refine ⟨fun h1 => Fin.of (out (by omega)), fun h1 => ⟨_, E.cell 0 rfl rfl, fun h2 => Fin.of (out (by omega)), fun h2 => Fin.of ?_⟩⟩
  unfold S_file_At_J1
  have hb := byteAt_bound f.2 n.toNat
  unfold atF at hQ
  rw [if_pos ⟨by omega, by omega⟩] at hQ
  refine ⟨fun e => (by cases e), fun _ => ⟨_, E.cell 0 rfl rfl, by omega, by omega, ?_⟩⟩
  rw [w64 (by omega) (by omega)]
  exact Fin.ent E.back (Fin.of hQ)
theorem aread_wp {n : Int} {Q : Int → Int → Heap → Prop} (S : SS B h0 L h V v K U s) (hn : s.rs.length ≤ 90000) (hQ : ∀ U' h', SS B h0 L h' V v K U' (readA v s i n).1 → Q (readA v s i n).2.1 (readA v s i n).2.2 h') : C_attempt_Attempt_Read B (some ⟨K.kA, 0, none⟩) i n h Q := by
  refine C_attempt_Attempt_Read.of ?_
  unfold S_attempt_Attempt_Read
  refine touch_wp S hn fun U' h1 S1 k a b h2 e2 => ?_
  have S2 := S1.nP (o := fO f0) a b e2
  refine ⟨_, stores_whole S2.gP rfl (by simp) (by simp [isOne]) (by simp), ?_⟩
  have S3 := S2.pP (o' := fO (touchF v s i))
  refine ⟨fun h0 => ⟨_, _, ⟨cellH_vec S3.gP rfl, cellH_vec S3.gP rfl, trivial⟩, fat_wp (f := touchF v s i) (Fin.of ?_)⟩, fun h0 => Fin.of ?_⟩
  · have e : readA v s i n = (touchS v s i, atF (getS v.f s.s.f i).1 n, 0) := by unfold readA; rw [if_pos h0]
    rw [e] at hQ
    have e1 : touchF v s i = (getS v.f s.s.f i).1 := by unfold touchF; rw [if_pos (touchE_in h0)]
    rw [e1] at S3 ⊢
    exact hQ U' _ S3.dP
  · have e : readA v s i n = (touchS v s i, 0, touchE v s i) := by unfold readA; rw [if_neg h0]
    rw [e] at hQ
    exact hQ U' _ S3.dP
theorem awrite_wp {n w' : Int} {w : UInt8} (hw : w' = ((w.toNat : Nat) : Int)) {Q : Int → Heap → Prop} (S : SS B h0 L h V v K U s) (hn : s.rs.length ≤ 90000) (hQ : ∀ U' h', SS B h0 L h' V v K U' (writeA v s i n w).1 → Q (writeA v s i n w).2 h') : C_attempt_Attempt_Write B (some ⟨K.kA, 0, none⟩) i n w' h Q := by
  refine C_attempt_Attempt_Write.of ?_
  unfold S_attempt_Attempt_Write
  refine touch_wp S hn fun U' h1 S1 k a b h2 e2 => ?_
  have S2 := S1.nP (o := fO f0) a b e2
  refine ⟨_, stores_whole S2.gP rfl (by simp) (by simp [isOne]) (by simp), ?_⟩
  have S3 := (S2.pP (o' := fO (touchF v s i))).dP
  have es := (touchS_s v s i).1
  refine ⟨fun h0 => ⟨_, rfl, _, S3.E.cM 7 rfl (i := 3) rfl, _, rfl, _, S3.E.cM 7 rfl (i := 0) rfl, _, rfl, _, S3.E.cM 0 rfl (i := 1) rfl, swrite_wp (x := shI V U') hw (toSh S3.E) S3.o.r S3.O.f S3.a.so fun vd' rd' h4 R4 E4 => Fin.of ?_⟩, fun h0 => Fin.of ?_⟩
  · have e : writeA v s i n w = ((touchS v s i).wf ((fun d => upS v.f d i (putF (getS v.f d i).1 n w)) s.s.f), 0) := by unfold writeA wS; rw [if_pos h0]
    have S5 := S3.f E4 R4 (S3.a.so.up (goodF_put (S3.a.so.good i) n w))
    rw [e] at hQ
    rw [h0]
    simp only [es] at S5
    exact hQ _ _ S5
  · have e : writeA v s i n w = (touchS v s i, touchE v s i) := by unfold writeA wS; rw [if_neg h0]
    rw [e] at hQ
    exact hQ _ _ S3
theorem acreate_wp {Q : Int → Heap → Prop} (S : SS B h0 L h V v K U s) (hn : s.rs.length ≤ 90000) (hQ : ∀ U' h', SS B h0 L h' V v K U' (createA v s i).1 → Q (createA v s i).2 h') : C_attempt_Attempt_Create B (some ⟨K.kA, 0, none⟩) i h Q := by
  refine C_attempt_Attempt_Create.of ?_
  unfold S_attempt_Attempt_Create
  refine touch_wp S hn fun U' h1 S1 k a b h2 e2 => ?_
  have S2 := S1.nP (o := fO f0) a b e2
  refine ⟨_, stores_whole S2.gP rfl (by simp) (by simp [isOne]) (by simp), ?_⟩
  have S3 := (S2.pP (o' := fO (touchF v s i))).dP
  have es := (touchS_s v s i).1
  refine ⟨fun h0 => ⟨_, rfl, _, S3.E.cM 7 rfl (i := 3) rfl, _, rfl, _, S3.E.cM 7 rfl (i := 0) rfl, _, rfl, _, S3.E.cM 0 rfl (i := 1) rfl, screateG_wp (x := shI V U') (toSh S3.E) S3.o.r S3.O.f S3.a.so fun vd' rd' h4 R4 E4 => Fin.of ?_⟩, fun h0 => Fin.of ?_⟩
  · have e : createA v s i = ((touchS v s i).wf ((fun d => upS v.f d i (true, (getS v.f d i).1.2)) s.s.f), 0) := by unfold createA wS; rw [if_pos h0]
    have S5 := S3.f E4 R4 (S3.a.so.up (f := (true, (getS v.f (touchS v s i).s.f i).1.2)) (goodF_make (f := (getS v.f (touchS v s i).s.f i).1) (S3.a.so.good i)))
    rw [e] at hQ
    rw [h0]
    simp only [es] at S5
    exact hQ _ _ S5
  · have e : createA v s i = (touchS v s i, touchE v s i) := by unfold createA wS; rw [if_neg h0]
    rw [e] at hQ
    exact hQ _ _ S3
theorem aremove_wp {Q : Int → Heap → Prop} (S : SS B h0 L h V v K U s) (hn : s.rs.length ≤ 90000) (hQ : ∀ U' h', SS B h0 L h' V v K U' (removeA v s i).1 → Q (removeA v s i).2 h') : C_attempt_Attempt_Remove B (some ⟨K.kA, 0, none⟩) i h Q := by
  refine C_attempt_Attempt_Remove.of ?_
  unfold S_attempt_Attempt_Remove
  refine touch_wp S hn fun U' h1 S1 k a b h2 e2 => ?_
  have S2 := S1.nP (o := fO f0) a b e2
  refine ⟨_, stores_whole S2.gP rfl (by simp) (by simp [isOne]) (by simp), ?_⟩
  have S3 := (S2.pP (o' := fO (touchF v s i))).dP
  have es := (touchS_s v s i).1
  refine ⟨fun h0 => ⟨_, rfl, _, S3.E.cM 7 rfl (i := 3) rfl, _, rfl, _, S3.E.cM 7 rfl (i := 0) rfl, _, rfl, _, S3.E.cM 0 rfl (i := 1) rfl, sremove_wp (x := shI V U') (toSh S3.E) S3.o.r S3.O.f S3.a.so fun vd' rd' h4 R4 E4 => Fin.of ?_⟩, fun h0 => Fin.of ?_⟩
  · have e : removeA v s i = ((touchS v s i).wf ((fun d => upS v.f d i f0) s.s.f), 0) := by unfold removeA wS; rw [if_pos h0]
    have S5 := S3.f E4 R4 (S3.a.so.up rfl)
    rw [e] at hQ
    rw [h0]
    simp only [es] at S5
    exact hQ _ _ S5
  · have e : removeA v s i = (touchS v s i, touchE v s i) := by unfold removeA wS; rw [if_neg h0]
    rw [e] at hQ
    exact hQ _ _ S3
theorem acut_wp {n : Int} {Q : Int → Heap → Prop} (S : SS B h0 L h V v K U s) (hn : s.rs.length ≤ 90000) (hQ : ∀ U' h', SS B h0 L h' V v K U' (cutA v s i n).1 → Q (cutA v s i n).2 h') : C_attempt_Attempt_Cut B (some ⟨K.kA, 0, none⟩) i n h Q := by
  refine C_attempt_Attempt_Cut.of ?_
  unfold S_attempt_Attempt_Cut
  refine touch_wp S hn fun U' h1 S1 k a b h2 e2 => ?_
  have S2 := S1.nP (o := fO f0) a b e2
  refine ⟨_, stores_whole S2.gP rfl (by simp) (by simp [isOne]) (by simp), ?_⟩
  have S3 := (S2.pP (o' := fO (touchF v s i))).dP
  have es := (touchS_s v s i).1
  refine ⟨fun h0 => ⟨_, rfl, _, S3.E.cM 7 rfl (i := 3) rfl, _, rfl, _, S3.E.cM 7 rfl (i := 0) rfl, _, rfl, _, S3.E.cM 0 rfl (i := 1) rfl, scut_wp (x := shI V U') (toSh S3.E) S3.o.r S3.O.f S3.a.so fun vd' rd' h4 R4 E4 => Fin.of ?_⟩, fun h0 => Fin.of ?_⟩
  · have e : cutA v s i n = ((touchS v s i).wf ((fun d => upS v.f d i (cutF (getS v.f d i).1 n)) s.s.f), 0) := by unfold cutA wS; rw [if_pos h0]
    have S5 := S3.f E4 R4 (S3.a.so.up (goodF_cut (S3.a.so.good i) n))
    rw [e] at hQ
    rw [h0]
    simp only [es] at S5
    exact hQ _ _ S5
  · have e : cutA v s i n = (touchS v s i, touchE v s i) := by unfold cutA wS; rw [if_neg h0]
    rw [e] at hQ
    exact hQ _ _ S3
theorem rename_J2 {U1 : AU} {s1 : AV} {Q : Int → Heap → Prop} (S : SS B h0 L h V v K U1 s1) (hQ : ∀ U' h', SS B h0 L h' V v K U' (s1.wf (renS v.f s1.s.f i j)) → Q 0 h') : S_attempt_Attempt_Rename_J2 B (some ⟨K.kA, 0, none⟩) i j 0 h Q := by
  unfold S_attempt_Attempt_Rename_J2
  exact ⟨fun h0 => ⟨_, rfl, _, S.E.cM 7 rfl (i := 3) rfl, _, rfl, _, S.E.cM 7 rfl (i := 0) rfl, _, rfl, _, S.E.cM 0 rfl (i := 1) rfl, srenameG_wp (x := shI V U1) (toSh S.E) S.o.r S.O.f S.a.so fun vd' rd' h4 R4 E4 => Fin.of (hQ _ _ (S.f E4 R4 (S.a.so.ren i j)))⟩, fun h0 => absurd rfl h0⟩
theorem rename_no {e : Int} {Q : Int → Heap → Prop} (he : e ≠ 0) (hQ : Q e h) : S_attempt_Attempt_Rename_J2 B (some ⟨K.kA, 0, none⟩) i j e h Q := by
  unfold S_attempt_Attempt_Rename_J2
  exact ⟨fun h0 => absurd h0 he, fun _ => Fin.of hQ⟩
theorem arename_wp {Q : Int → Heap → Prop} (S : SS B h0 L h V v K U s) (hn : s.rs.length ≤ 80000) (hQ : ∀ U' h', SS B h0 L h' V v K U' (renameA v s i j).1 → Q (renameA v s i j).2 h') : C_attempt_Attempt_Rename B (some ⟨K.kA, 0, none⟩) i j h Q := by
  refine C_attempt_Attempt_Rename.of ?_
  unfold S_attempt_Attempt_Rename
  have out : ¬ (0 ≤ j ∧ j < 6) → Q 1 h := fun hj => by
    have hr : inR j = false := decide_eq_false hj
    have e : renameA v s i j = (s, 1) := by unfold renameA; rw [hr]; rfl
    rw [e] at hQ
    exact hQ U h S
  refine ⟨fun e => (by cases e), fun _ => ⟨fun h1 => Fin.of (out (by omega)), fun h1 => ⟨fun h2 => Fin.of (out (by omega)), fun h2 => Fin.of ?_⟩⟩⟩
  have hj : inR j = true := decide_eq_true (by omega)
  unfold renameA at hQ
  rw [if_pos hj] at hQ
  unfold S_attempt_Attempt_Rename_J1
  refine touch_wp S (by omega) fun U' h1 S1 k a b h2 e2 => ?_
  have S2 := S1.nP (o := fO f0) a b e2
  refine ⟨_, stores_whole S2.gP rfl (by simp) (by simp [isOne]) (by simp), ?_⟩
  have S3 := (S2.pP (o' := fO (touchF v s i))).dP
  have hl := touchS_len v s i
  refine ⟨fun h0 => touch_wp S3 (by omega) fun U4 h4 S4 => Fin.of ?_, fun h0 => Fin.of ?_⟩
  · rw [if_pos h0] at hQ
    have es := (touchS_s v (touchS v s i) j).1
    unfold wS at hQ
    by_cases h5 : touchE v (touchS v s i) j = 0
    · rw [if_pos h5] at hQ
      rw [h5]
      refine rename_J2 S4 fun U5 h6 S6 => ?_
      rw [es] at S6
      exact hQ _ _ S6
    · rw [if_neg h5] at hQ
      exact rename_no h5 (hQ _ _ S4)
  · rw [if_neg h0] at hQ
    exact rename_no h0 (hQ _ _ S3)
end
end Go.Proofs.YtgldgabefiialaaGreat.H
namespace Go.Proofs.YtgldgabefiialaaGreat.H
open Go Go.RowKit
set_option linter.unusedVariables false
set_option maxRecDepth 100000
def apC (t : Int) (c : List (Int × Int)) (d : List (Int × Int)) : List (Int × Int) := d.foldl (fun c x => c.set x.1.toNat (x.2, t)) c
theorem apC_len (t : Int) : ∀ (d c : List (Int × Int)), (apC t c d).length = c.length := by
  intro d
  induction d with
  | nil => intro c; rfl
  | cons x d ih => intro c; exact (ih _).trans (List.length_set ..)
theorem apC_take {t : Int} {c d : List (Int × Int)} {q : Nat} {x : Int × Int} (h : d[q]? = some x) : apC t c (d.take (q + 1)) = (apC t c (d.take q)).set x.1.toNat (x.2, t) := by
  obtain ⟨h1, rfl⟩ := List.getElem?_eq_some_iff.1 h
  rw [List.take_succ_eq_append_getElem h1, apC, List.foldl_append]; rfl
def landN (t : Int) (ts : List ByteArray) (c : StV) (l : List (Int × Int)) : Nat → List (Int × Int)
  | 0 => l
  | j + 1 => if 0 < c.cr (j : Nat) then takeL ts (landN t ts c l j) (j : Nat) ((cellAt_int (landN t ts c l j) (j : Nat)).1 + c.cr (j : Nat)) t else landN t ts c l j
theorem FeedOk.land {t : Int} {ts : List ByteArray} {c : StV} {l : List (Int × Int)} (k : FeedOk ts l) : ∀ j, FeedOk ts (landN t ts c l j)
  | 0 => k
  | j + 1 => by
    unfold landN
    split
    · exact (FeedOk.land k j).take _ _ _
    · exact FeedOk.land k j
def landV (v : VV) (s : AV) : VV := ⟨apC (v.t + 1) v.c s.s.d, apD (v.t + 1) v.f s.s.f, v.ts, landN (v.t + 1) v.ts s.s v.l 3, v.t + 1⟩
theorem TomeOk.apD {t : Int} : ∀ (d : DFL) {l : FL}, TomeOk l → TomeOk (apD t l d) := by
  intro d
  induction d with
  | nil => intro l k; exact k
  | cons x d ih => intro l k; exact ih (k.set _ _ _ _)
section
variable {B : RO} {h0 h h' : Heap} {L M : List (Option (Nat × AObj))} {V : VI} {v : VV} {K : AK} {U : AU} {s : AV} {k : Nat} {i j : Int} {c : StV} {g : Reg4} {o o' : AObj} {y : Option (Nat × AObj)}
theorem AOk.view {v' : VV} (a : AOk v s) (k : TomeOk v'.f) : AOk v' s := ⟨⟨a.so.s, a.so.k, k.n6, k.good⟩, a.sd, a.dk, a.cr⟩
theorem land_wp {Q : Bool → Heap → Prop} (S : SS B h0 L h V v K U s) (hn : s.rs.length ≤ 90000) (ht : 0 ≤ v.t ∧ v.t < 1000000000)
    (hT : vld v s.rs = true → ∀ r' h', SS B h0 L h' (V.w r') (landV v s) K U s → Q true h') (hF : vld v s.rs = false → ∀ h', SS B h0 L h' V v K U s → Q false h') : C_attempt_Attempt_Land B (some ⟨K.kA, 0, none⟩) h Q := by
  refine C_attempt_Attempt_Land.of ?_
  unfold S_attempt_Attempt_Land
  refine avalid_wp S hn fun h3 S1 => ⟨fun hv => ?_, fun hv => Fin.of (hF hv _ S1)⟩
  refine ⟨_, rfl, _, S1.E.cM 7 rfl (i := 0) rfl, fun k8 a8 b8 h9 e9 => ?_⟩
  have S2 := S1.nP a8 b8 e9
  refine ⟨_, storeH_vec S2.gP rfl, ?_⟩
  have S3 := S2.pP (o' := .vec TY.p_attempt_View (plains [.pointer (some ⟨V.kV, 0, none⟩)]) 1)
  refine ⟨_, cellH_vec S3.gP rfl, _, rfl, v.t, S3.E.cM 0 rfl (i := 3) rfl, _, rfl, ?_⟩
  rw [w64 (by omega) (by omega)]
  refine ⟨_, storeH_vec (S3.E.gM 0 rfl) (show (plains [.pointer (some ⟨V.kC, 0, none⟩), .pointer (some ⟨V.kT, 0, none⟩), .pointer (some ⟨V.kF, 0, none⟩), .int .i64 v.t])[3]? = some (.plain (.int .i64 v.t)) from rfl), ?_⟩
  have E4 := S3.E.pM (o' := viewO V (v.t + 1)) 0 rfl
  refine ⟨_, rfl, _, Keep.cM E4 7 rfl (i := 2) rfl, dall_wp fun kc ac bc => ?_⟩
  have E5 := Keep.nP (o := .vec TY.p_draft_Draft_int [.plain (.pointer (some ⟨U.x.kd, 0, none⟩))] 1) E4 ac bc rfl
  have dl := S.a.dlen
  let LL := L ++ [some (k8, .vec TY.p_attempt_View (plains [.pointer (some ⟨V.kV, 0, none⟩)]) 1)] ++ [some (kc, .vec TY.p_draft_Draft_int [.plain (.pointer (some ⟨U.x.kd, 0, none⟩))] 1)]
  refine ⟨s.s.d, dG kc U.x.kd U.x.vd U.x.rd, fun q h' => Keep B h0 (LL ++ (V.e { v with c := apC (v.t + 1) v.c (s.s.d.take q), t := v.t + 1 } ++ AE V K U s)) h', dall_iter S.O.d (by omega), dG_ins, ?_, Fin.of E5, ?_, ?_⟩
  · intro q h' E
    exact ⟨Keep.gP E, E.gM 10 rfl, fun k o e => E.gM 11 (by show some U.x.rd = _; rw [e])⟩
  · clear E4 E5
    rintro q h69 i66 i67 hg E
    have hx := S.a.dk _ (List.mem_of_getElem? hg)
    simp only at hx
    refine ⟨_, cellH_vec (Keep.gP' E) rfl, _, rfl, _, E.cM 0 rfl (i := 0) rfl, _, cellH_vec (Keep.gP' E) rfl, _, rfl, _, E.cM 0 rfl (i := 3) rfl, set_wp_int (E.gM 1 rfl) (fun _ _ => Fin.of ?_) fun hn => ?_⟩
    · have E1 := E.pM (o' := rowO_int ((apC (v.t + 1) v.c (s.s.d.take q)).set i66.toNat (i67, v.t + 1))) 1 rfl
      rw [← apC_take (x := (i66, i67)) hg] at E1
      show Keep B h0 _ (h69.set V.kC (rowO_int ((apC (v.t + 1) v.c (s.s.d.take q)).set i66.toNat (i67, v.t + 1))))
      rw [← apC_take (x := (i66, i67)) hg]
      exact E1
    · rw [apC_len, S.o.c8] at hn; omega
  · clear E4 E5
    intro h69 E
    rw [List.take_length] at E
    refine Fin.of ?_
    unfold S_attempt_Attempt_Land_J1
    refine ⟨_, rfl, _, E.cM 7 rfl (i := 3) rfl, _, cellH_vec (Keep.gP' E) rfl, _, rfl, _, E.cM 0 rfl (i := 1) rfl, _, cellH_vec (Keep.gP' E) rfl, _, rfl, v.t + 1, E.cM 0 rfl (i := 3) rfl, ?_⟩
    refine sover_wp (x := shI V U) (toSh E) S.o.r S.O.f S.a.so fun r' h31 R' E1 => ?_
    have E2 := ofSh (V := V.w r') (v := ⟨apC (v.t + 1) v.c s.s.d, apD (v.t + 1) v.f s.s.f, v.ts, v.l, v.t + 1⟩) (K := K) (U := U) (s := s) (f := s.s.f) E1
    refine ⟨fun q m h' => ∃ j : Nat, j ≤ 3 ∧ q = j ∧ m = 3 - j ∧ Keep B h0 (LL ++ ((V.w r').e ⟨apC (v.t + 1) v.c s.s.d, apD (v.t + 1) v.f s.s.f, v.ts, landN (v.t + 1) v.ts s.s v.l j, v.t + 1⟩ ++ AE V K U s)) h', 3, Fin.of ⟨0, by omega, rfl, rfl, E2⟩, ?_⟩
    clear E1 E2 E
    rintro _ _ h34 ⟨j, hj, rfl, rfl, E⟩
    refine ⟨fun hlt => ⟨_, rfl, _, E.cM 7 rfl (i := 4) rfl, cread_wp (c := s.s) (E.gM 15 rfl) (by omega) ⟨fun hg => ?_, fun hg => Fin.of ?_⟩⟩, fun hge => Fin.of ?_⟩
    · have fk := S.o.k.land (t := v.t + 1) (c := s.s) j
      refine ⟨_, cellH_vec (Keep.gP' E) rfl, _, rfl, _, E.cM 0 rfl (i := 2) rfl, feed_place_wp (ts := v.ts) (l := landN (v.t + 1) v.ts s.s v.l j) fk.t3 (E.gM 5 rfl) (E.gM 6 rfl) ?_⟩
      refine ⟨_, cellH_vec (Keep.gP' E) rfl, _, rfl, _, E.cM 0 rfl (i := 2) rfl, _, cellH_vec (Keep.gP' E) rfl, _, rfl, v.t + 1, E.cM 0 rfl (i := 3) rfl, ?_⟩
      have hp := fk.place (j : Nat)
      have hs := fk.size (j : Nat)
      have hc := S.a.cr (j : Nat)
      rw [w64 (by omega) (by omega)]
      refine feed_take_wp fk (E.gM 5 rfl) (E.gM 6 rfl) (Fin.of ⟨3 - (j + 1), by omega, j + 1, by omega, wrapS (by omega), rfl, ?_⟩)
      have E3 := E.pM (o' := rowO_int (takeL v.ts (landN (v.t + 1) v.ts s.s v.l j) (j : Nat) ((cellAt_int (landN (v.t + 1) v.ts s.s v.l j) (j : Nat)).1 + s.s.cr (j : Nat)) (v.t + 1))) 6 rfl
      have e : landN (v.t + 1) v.ts s.s v.l (j + 1) = takeL v.ts (landN (v.t + 1) v.ts s.s v.l j) (j : Nat) ((cellAt_int (landN (v.t + 1) v.ts s.s v.l j) (j : Nat)).1 + s.s.cr (j : Nat)) (v.t + 1) := by rw [landN, if_pos hg]
      rw [e]
      exact E3
    · refine ⟨3 - (j + 1), by omega, j + 1, by omega, wrapS (by omega), rfl, ?_⟩
      have e : landN (v.t + 1) v.ts s.s v.l (j + 1) = landN (v.t + 1) v.ts s.s v.l j := by rw [landN, if_neg (by omega)]
      rw [e]
      exact E
    · have hj3 : j = 3 := by omega
      subst hj3
      have o' : VOk (V.w r') (landV v s) := ⟨R', by rw [← S.o.c8]; exact apC_len _ _ _, S.o.f.apD _, S.o.k.land 3⟩
      exact hT hv r' _ ⟨Keep.dP (Keep.dP E), o', S.R, S.O, S.a.view o'.f⟩
structure DeedR where
  k : Int
  a : Int
  b : Int
  c : UInt8
def DeedR.cells (d : DeedR) : List Value := [.int .i64 d.k, .int .i64 d.a, .int .i64 d.b, .int .u8 ((d.c.toNat : Nat) : Int)]
def pr2 (x : AV × Int) : AV × Int × Int := (x.1, 0, x.2)
def doesA (v : VV) (s : AV) (d : DeedR) : AV × Int × Int :=
  if d.k = 0 then loadA v s d.a else if d.k = 1 then pr2 (storeA s d.a d.b) else if d.k = 2 then readA v s d.a d.b else if d.k = 3 then pr2 (writeA v s d.a d.b d.c)
  else if d.k = 4 then pr2 (createA v s d.a) else if d.k = 5 then pr2 (removeA v s d.a) else if d.k = 6 then pr2 (renameA v s d.a d.b) else if d.k = 7 then pr2 (cutA v s d.a d.b)
  else if d.k = 8 then recvA v s d.a else (s, 0, 1)
theorem does_wp {d : DeedR} {Q : Int → Int → Heap → Prop} (S : SS B h0 L h V v K U s) (hn : s.rs.length ≤ 80000) (hQ : ∀ U' h', SS B h0 L h' V v K U' (doesA v s d).1 → Q (doesA v s d).2.1 (doesA v s d).2.2 h') : C_countermandlaw20_does B (some ⟨K.kA, 0, none⟩) d.k d.a d.b ((d.c.toNat : Nat) : Int) h Q := by
  refine C_countermandlaw20_does.of ?_
  unfold S_countermandlaw20_does
  intro k8 a8 b8 h9 e9
  have S1 := S.nP a8 b8 e9
  have g := S1.gP
  unfold doesA at hQ
  refine ⟨d.k, cellH_vec g rfl, fun h1 => ?_, fun n1 => ?_⟩
  · rw [if_pos h1] at hQ
    exact ⟨d.a, cellH_vec g rfl, load_wp S1 (by omega) fun U' h' _ S2 => Fin.of (hQ _ _ S2.dP)⟩
  rw [if_neg n1] at hQ
  refine ⟨fun h1 => ?_, fun n1 => ?_⟩
  · rw [if_pos h1] at hQ
    exact ⟨d.a, cellH_vec g rfl, d.b, cellH_vec g rfl, store_wp S1 fun U' h' S2 => Fin.of (hQ _ _ S2.dP)⟩
  rw [if_neg n1] at hQ
  refine ⟨fun h1 => ?_, fun n1 => ?_⟩
  · rw [if_pos h1] at hQ
    exact ⟨d.a, cellH_vec g rfl, d.b, cellH_vec g rfl, aread_wp S1 (by omega) fun U' h' S2 => Fin.of (hQ _ _ S2.dP)⟩
  rw [if_neg n1] at hQ
  refine ⟨fun h1 => ?_, fun n1 => ?_⟩
  · rw [if_pos h1] at hQ
    exact ⟨d.a, cellH_vec g rfl, d.b, cellH_vec g rfl, ((d.c.toNat : Nat) : Int), cellH_vec g rfl, awrite_wp rfl S1 (by omega) fun U' h' S2 => Fin.of (hQ _ _ S2.dP)⟩
  rw [if_neg n1] at hQ
  refine ⟨fun h1 => ?_, fun n1 => ?_⟩
  · rw [if_pos h1] at hQ
    exact ⟨d.a, cellH_vec g rfl, acreate_wp S1 (by omega) fun U' h' S2 => Fin.of (hQ _ _ S2.dP)⟩
  rw [if_neg n1] at hQ
  refine ⟨fun h1 => ?_, fun n1 => ?_⟩
  · rw [if_pos h1] at hQ
    exact ⟨d.a, cellH_vec g rfl, aremove_wp S1 (by omega) fun U' h' S2 => Fin.of (hQ _ _ S2.dP)⟩
  rw [if_neg n1] at hQ
  refine ⟨fun h1 => ?_, fun n1 => ?_⟩
  · rw [if_pos h1] at hQ
    exact ⟨d.a, cellH_vec g rfl, d.b, cellH_vec g rfl, arename_wp S1 (by omega) fun U' h' S2 => Fin.of (hQ _ _ S2.dP)⟩
  rw [if_neg n1] at hQ
  refine ⟨fun h1 => ?_, fun n1 => ?_⟩
  · rw [if_pos h1] at hQ
    exact ⟨d.a, cellH_vec g rfl, d.b, cellH_vec g rfl, acut_wp S1 (by omega) fun U' h' S2 => Fin.of (hQ _ _ S2.dP)⟩
  rw [if_neg n1] at hQ
  refine ⟨fun h1 => ?_, fun n1 => ?_⟩
  · rw [if_pos h1] at hQ
    exact ⟨d.a, cellH_vec g rfl, recv_wp S1 (by omega) fun U' h' S2 => Fin.of (hQ _ _ S2.dP)⟩
  rw [if_neg n1] at hQ
  exact Fin.of (hQ _ _ S1.dP)
theorem noteS_len (v : VV) (s : AV) (k i : Int) : (noteS v s k i).rs.length ≤ s.rs.length + 1 := noteA_len _ _ _ _ _
theorem wS_len (v : VV) (s : AV) (i : Int) (F : DFL → DFL) : (wS v s i F).1.rs.length ≤ s.rs.length + 1 := by
  have := touchS_len v s i
  unfold wS; split <;> exact this
theorem doesA_len (v : VV) (s : AV) (d : DeedR) : (doesA v s d).1.rs.length ≤ s.rs.length + 2 := by
  have h1 := touchS_len v s d.a
  have h2 := noteS_len v s 0 d.a
  have h3 := noteS_len v s 2 d.a
  unfold doesA
  split
  · unfold loadA; split
    · split
      · show s.rs.length ≤ _; omega
      · show (noteS v s 0 d.a).rs.length ≤ _; omega
    · show s.rs.length ≤ _; omega
  split
  · unfold storeA; split <;> (show s.rs.length ≤ _; omega)
  split
  · unfold readA; split <;> (show (touchS v s d.a).rs.length ≤ _; omega)
  split
  · exact Nat.le_succ_of_le (wS_len _ _ _ _)
  split
  · exact Nat.le_succ_of_le (wS_len _ _ _ _)
  split
  · exact Nat.le_succ_of_le (wS_len _ _ _ _)
  split
  · unfold renameA; split
    · split
      · have := wS_len v (touchS v s d.a) d.b fun e => renS v.f e d.a d.b
        show (wS v (touchS v s d.a) d.b fun e => renS v.f e d.a d.b).1.rs.length ≤ _; omega
      · show (touchS v s d.a).rs.length ≤ _; omega
    · show s.rs.length ≤ _; omega
  split
  · exact Nat.le_succ_of_le (wS_len _ _ _ _)
  split
  · unfold recvA; split
    · split
      · split <;> (show (noteS v s 2 d.a).rs.length ≤ _; omega)
      · show (noteS v s 2 d.a).rs.length ≤ _; omega
    · show s.rs.length ≤ _; omega
  · show s.rs.length ≤ _; omega
end
end Go.Proofs.YtgldgabefiialaaGreat.H
namespace Go.Proofs.YtgldgabefiialaaGreat.H
open Go Go.RowKit
set_option linter.unusedVariables false
set_option maxRecDepth 100000
structure Pas (v : VV) (U : AU) (s : AV) : Prop where
  R : ERow U.rS U.vS s.rs
  O : U.x.Ok s.s
  a : AOk v s
def otherV (v : VV) (d : DeedR) : VV := if vld v (doesA v (s0 v ⟨0, 0, 0, 0⟩) d).1.rs = true then landV v (doesA v (s0 v ⟨0, 0, 0, 0⟩) d).1 else v
theorem otherV_t (v : VV) (d : DeedR) : (otherV v d).t = v.t ∨ (otherV v d).t = v.t + 1 := by
  unfold otherV; split
  · exact .inr rfl
  · exact .inl rfl
def runO (kV : Nat) (tA : Option Addr) (vd vt : Value) : AObj := .vec TY.countermandlaw20_run (plains [.pointer (some ⟨kV, 0, none⟩), .pointer tA, vd, vt]) 4
def TRow (r : Option (Nat × AObj)) (v : Value) (xs : List VV) : Prop := Row r v TY.countermandref20_Things 23 (xs.flatMap thF)
theorem TK.slc_th : slcB PG TY.s_countermandref20_Things = some (TY.countermandref20_Things, 23, 232) := by kernel_rfl
theorem TK.zero_th : zeroB PG TY.countermandref20_Things = some thZ := by kernel_rfl
theorem TK.sl_th : slT PG TY.s_countermandref20_Things = true := by kernel_rfl
theorem thF_one (v : VV) : ∀ y ∈ thF v, isOne y = true := by simp [thF, isOne, cT, fT, sT, lT]
section
variable {B : RO} {h0 h h' : Heap} {L M : List (Option (Nat × AObj))} {V : VI} {v : VV} {K K1 K2 : AK} {U U1 U2 : AU} {s s1 s2 : AV} {k : Nat} {i j : Int} {c : StV} {g : Reg4} {o o' : AObj} {y : Option (Nat × AObj)}
theorem Keep.swap {A X : List (Option (Nat × AObj))} (E : Keep B h0 (L ++ (A ++ X)) h) : Keep B h0 ((L ++ X) ++ A) h := by
  refine E.remap (fun j => if j < L.length then j else if j < L.length + X.length then j + A.length else j - X.length) (fun j y hj => ?_) (fun i j hi hj e => ?_)
  · have hl := (List.getElem?_eq_some_iff.1 hj).1
    rw [List.length_append, List.length_append] at hl
    by_cases h1 : j < L.length
    · simp only [if_pos h1]
      rw [List.append_assoc, List.getElem?_append_left h1] at hj
      rw [List.getElem?_append_left h1]; exact hj
    · simp only [if_neg h1]
      by_cases h2 : j < L.length + X.length
      · simp only [if_pos h2]
        rw [List.append_assoc, List.getElem?_append_right (by omega), List.getElem?_append_left (by omega)] at hj
        rw [List.getElem?_append_right (by omega), List.getElem?_append_right (by omega), show j + A.length - L.length - A.length = j - L.length by omega]; exact hj
      · simp only [if_neg h2]
        rw [List.getElem?_append_right (by rw [List.length_append]; omega), List.length_append] at hj
        rw [List.getElem?_append_right (by omega), List.getElem?_append_left (by omega), show j - X.length - L.length = j - (L.length + X.length) by omega]; exact hj
  · rw [List.length_append, List.length_append] at hi hj
    have e : (if i < L.length then i else if i < L.length + X.length then i + A.length else i - X.length) = (if j < L.length then j else if j < L.length + X.length then j + A.length else j - X.length) := e
    split at e <;> split at e <;> (try split at e) <;> (try split at e) <;> omega
theorem Keep.unswap {A X : List (Option (Nat × AObj))} (E : Keep B h0 ((L ++ X) ++ A) h) : Keep B h0 (L ++ (A ++ X)) h := by
  rw [List.append_assoc] at E
  rw [← List.append_assoc]
  exact E.swap
theorem SS.pas (S : SS B h0 L h V v K U s) : Pas v U s := ⟨S.R, S.O, S.a⟩
theorem SS.of (E : Keep B h0 (L ++ (V.e v ++ AE V K U s)) h) (o : VOk V v) (P : Pas v U s) : SS B h0 L h V v K U s := ⟨E, o, P.R, P.O, P.a⟩
theorem SS.out (S : SS B h0 L h V v K U s) : Keep B h0 ((L ++ AE V K U s) ++ V.e v) h := S.E.swap
theorem SS.flip (S : SS B h0 (L ++ AE V K1 U1 s1) h V v K2 U2 s2) (P : Pas v U1 s1) : SS B h0 (L ++ AE V K2 U2 s2) h V v K1 U1 s1 := by
  refine .of ?_ S.o P
  have E := S.E
  rw [List.append_assoc] at E ⊢
  exact E.sM [16, 17, 18, 19, 20, 21, 22, 23, 24, 9, 10, 11, 12, 13, 14, 15, 0, 1, 2, 3, 4, 5, 6, 7, 8] (by decide)
theorem SS.drop2 {X : List (Option (Nat × AObj))} (S : SS B h0 (L ++ X) h V v K U s) : SS B h0 L h V v K U s := by
  refine .of ?_ S.o S.pas
  have E := S.E
  rw [List.append_assoc] at E
  exact E.dropMid
theorem VAt.mk0 : VAt (L ++ V.e v) L.length V v := by
  have := VAt.mk (L := L) (R := []) (x := V) (v := v)
  rwa [List.append_nil] at this
theorem alive20_wp {Q : Bool → Heap → Prop} (hQ : ∀ h', Keep B h [] h' → Q true h') : C_countermandlaw20_alive B h Q := by
  refine C_countermandlaw20_alive.of ?_
  unfold S_countermandlaw20_alive
  refine newview_wp fun V h2 o E1 => ?_
  refine anew_wp (L := []) (g := ⟨0, 0, 0, 0⟩) E1 o fun Ka Ua h4 Sa => ?_
  have Sa := Sa.drop2
  refine anew_wp (g := ⟨0, 0, 0, 0⟩) Sa.out o fun Kb Ub h6 Sb => ?_
  have Pa := Sa.pas
  have Sb := Sb.drop2
  have Pb := Sb.pas
  refine store_wp (Sb.flip Pa) fun Ua1 h8 Sa1 => ⟨fun _ => ?_, fun hn => absurd rfl hn⟩
  refine load_wp Sa1 (by decide) fun Ua2 h10 e2 Sa2 => ?_
  have Pa2 := Sa2.pas
  refine load_wp (Sa2.flip Pb) (by decide) fun Ub2 h13 e3 Sb2 => ⟨fun _ => ⟨fun _ => ?_, fun hn => absurd rfl hn⟩, fun hn => absurd rfl hn⟩
  refine land_wp (Sb2.flip Pa2) (by decide) (by decide) (fun _ r' h16 S => ⟨fun _ => ⟨_, rfl, _, S.E.cM 0 rfl (i := 3) rfl, Fin.of ?_⟩, fun e => by cases e⟩) (fun hv => absurd hv (by decide))
  exact hQ _ (by have := S.E.take 0; simpa using this)
theorem other_wp {d : DeedR} {q kr : Nat} {tA : Option Addr} {vd vt : Value} {r : Option (Nat × AObj)} {xs : List VV} {Q : Heap → Prop} (E : Keep B h0 (L ++ V.e v) h) (o : VOk V v) (hq : L[q]? = some (some (kr, runO V.kV tA vd vt))) (hr : L[q + 1]? = some r) (R : TRow r vt xs) (hx : xs.length ≤ 100000) (ht : 0 ≤ v.t ∧ v.t < 1000000000)
    (hQ : ∀ rt vt' r' h', VOk (V.w rt) (otherV v d) → TRow r' vt' (xs ++ [otherV v d]) → Keep B h0 ((L.set q (some (kr, runO V.kV tA vd vt'))).set (q + 1) r' ++ (V.w rt).e (otherV v d)) h' → Q h') : C_countermandlaw20_run_other B (some ⟨kr, 0, none⟩) d.k d.a d.b ((d.c.toNat : Nat) : Int) h Q := by
  refine C_countermandlaw20_run_other.of ?_
  unfold S_countermandlaw20_run_other
  have hql := (List.getElem?_eq_some_iff.1 hq).1
  have hrl := (List.getElem?_eq_some_iff.1 hr).1
  intro k6 a6 b6 h7 e7
  have E0 := Keep.nP E a6 b6 e7
  have cr : ∀ {N : List (Option (Nat × AObj))} {h1 : Heap}, Keep B h0 (L ++ N) h1 → h1 kr = some (runO V.kV tA vd vt) := fun {N h1} E => E.at q (up_app _ hq)
  refine ⟨_, rfl, _, cellH_vec (cr (by rw [List.append_assoc] at E0; exact E0)) rfl, anew_wp (g := ⟨0, 0, 0, 0⟩) E0 o fun K U h11 S => ?_⟩
  have g6 := S.E.at L.length (k := k6) (up_app _ atMid)
  refine ⟨d.k, d.a, d.b, ((d.c.toNat : Nat) : Int), ⟨cellH_vec g6 rfl, cellH_vec g6 rfl, cellH_vec g6 rfl, cellH_vec g6 rfl, trivial⟩, does_wp (d := d) S.drop2.dP (Nat.zero_le _) fun U1 h17 S1 => ?_⟩
  have hlen := doesA_len v (s0 v ⟨0, 0, 0, 0⟩) d
  have key : ∀ (rt : Option (Nat × AObj)) (v2 : VV) (h20 : Heap) (b21 : Bool), VOk (V.w rt) v2 → v2 = otherV v d → Keep B h0 (L ++ (V.w rt).e v2) h20 → ∃ A22 : Addr, (some (⟨kr, 0, none⟩ : Addr)) = some A22 ∧ ∃ p24 : Option Addr, cellH B h20 A22 = some (.pointer p24) ∧ C_countermandlaw20_things B p24 h20 (fun l26 s27 s28 s29 h25 =>
 ∀ k30 : Nat, h25 k30 = none → B k30 = none → ∀ h31 : Heap, h31 = Heap.set h25 k30 (.vec TY.countermandref20_Things (plains thZ) 23) →
 ∀ k32 : Nat, h31 k32 = none → B k32 = none → ∀ h33 : Heap, h33 = Heap.set h31 k32 (.vec TY.a_3_string (plains txZ) 3) →
 List.length l26 = 23 ∧ ∃ h34 : Heap, StoresAt ⟨k30, 0, none⟩ h33 0 l26 h34 ∧
 ∃ h35 : Heap, StoresAt ⟨k32, 0, none⟩ h34 0 [(.string s27), (.string s28), (.string s29)] h35 ∧
 ∃ A38 : Addr, (some (⟨kr, 0, none⟩ : Addr)) = some A38 ∧
 ∃ a42 : Option Addr, ∃ n43 : Nat, ∃ c44 : Nat, cellH B h35 (Addr.add A38 3) = some (.slice a42 n43 c44) ∧
 ∃ l46 : List Value, List.length l46 = 23 ∧ CellsAt B h35 ⟨k30, 0, none⟩ 0 l46 ∧
 ∀ k48 : Nat, h35 k48 = none → B k48 = none → ∀ h49 : Heap, h49 = Heap.set h35 k48 (.vec TY.countermandref20_Things (plains l46) 23) →
 cellH B h49 (Addr.add A38 3) = some (.slice a42 n43 c44) ∧ CellsAt B h49 ⟨k30, 0, none⟩ 0 l46 ∧
 semH PG B (Builtin.append_ #[TY.s_countermandref20_Things, TY.s_countermandref20_Things] TY.s_countermandref20_Things #[(.slice a42 n43 c44), (.slice (some ⟨k48, 0, none⟩) 1 1)]) h49 (fun v h52 => ∃ a53 : Option Addr, ∃ n54 : Nat, ∃ c55 : Nat, v = (.slice a53 n54 c55) ∧
 cellH B h52 (Addr.add A38 3) = some (.slice a42 n43 c44) ∧ CellsAt B h52 ⟨k30, 0, none⟩ 0 l46 ∧
 ∃ A58 : Addr, (some (⟨kr, 0, none⟩ : Addr)) = some A58 ∧
 ∃ h60 : Heap, storeH h52 (Addr.add A58 3) (.slice a53 n54 c55) = some h60 ∧
 Fin B h60 (Q))) := by
    intro rt v2 h20 b21 o2 ev E2
    subst ev
    refine ⟨_, rfl, _, cellH_vec (cr E2) rfl, things_wp (x := V.w rt) E2 VAt.mk0 o2 fun h25 E3 k30 a30 b30 h31 e31 k32 a32 b32 h33 e33 => ?_⟩
    have E4 := (E3.nM a30 b30 e31).nM a32 b32 e33
    refine ⟨rfl, _, stores_whole (E4.gM 7 rfl) rfl (by simp [thF]) (thF_one _) (by simp [thF]), ?_⟩
    have E5 := E4.pM (o' := .vec TY.countermandref20_Things (plains (thF (otherV v d))) 23) 7 rfl
    refine ⟨_, stores_whole (E5.gM 8 rfl) rfl (by simp) (by simp [isOne]) (by simp), ?_⟩
    have E6 := E5.pM (o' := .vec TY.a_3_string (plains (txF (otherV v d).ts)) 3) 8 rfl
    obtain ⟨a, m, c, rfl⟩ := Row.slice R
    obtain rfl := (Row.rd (B := fun _ => none) R (fun x => rfl) (by omega)).1
    have hfl := flatMap_length (cells := thF) (n := 23) (fun x => rfl) xs
    refine ⟨_, rfl, a, _, c, cellH_vec (cr E6) rfl, thF (otherV v d), rfl, E6.allM 7 rfl, fun k48 a48 b48 h49 e49 => ?_⟩
    have E7 := E6.nM a48 b48 e49
    refine ⟨cellH_vec (cr E7) rfl, E7.allM 7 rfl, ?_⟩
    refine E7.pushS (q + 1) (n := 1) (ys := thF (otherV v d)) (up_app _ hr) R TK.slc_th TK.zero_th rfl (by omega) (by omega) TK.sl_th ⟨rfl, thF_one _, .inl ⟨_, _, rfl, E7.allM 9 rfl⟩⟩ (by rw [hfl]; show (xs.length * 23 + 23) * 232 ≤ _; omega) fun a' m' c' r' h52 R' E8 => ?_
    rw [List.set_append_left _ _ hrl] at E8
    have hq8 : (L.set (q + 1) r')[q]? = some (some (kr, runO V.kV tA vd (.slice a xs.length c))) := by rw [List.getElem?_set_ne (by omega)]; exact hq
    refine ⟨a', m', c', rfl, cellH_vec (E8.at q (up_app _ hq8)) rfl, E8.allM 7 rfl, _, rfl, ?_⟩
    obtain ⟨es, E9⟩ := E8.store q 3 (.slice a' m' c') (up_app _ hq8) rfl
    rw [List.set_append_left _ _ (by rw [List.length_set]; omega), List.set_comm _ _ (by omega)] at E9
    refine ⟨_, es, Fin.of (hQ rt (.slice a' m' c') r' _ o2 ?_ (E9.tM 7))⟩
    unfold TRow; rw [List.flatMap_append]; simpa using R'
  refine land_wp S1 (by have : (s0 v ⟨0, 0, 0, 0⟩).rs.length = 0 := rfl
                        omega) ht (fun hv r' h20 S2 => ?_) (fun hv h20 S2 => ?_)
  · exact key r' _ h20 true S2.o (by unfold otherV; rw [if_pos hv]) (S2.E.tM 7)
  · exact key V.rt _ h20 false S2.o (by unfold otherV; rw [if_neg (by rw [hv]; decide)]) (S2.E.tM 7)
end
end Go.Proofs.YtgldgabefiialaaGreat.H
namespace Go.Proofs.YtgldgabefiialaaGreat.H
open Go Go.RowKit
set_option linter.unusedVariables false
set_option maxRecDepth 100000
def stepR (p : VV × List VV) (d : DeedR) : VV × List VV := (otherV p.1 d, p.2 ++ [otherV p.1 d])
def RR (ds : List DeedR) : VV × List VV := ds.foldl stepR (vz, [vz])
theorem RR_take {ds : List DeedR} {j : Nat} {d : DeedR} (h : ds[j]? = some d) : RR (ds.take (j + 1)) = stepR (RR (ds.take j)) d := by
  obtain ⟨h1, rfl⟩ := List.getElem?_eq_some_iff.1 h
  rw [List.take_succ_eq_append_getElem h1, RR, List.foldl_append]; rfl
theorem RR_fact : ∀ (ds : List DeedR) (p : VV × List VV) (n : Nat), 0 ≤ p.1.t ∧ p.1.t ≤ n ∧ p.2.length = n + 1 → ∃ m : Nat, m = n + ds.length ∧ 0 ≤ (ds.foldl stepR p).1.t ∧ (ds.foldl stepR p).1.t ≤ m ∧ (ds.foldl stepR p).2.length = m + 1 := by
  intro ds
  induction ds with
  | nil => intro p n h; exact ⟨n, rfl, h⟩
  | cons d ds ih =>
    intro p n h
    have ht := otherV_t p.1 d
    obtain ⟨m, e, h1⟩ := ih (stepR p d) (n + 1) ⟨by show 0 ≤ (otherV p.1 d).t; omega, by show (otherV p.1 d).t ≤ _; omega, by show (p.2 ++ [_]).length = _; rw [List.length_append]; simp; omega⟩
    exact ⟨m, by rw [e, List.length_cons]; omega, h1⟩
theorem RR_t (ds : List DeedR) : 0 ≤ (RR ds).1.t ∧ (RR ds).1.t ≤ ds.length ∧ (RR ds).2.length = ds.length + 1 := by
  obtain ⟨m, e, h1, h2, h3⟩ := RR_fact ds (vz, [vz]) 0 ⟨by decide, by decide, rfl⟩
  have e : m = ds.length := by omega
  subst e
  exact ⟨h1, h2, h3⟩
theorem cell_rep (i : Int) : cellAt_int (List.replicate 8 (0, 0)) i = (0, 0) := by
  unfold cellAt_int
  split
  · cases h : (List.replicate 8 ((0 : Int), (0 : Int)))[i.toNat]? with
    | none => rfl
    | some x => exact (List.eq_of_mem_replicate (List.mem_of_getElem? h))
  · rfl
theorem landN_z {t : Int} {ts : List ByteArray} {c : StV} {l : List (Int × Int)} (h : ∀ i, c.cr i = 0) : ∀ j, landN t ts c l j = l
  | 0 => rfl
  | j + 1 => by rw [landN, if_neg (by rw [h]; omega)]; exact landN_z h j
theorem cr_z (d : List (Int × Int)) (f : DFL) (i : Int) : (StV.mk d f 0 0 0).cr i = 0 := by
  unfold StV.cr; (repeat' split) <;> rfl
theorem land_one (v : VV) (rs : List RE) (st : Int) (i x : Int) (g : Reg4) : landV v ⟨rs, st, ⟨[(i, x)], [], 0, 0, 0⟩, g⟩ = ⟨v.c.set i.toNat (x, v.t + 1), v.f, v.ts, v.l, v.t + 1⟩ := by
  unfold landV
  rw [landN_z (cr_z _ _)]; rfl
theorem other_store {v : VV} {i x : Int} {c : UInt8} (hi : inC i = true) : otherV v ⟨1, i, x, c⟩ = ⟨v.c.set i.toNat (x, v.t + 1), v.f, v.ts, v.l, v.t + 1⟩ := by
  have e : doesA v (s0 v ⟨0, 0, 0, 0⟩) ⟨1, i, x, c⟩ = (⟨[], v.t, ⟨[(i, x)], [], 0, 0, 0⟩, ⟨0, 0, 0, 0⟩⟩, 0, 0) := by
    show pr2 (storeA _ i x) = _
    unfold storeA; rw [if_pos hi]; rfl
  unfold otherV
  rw [e]
  exact (if_pos rfl).trans (land_one _ _ _ _ _ _)
theorem ver_set {v : VV} {i x t : Int} {f : FL} {ts : List ByteArray} {l : List (Int × Int)} {t' : Int} (h8 : v.c.length = 8) (hi : inC i = true) (k : Int) : cellAt_int (v.c.set i.toNat (x, t)) k = if k = i then (x, t) else cellAt_int v.c k := by
  have := of_decide_eq_true hi
  exact cellAt_int_set this.1 (by rw [h8]; omega) _ _
section
variable {B : RO} {h0 h h' : Heap} {L M : List (Option (Nat × AObj))} {V : VI} {v : VV} {K K1 K2 : AK} {U U1 U2 : AU} {s s1 s2 : AV} {k : Nat} {i j : Int} {c : StV} {g : Reg4} {o o' : AObj} {y z : Option (Nat × AObj)}
theorem two_q : (L ++ [y, z])[L.length]? = some y := by rw [List.getElem?_append_right (Nat.le_refl _), Nat.sub_self]; rfl
theorem two_q1 : (L ++ [y, z])[L.length + 1]? = some z := by rw [List.getElem?_append_right (by omega), show L.length + 1 - L.length = 1 by omega]; rfl
theorem two_set {y' : Option (Nat × AObj)} : (L ++ [y, z]).set L.length y' = L ++ [y', z] := by rw [List.set_append_right _ _ (Nat.le_refl _), Nat.sub_self]; rfl
theorem two_set1 {z' : Option (Nat × AObj)} : (L ++ [y, z]).set (L.length + 1) z' = L ++ [y, z'] := by rw [List.set_append_right _ _ (by omega), show L.length + 1 - L.length = 1 by omega]; rfl
theorem SS.other {d : DeedR} {kr : Nat} {tA : Option Addr} {vd vt : Value} {r : Option (Nat × AObj)} {xs : List VV} {Q : Heap → Prop} (S : SS B h0 (L ++ [some (kr, runO V.kV tA vd vt), r]) h V v K U s) (R : TRow r vt xs) (hx : xs.length ≤ 100000) (ht : 0 ≤ v.t ∧ v.t < 1000000000)
    (hQ : ∀ rt vt' r' h', TRow r' vt' (xs ++ [otherV v d]) → SS B h0 (L ++ [some (kr, runO V.kV tA vd vt'), r']) h' (V.w rt) (otherV v d) K U s → Q h') : C_countermandlaw20_run_other B (some ⟨kr, 0, none⟩) d.k d.a d.b ((d.c.toNat : Nat) : Int) h Q := by
  refine other_wp (q := L.length) S.out S.o (up_app _ two_q) (up_app _ two_q1) R hx ht fun rt vt' r' h1 o1 R1 E1 => hQ rt vt' r' h1 R1 ⟨?_, o1, S.R, S.O, S.a.view o1.f⟩
  rw [List.set_append_left _ _ (by rw [List.length_append]; simp), two_set, List.set_append_left _ _ (by rw [List.length_append]; simp), two_set1] at E1
  exact E1.unswap
theorem start_wp {a : Option Addr} {cc : Nat} {ds : List DeedR} {Q : Option Addr → Heap → Prop} (E : Keep B h0 L h) (hr : ∀ h', Keep B h0 L h' → Reads B h' a 4 DeedR.cells ds) (hn : ds.length ≤ 1000)
    (hQ : ∀ kr V K U vt r h', TRow r vt (RR ds).2 → SS B h0 (L ++ [some (kr, runO V.kV (some ⟨K.kA, 0, none⟩) (.slice none 0 0) vt), r]) h' V (RR ds).1 K U (s0 (RR ds).1 g) → Q (some ⟨kr, 0, none⟩) h') : C_countermandlaw20_start B a ds.length cc g.a g.b g.c g.d h Q := by
  refine C_countermandlaw20_start.of ?_
  unfold S_countermandlaw20_start
  intro k9 a9 b9 h10 e10
  have E1 := E.made a9 b9 e10
  refine newview_wp fun V h11 o E2 => ?_
  have E3 := E1.append E2
  intro k13 a13 b13 h14 e14
  have E4 := Keep.nP E3 a13 b13 e14
  generalize hL1 : L ++ [some (k9, AObj.vec TY.api_Regs (plains [.int .i64 g.a, .int .i64 g.b, .int .i64 g.c, .int .i64 g.d]) 4)] = L1 at E4
  have E5 : Keep B h0 ((L1 ++ [some (k13, runO V.kV none (.slice none 0 0) (.slice none 0 0)), none]) ++ V.e vz) h14 := by
    have := E4.unswap.gap
    rw [List.append_assoc, List.append_assoc] at this
    exact this.swap
  clear E4
  have cr : ∀ {vt : Value} {r : Option (Nat × AObj)} {N : List (Option (Nat × AObj))} {h1 : Heap}, Keep B h0 ((L1 ++ [some (k13, runO V.kV none (.slice none 0 0) vt), r]) ++ N) h1 → h1 k13 = some (runO V.kV none (.slice none 0 0) vt) := fun {vt r N h1} E => E.at L1.length (up_app _ two_q)
  refine ⟨_, cellH_vec (cr E5) rfl, things_wp E5 VAt.mk0 o fun h16 E6 k21 a21 b21 h22 e22 k23 a23 b23 h24 e24 => ?_⟩
  have E7 := (E6.nM a21 b21 e22).nM a23 b23 e24
  refine ⟨rfl, _, stores_whole (E7.gM 7 rfl) rfl (by simp [thF]) (thF_one _) (by simp [thF]), ?_⟩
  have E8 := E7.pM (o' := .vec TY.countermandref20_Things (plains (thF vz)) 23) 7 rfl
  refine ⟨_, stores_whole (E8.gM 8 rfl) rfl (by simp) (by simp [isOne]) (by simp), ?_⟩
  have E9 := E8.pM (o' := .vec TY.a_3_string (plains (txF vz.ts)) 3) 8 rfl
  refine ⟨none, 0, 0, cellH_vec (cr E9) rfl, thF vz, rfl, E9.allM 7 rfl, fun k37 a37 b37 h38 e38 => ?_⟩
  have E10 := E9.nM a37 b37 e38
  refine ⟨cellH_vec (cr E10) rfl, E10.allM 7 rfl, ?_⟩
  refine E10.pushS (L1.length + 1) (n := 1) (ys := thF vz) (up_app _ two_q1) (Row.nil _ _) TK.slc_th TK.zero_th rfl (by omega) (by omega) TK.sl_th ⟨rfl, thF_one _, .inl ⟨_, _, rfl, E10.allM 9 rfl⟩⟩ (by show (0 + 23) * 232 ≤ _; omega) fun a' m' c' r' h41 R' E11 => ?_
  rw [List.set_append_left _ _ (by rw [List.length_append]; simp), two_set1] at E11
  refine ⟨a', m', c', rfl, cellH_vec (cr E11) rfl, E11.allM 7 rfl, ?_⟩
  obtain ⟨es, E12⟩ := E11.store L1.length 3 (.slice a' m' c') (up_app _ two_q) rfl
  rw [List.set_append_left _ _ (by rw [List.length_append]; simp), two_set] at E12
  have E13 := E12.tM 7
  refine ⟨_, es, ?_⟩
  refine ⟨fun q m h' => ∃ (j : Nat) (rt : Option (Nat × AObj)) (vt : Value) (r : Option (Nat × AObj)), j ≤ ds.length ∧ q = j ∧ m = ds.length - j ∧ VOk (V.w rt) (RR (ds.take j)).1 ∧ TRow r vt (RR (ds.take j)).2 ∧ Keep B h0 ((L1 ++ [some (k13, runO V.kV none (.slice none 0 0) vt), r]) ++ (V.w rt).e (RR (ds.take j)).1) h', ds.length, Fin.of ⟨0, V.rt, .slice a' m' c', r', by omega, rfl, rfl, o, ?_, E13⟩, ?_⟩
  · unfold TRow; rw [show (RR (ds.take 0)).2.flatMap thF = [] ++ thF vz from List.append_nil _]; exact R'
  clear E5 E6 E7 E8 E9 E10 E11 E12 E13 es R' E3
  rintro _ _ h67 ⟨j, rt, vt, r, hj, rfl, rfl, oj, Rj, Ej⟩
  obtain ⟨t1, t2, t3⟩ := RR_t (ds.take j)
  rw [List.length_take, Nat.min_eq_left hj] at t2 t3
  refine ⟨fun hlt => ?_, fun hge => Fin.of ?_⟩
  · have hj' : j < ds.length := by omega
    have hx := List.getElem?_eq_getElem hj'
    generalize ds[j] = d at hx
    obtain ⟨A, f1, f2, f3⟩ := hr h67 (by rw [← hL1, List.append_assoc, List.append_assoc] at Ej; exact Ej.popL) j d hx
    refine ⟨A, f1, by omega, by omega, d.k, d.a, d.b, ((d.c.toNat : Nat) : Int), by rw [Int.toNat_natCast]; exact f3, fun k78 a78 b78 h79 e79 => ?_⟩
    have E2' := Keep.nP Ej a78 b78 e79
    refine ⟨_, stores_whole E2'.gP rfl (by simp) (by simp [isOne]) (by simp), ?_⟩
    have E3' := E2'.pP (o' := .vec TY.countermandref20_Deed (plains d.cells) 4)
    refine ⟨_, _, _, _, ⟨cellH_vec E3'.gP rfl, cellH_vec E3'.gP rfl, cellH_vec E3'.gP rfl, cellH_vec E3'.gP rfl, trivial⟩, ?_⟩
    refine other_wp (d := d) (q := L1.length) (Keep.dP E3') oj two_q two_q1 Rj (by omega) ⟨t1, by omega⟩ fun rt' vt' r' h1 o1 R1 E4' => Fin.of ⟨ds.length - (j + 1), by omega, j + 1, rt', vt', r', by omega, wrapS (by omega), rfl, ?_, ?_, ?_⟩
    · rw [RR_take hx]; exact o1
    · rw [RR_take hx]; exact R1
    · rw [RR_take hx]
      rw [two_set, two_set1] at E4'
      exact E4'
  · have hjn : j = ds.length := by omega
    subst hjn
    rw [List.take_length] at oj Rj Ej
    unfold S_countermandlaw20_start_J1
    subst hL1
    have g9 : ∀ {y z : Option (Nat × AObj)} {N : List (Option (Nat × AObj))} {h1 : Heap}, Keep B h0 (L ++ [some (k9, AObj.vec TY.api_Regs (plains [.int .i64 g.a, .int .i64 g.b, .int .i64 g.c, .int .i64 g.d]) 4)] ++ [y, z] ++ N) h1 → CellsAt B h1 ⟨k9, 0, none⟩ 0 [.int .i64 g.a, .int .i64 g.b, .int .i64 g.c, .int .i64 g.d] := fun {y z N h1} E => by
      have g := E.at L.length (up_app _ atMid)
      exact ⟨cellH_vec g rfl, cellH_vec g rfl, cellH_vec g rfl, cellH_vec g rfl, trivial⟩
    refine ⟨_, cellH_vec (cr Ej) rfl, g.a, g.b, g.c, g.d, g9 Ej, anew_wp (V := V.w rt) Ej oj fun K U h61 S => ?_⟩
    have S1 := S.drop2
    refine ⟨cellH_vec (cr S1.E) rfl, g9 S1.E, ?_⟩
    obtain ⟨es, E6⟩ := S1.E.store (L ++ [some (k9, AObj.vec TY.api_Regs (plains [.int .i64 g.a, .int .i64 g.b, .int .i64 g.c, .int .i64 g.d]) 4)]).length 1 (.pointer (some ⟨K.kA, 0, none⟩)) (up_app _ two_q) rfl
    rw [List.set_append_left _ _ (by rw [List.length_append]; simp), two_set] at E6
    refine ⟨_, es, Fin.of (hQ k13 (V.w rt) K U vt r _ Rj ⟨?_, S1.o, S1.R, S1.O, S1.a⟩)⟩
    rw [List.append_assoc, List.append_assoc] at E6
    rw [List.append_assoc]
    exact E6.dropMid
end
end Go.Proofs.YtgldgabefiialaaGreat.H
namespace Go.Proofs.YtgldgabefiialaaGreat.H
open Go Go.RowKit
set_option linter.unusedVariables false
set_option maxRecDepth 100000
theorem noteA_new {v : VV} {rs : List RE} {st k i : Int} (h : ∀ e ∈ rs, ¬ (e.1 = k ∧ e.2.1 = i)) (hv : verOf v k i ≤ st) : noteA v rs st k i = (true, rs ++ [(k, i, verOf v k i)], st) := by
  unfold noteA; rw [fE_none.2 h]; simp only; rw [if_neg (by omega)]
theorem noteA_old {v : VV} {rs : List RE} {st k i w : Int} (h : fE rs k i = some w) (hv : w ≠ verOf v k i) : noteA v rs st k i = (false, rs, st) := by
  unfold noteA; rw [h]; simp only [beq_eq_false_iff_ne.2 hv]
theorem load_new {v : VV} {s : AV} {i : Int} (hi : inC i = true) (hd : s.s.d = []) (h : ∀ e ∈ s.rs, ¬ (e.1 = 0 ∧ e.2.1 = i)) (hv : verOf v 0 i ≤ s.st) : loadA v s i = ({ s with rs := s.rs ++ [(0, i, verOf v 0 i)] }, (cellAt_int v.c i).1, 0) := by
  have hn := noteA_new h hv
  have e1 : noteE v s 0 i = 0 := by unfold noteE; rw [hn]; rfl
  have e2 : noteS v s 0 i = { s with rs := s.rs ++ [(0, i, verOf v 0 i)] } := by unfold noteS; rw [hn]
  have e3 : atD s.s.d i = none := by rw [hd]; rfl
  unfold loadA
  rw [if_pos hi, e3]
  simp only [e1, e2, if_true]
theorem load_old {v : VV} {s : AV} {i w : Int} (hi : inC i = true) (hd : s.s.d = []) (h : fE s.rs 0 i = some w) (hv : w ≠ verOf v 0 i) : loadA v s i = (s, 0, 9) := by
  have hn := noteA_old (st := s.st) h hv
  have e1 : noteE v s 0 i = 9 := by unfold noteE; rw [hn]; rfl
  have e2 : noteS v s 0 i = s := by unfold noteS; rw [hn]
  have e3 : atD s.s.d i = none := by rw [hd]; rfl
  unfold loadA
  rw [if_pos hi, e3]
  simp only [e1, e2, if_neg (show ¬ (9 : Int) = 0 by decide)]
theorem verC (v : VV) (i : Int) : verOf v 0 i = (cellAt_int v.c i).2 := rfl
section
variable {B : RO} {h0 h h' : Heap} {L M : List (Option (Nat × AObj))} {V : VI} {v : VV} {K K1 K2 : AK} {U U1 U2 : AU} {s s1 s2 : AV} {k : Nat} {i j : Int} {c : StV} {g : Reg4} {o o' : AObj} {y z : Option (Nat × AObj)}
theorem runC {kr kV : Nat} {tA : Option Addr} {vd vt : Value} {r : Option (Nat × AObj)} {N : List (Option (Nat × AObj))} (E : Keep B h0 ((L ++ [some (kr, runO kV tA vd vt), r]) ++ N) h) : h kr = some (runO kV tA vd vt) := E.at L.length (up_app _ two_q)
theorem Reads.none : Reads B h none 4 DeedR.cells [] := fun i x hx => by cases hx
theorem AttemptStale_wp {i k x y : Int} {Q : Bool → Heap → Prop} (hQ : ∀ h', Keep B h [] h' → Q true h') : C_countermandlaw20_AttemptStale B i k x y h Q := by
  refine C_countermandlaw20_AttemptStale.of ?_
  unfold S_countermandlaw20_AttemptStale
  refine alive20_wp fun h6 E0 => ⟨fun _ => ?_, fun e => by cases e⟩
  have out := hQ _ E0
  refine ⟨fun _ => Fin.of out, fun h1 => ⟨fun _ => Fin.of out, fun h2 => ⟨fun _ => Fin.of out, fun h3 => ⟨fun _ => Fin.of out, fun h4 => ⟨fun _ => Fin.of out, fun h5 => Fin.of ?_⟩⟩⟩⟩⟩
  clear out
  have hi : inC i = true := decide_eq_true (by omega)
  have hk : inC k = true := decide_eq_true (by omega)
  unfold S_countermandlaw20_AttemptStale_J1
  refine start_wp (ds := []) (g := ⟨0, 0, 0, 0⟩) E0 (fun _ _ => Reads.none) (by decide) fun kr V K U vt r h10 R S => ?_
  replace S : SS B h ([] ++ [some (kr, runO V.kV (some ⟨K.kA, 0, none⟩) (.slice none 0 0) vt), r]) h10 V vz K U (s0 vz ⟨0, 0, 0, 0⟩) := S
  replace R : TRow r vt [vz] := R
  have e1 : loadA vz (s0 vz ⟨0, 0, 0, 0⟩) i = (⟨[(0, i, 0)], 0, StV.z, ⟨0, 0, 0, 0⟩⟩, 0, 0) := by
    rw [load_new hi rfl (fun e he => by cases he) (by rw [verC, show vz.c = List.replicate 8 (0, 0) from rfl, cell_rep]; decide), verC, show vz.c = List.replicate 8 (0, 0) from rfl, cell_rep]; rfl
  refine ⟨_, rfl, _, cellH_vec (runC S.E) rfl, load_wp (v := vz) S (Nat.zero_le _) fun U1 h53 _ S1 => ?_⟩
  rw [e1] at S1 ⊢
  refine ⟨fun _ => ⟨fun _ => Fin.of ?_, fun e => absurd rfl e⟩, fun e => absurd rfl e⟩
  unfold S_countermandlaw20_AttemptStale_J2
  refine S1.other (d := ⟨1, i, x, 0⟩) R (by decide) ⟨by decide, by decide⟩ fun rt1 vt1 r1 h14 R1 S2 => ?_
  rw [other_store hi] at R1 S2
  have v1c : ∀ q, cellAt_int (vz.c.set i.toNat (x, vz.t + 1)) q = if q = i then (x, 1) else (0, 0) := fun q => by
    rw [ver_set (v := vz) (f := []) (ts := []) (l := []) (t' := 0) rfl hi, show vz.c = List.replicate 8 (0, 0) from rfl, cell_rep]; rfl
  refine ⟨_, rfl, _, cellH_vec (runC S2.E) rfl, avalid_wp S2 (Nat.le_of_ble_eq_true rfl) fun h18 S3 => ?_⟩
  have hv : vld ⟨vz.c.set i.toNat (x, vz.t + 1), vz.f, vz.ts, vz.l, vz.t + 1⟩ [(0, i, 0)] = false := by
    unfold vld; simp only [List.all_cons, List.all_nil, Bool.and_true]
    rw [verC, v1c, if_pos rfl]; rfl
  refine ⟨fun e => (by rw [hv] at e; cases e), fun _ => ?_⟩
  have e2 : loadA ⟨vz.c.set i.toNat (x, vz.t + 1), vz.f, vz.ts, vz.l, vz.t + 1⟩ ⟨[(0, i, 0)], 0, StV.z, ⟨0, 0, 0, 0⟩⟩ k = (⟨[(0, i, 0), (0, k, 0)], 0, StV.z, ⟨0, 0, 0, 0⟩⟩, 0, 0) := by
    have hvk : verOf ⟨vz.c.set i.toNat (x, vz.t + 1), vz.f, vz.ts, vz.l, vz.t + 1⟩ 0 k = 0 := by rw [verC, v1c, if_neg (fun e => h5 e.symm)]
    rw [load_new hk rfl (fun e he => by simp only [List.mem_singleton] at he; subst he; exact fun hh => h5 hh.2) (by rw [hvk]; exact Int.le_refl 0), hvk, v1c, if_neg (fun e => h5 e.symm)]; rfl
  refine ⟨_, rfl, _, cellH_vec (runC S3.E) rfl, load_wp S3 (Nat.le_of_ble_eq_true rfl) fun U4 h23 _ S4 => ?_⟩
  rw [e2] at S4 ⊢
  refine SS.other (V := V.w rt1) (L := []) (tA := some ⟨K.kA, 0, none⟩) (vd := .slice none 0 0) S4 (d := ⟨1, k, y, 0⟩) R1 (Nat.le_of_ble_eq_true rfl) (show (0 : Int) ≤ 1 ∧ (1 : Int) < 1000000000 by decide) fun rt2 vt2 r2 h26 R2 S5 => ?_
  rw [other_store hk] at R2 S5
  have v2c : ∀ q, cellAt_int ((vz.c.set i.toNat (x, vz.t + 1)).set k.toNat (y, vz.t + 1 + 1)) q = if q = k then (y, 2) else if q = i then (x, 1) else (0, 0) := fun q => by
    rw [ver_set (v := ⟨vz.c.set i.toNat (x, vz.t + 1), vz.f, vz.ts, vz.l, vz.t + 1⟩) (f := []) (ts := []) (l := []) (t' := 0) (by rw [List.length_set]; rfl) hk, v1c]; rfl
  generalize hv2 : (⟨(vz.c.set i.toNat (x, vz.t + 1)).set k.toNat (y, vz.t + 1 + 1), vz.f, vz.ts, vz.l, vz.t + 1 + 1⟩ : VV) = v2 at S5
  have c2 : ∀ q, cellAt_int v2.c q = if q = k then (y, 2) else if q = i then (x, 1) else (0, 0) := fun q => by rw [← hv2]; exact v2c q
  have t2 : v2.t = 2 := by rw [← hv2]; rfl
  have e3 : loadA v2 ⟨[(0, i, 0), (0, k, 0)], 0, StV.z, ⟨0, 0, 0, 0⟩⟩ k = (⟨[(0, i, 0), (0, k, 0)], 0, StV.z, ⟨0, 0, 0, 0⟩⟩, 0, 9) := by
    refine load_old (w := 0) hk rfl ?_ (by rw [verC, c2, if_pos rfl]; exact (by decide : (0 : Int) ≠ 2))
    exact fE_at (p := 1) (e := (0, k, 0)) rfl ⟨rfl, rfl⟩ fun q e' hq he => by
      obtain rfl : q = 0 := by omega
      cases he
      exact fun hh => h5 hh.2
  have e4 : loadA v2 ⟨[(0, i, 0), (0, k, 0)], 0, StV.z, ⟨0, 0, 0, 0⟩⟩ i = (⟨[(0, i, 0), (0, k, 0)], 0, StV.z, ⟨0, 0, 0, 0⟩⟩, 0, 9) := by
    refine load_old (w := 0) hi rfl ?_ (by rw [verC, c2, if_neg (fun e => h5 e), if_pos rfl]; exact (by decide : (0 : Int) ≠ 1))
    exact fE_at (p := 0) (e := (0, i, 0)) rfl ⟨rfl, rfl⟩ fun q e' hq he => by omega
  refine ⟨_, rfl, _, cellH_vec (runC S5.E) rfl, load_wp S5 (Nat.le_of_ble_eq_true rfl) fun U6 h30 _ S6 => ?_⟩
  rw [e3] at S6 ⊢
  refine ⟨_, rfl, _, cellH_vec (runC S6.E) rfl, load_wp S6 (Nat.le_of_ble_eq_true rfl) fun U7 h36 _ S7 => ?_⟩
  rw [e4] at S7 ⊢
  refine ⟨fun _ => ⟨fun _ => ⟨fun _ => ⟨fun _ => ?_, fun e => absurd rfl e⟩, fun e => absurd rfl e⟩, fun e => absurd rfl e⟩, fun e => absurd rfl e⟩
  refine ⟨_, rfl, _, cellH_vec (runC S7.E) rfl, land_wp S7 (Nat.le_of_ble_eq_true rfl) (by rw [t2]; decide) (fun hT => ?_) (fun hF h42 S8 => ⟨fun e => (by cases e), fun _ => ⟨_, rfl, _, cellH_vec (runC S8.E) rfl, _, rfl, v2.t, S8.E.cM 0 rfl (i := 3) rfl, Fin.of ?_⟩⟩)⟩
  · exfalso
    unfold vld at hT
    simp only [List.all_cons, List.all_nil, Bool.and_true, Bool.and_eq_true, decide_eq_true_eq] at hT
    rw [verC, c2, if_neg (fun e => h5 e), if_pos rfl] at hT
    exact absurd (show (1 : Int) = 0 from hT.1) (by decide)
  · rw [t2]
    exact hQ _ (by have := S8.E.take 0; simpa using this)
end
theorem AttemptStale_calls (W : World) (i : Int) (wi : (Lit.int .i64 i).wf = true) (k : Int) (wk : (Lit.int .i64 k).wf = true) (x : Int) (wx : (Lit.int .i64 x).wf = true) (y : Int) (wy : (Lit.int .i64 y).wf = true) :
    Calls PG FN.countermandlaw20_AttemptStale #[.int .i64 i, .int .i64 k, .int .i64 x, .int .i64 y] W fun e w' => e = .returned (.bool true) ∧ Below W.heap.size W w' := by
  refine Spec.calls (Spec.mono (AttemptStale_wp (Q := fun b _ => b = true) fun _ _ => rfl) ?_)
  rintro v h' ⟨b, rfl, rfl⟩
  rfl
end Go.Proofs.YtgldgabefiialaaGreat.H
