/- What the law's proof stands on, part 4. No condition. -/
import Derived.Test.YtcncdfmnpmmikaaG3
namespace Go.Proofs.Ytcncdfmnpmmikaa.H
open Go
set_option linter.unusedVariables false
set_option maxRecDepth 100000
abbrev FileS := Bool × ByteArray
def slotF (x : FileS × Int) : List Value := [.bool x.1.1, .string x.1.2, .int .i64 x.2]
theorem slotF_len (x : FileS × Int) : (slotF x).length = 3 := rfl
theorem slotF_one (x : FileS × Int) : ∀ y ∈ slotF x, isOne y = true := fun y hy => by simp [slotF] at hy; rcases hy with rfl | rfl | rfl <;> rfl
theorem TK.slc_fslot : slcB PG TY.s_cell_slot_file_File = some (TY.cell_slot_file_File, 3, 32) := by kernel_rfl
theorem TK.zero_fslot : zeroB PG TY.cell_slot_file_File = some [.bool false, .string ByteArray.empty, .int .i64 0] := by kernel_rfl
theorem TK.sl_fslot : slT PG TY.s_cell_slot_file_File = true := by kernel_rfl
def FRow (r : Option (Nat × AObj)) (v : Value) (l : List (FileS × Int)) : Prop := Row r v TY.cell_slot_file_File 3 (l.flatMap slotF)
def frO (v : Value) : AObj := .vec TY.cell_Row_file_File (plains [v]) 1
def tomO (kR : Nat) : AObj := .vec TY.tome_Tome (plains [.pointer (some ⟨kR, 0, none⟩)]) 1
def fileAt (l : List (FileS × Int)) (i : Int) : FileS × Int := if 0 ≤ i then (l[i.toNat]?).getD ((false, ByteArray.empty), 0) else ((false, ByteArray.empty), 0)
theorem fileAt_in {l : List (FileS × Int)} {i : Int} (h0 : 0 ≤ i) (h1 : i.toNat < l.length) : fileAt l i = l[i.toNat] := by
  rw [fileAt, if_pos h0, List.getElem?_eq_getElem h1]; rfl
theorem fileAt_out {l : List (FileS × Int)} {i : Int} (hn : ¬ (0 ≤ i ∧ i < (l.length : Int))) : fileAt l i = ((false, ByteArray.empty), 0) := by
  unfold fileAt
  split
  · rw [List.getElem?_eq_none (by omega)]; rfl
  · rfl
section
variable {B : RO} {h0 h h' : Heap} {L : List (Option (Nat × AObj))} {r : Option (Nat × AObj)} {i kT kR : Nat} {v : Value} {l : List (FileS × Int)}
theorem fnew_wp {n : Int} {b : Bool} {s : ByteArray} {Q : Option Addr → Heap → Prop} (hn : n ≤ 1000)
    (hQ : ∀ k v r h', FRow r v (List.replicate n.toNat ((b, s), 0)) → Keep B h [some (k, frO v), r] h' → Q (some ⟨k, 0, none⟩) h') : C_cell_New_file_File B n b s h Q := by
  refine C_cell_New_file_File.of ?_
  unfold S_cell_New_file_File
  intro k5 a5 b5 h6 e6 k7 a7 b7 h8 e8
  have E := ((Keep.nil B h).made a5 b5 e6).made a7 b7 e8
  refine ⟨fun i m h' => ∃ (j : Nat) (v : Value) (r : Option (Nat × AObj)), (j : Int) ≤ max n 0 ∧ i = j ∧ m = n.toNat - j ∧ FRow r v (List.replicate j ((b, s), 0)) ∧ Keep B h [some (k5, .vec TY.file_File (plains [.bool b, .string s]) 2), some (k7, frO v), r] h', n.toNat, Fin.of ⟨0, _, none, by omega, rfl, by omega, Row.nil _ _, E.gap⟩, ?_⟩
  clear E e8 e6
  rintro _ _ h10 ⟨j, v, r, hj, rfl, rfl, R, E⟩
  refine ⟨fun hlt => ?_, fun hge => Fin.of ?_⟩
  · obtain ⟨a20, n21, c22, rfl⟩ := Row.slice R
    have hfl := flatMap_length slotF_len (List.replicate j ((b, s), (0 : Int)))
    rw [List.length_replicate] at hfl
    refine ⟨a20, n21, c22, E.cell 1 rfl rfl, _, _, ⟨E.cell 0 rfl rfl, E.cell 0 rfl rfl, trivial⟩, fun k28 a28 b28 h29 e29 => ?_⟩
    have E1 := E.made a28 b28 e29
    refine ⟨E1.cell 1 rfl rfl, ⟨E1.cell 0 rfl rfl, E1.cell 0 rfl rfl, trivial⟩, ?_⟩
    refine E.push1 2 rfl R TK.slc_fslot TK.zero_fslot rfl (by omega) (by omega) TK.sl_fslot rfl (by simp [isOne]) (by rw [hfl]; simp; omega) a28 b28 e29 fun a' m' c' r' h' R' E' => ?_
    obtain ⟨es, E2⟩ := E'.store 1 0 (.slice a' m' c') rfl rfl
    refine ⟨a', m', c', rfl, E'.cell 1 rfl rfl, ⟨E'.cell 0 rfl rfl, E'.cell 0 rfl rfl, trivial⟩, _, es, Fin.of ⟨n.toNat - (j + 1), by omega, j + 1, _, r', by omega, ?_, rfl, ?_, E2⟩⟩
    · rw [w64 (by omega) (by omega)]; omega
    · unfold FRow
      rw [List.replicate_succ', List.flatMap_append]
      exact R'
  · have : j = n.toNat := by omega
    subst this
    exact hQ _ _ _ _ R (E.sub2 1 2 rfl rfl)
structure FAt (L : List (Option (Nat × AObj))) (i : Nat) (kR : Nat) (v : Value) (r : Option (Nat × AObj)) : Prop where
  p : L[i]? = some (some (kR, frO v))
  q : L[i + 1]? = some r
theorem fis_wp {n : Int} {Q : Bool → Heap → Prop} (E : Keep B h0 L h) (A : FAt L i kR v r) (R : FRow r v l) (hQ : Q (decide (0 ≤ n ∧ n < (l.length : Int))) h) : C_cell_Row_file_File_is B (some ⟨kR, 0, none⟩) n h Q := by
  refine C_cell_Row_file_File_is.of ?_
  unfold S_cell_Row_file_File_is
  obtain ⟨a, m, c, rfl⟩ := Row.slice R
  obtain ⟨rfl, -⟩ := Row.rd (B := B) R slotF_len (by omega)
  refine ⟨fun e => (by cases e), fun _ => ⟨fun h1 => ⟨_, rfl, .inl ⟨a, _, c, E.cell i A.p rfl, Fin.of ?_⟩⟩, fun h1 => Fin.of ?_⟩⟩
  · have : decide (n < (l.length : Int)) = decide (0 ≤ n ∧ n < (l.length : Int)) := by rw [decide_eq_decide]; exact ⟨fun x => ⟨by omega, x⟩, fun x => x.2⟩
    rw [this]; exact hQ
  · rw [decide_eq_false (by omega)] at hQ; exact hQ
theorem fset_wp {n ver : Int} {b : Bool} {s : ByteArray} {Q : Bool → Heap → Prop} (E : Keep B h0 L h) (A : FAt L i kR v r) (R : FRow r v l)
    (hF : ¬ (0 ≤ n ∧ n < (l.length : Int)) → ∀ h', Keep B h0 L h' → Q false h') (hT : 0 ≤ n → n.toNat < l.length → ∀ r' h', FRow r' v (l.set n.toNat ((b, s), ver)) → Keep B h0 (L.set (i + 1) r') h' → Q true h') : C_cell_Row_file_File_Set B (some ⟨kR, 0, none⟩) n b s ver h Q := by
  refine C_cell_Row_file_File_Set.of ?_
  unfold S_cell_Row_file_File_Set
  intro k7 a7 b7 h8 e8
  have E1 := E.made a7 b7 e8
  let o7 : AObj := .vec TY.file_File (plains [.bool b, .string s]) 2
  have A1 : FAt (L ++ [some (k7, o7)]) i kR v r := ⟨up_app _ A.p, up_app _ A.q⟩
  have E1 : Keep B h0 (L ++ [some (k7, o7)]) h8 := E1
  refine fis_wp E1 A1 R ⟨fun hD => ?_, fun hD => Fin.of (hF (by simpa using hD) _ E1.pop)⟩
  rw [decide_eq_true_eq] at hD
  obtain ⟨a, m, c, rfl⟩ := Row.slice R
  obtain ⟨rfl, -⟩ := Row.rd (B := B) R slotF_len (by omega)
  obtain ⟨A18, h20, r', e1, st, R', E2⟩ := E1.rowSet (i + 1) A1.q R slotF_len (by omega) n.toNat (by omega) ((b, s), ver) (slotF_one _)
  have g := E1.last
  refine ⟨_, rfl, a, _, c, E1.cell i A1.p rfl, _, _, ⟨cellH_vec g rfl, cellH_vec g rfl, trivial⟩, A18, e1, hD.1, hD.2, h20, st, Fin.of (hT hD.1 (by omega) r' h20 R' ?_)⟩
  rw [List.set_append_left _ _ (List.getElem?_eq_some_iff.1 A.q).1] at E2
  exact E2.pop
theorem fget_wp {n : Int} {Q : Bool → ByteArray → Int → Heap → Prop} (E : Keep B h0 L h) (A : FAt L i kR v r) (R : FRow r v l)
    (hQ : ∀ h', Keep B h0 L h' → Q (fileAt l n).1.1 (fileAt l n).1.2 (fileAt l n).2 h') : C_cell_Row_file_File_Get B (some ⟨kR, 0, none⟩) n h Q := by
  refine C_cell_Row_file_File_Get.of ?_
  unfold S_cell_Row_file_File_Get
  intro k6 a6 b6 h7 e7
  have E1 := E.made a6 b6 e7
  have g := E1.last
  have A1 : FAt (L ++ [some (k6, AObj.vec TY.file_File (plains [.bool false, .string ByteArray.empty]) 2)]) i kR v r := ⟨up_app _ A.p, up_app _ A.q⟩
  refine fis_wp E1 A1 R ⟨fun hD => ?_, fun hD => ?_⟩
  · rw [decide_eq_true_eq] at hD
    obtain ⟨a, m, c, rfl⟩ := Row.slice R
    obtain ⟨rfl, hrd⟩ := Row.rd (B := B) R slotF_len (by omega)
    have hi : n.toNat < l.length := by omega
    obtain ⟨A27, e1, _, q1, q2, q3, _⟩ := hrd h7 (fun k o e => E1.at (i + 1) (by rw [A1.q, e])) n.toNat _ (List.getElem?_eq_getElem hi)
    have hf := hQ
    rw [fileAt_in hD.1 hi] at hf
    have q3' : cellH B h7 (Addr.add (Addr.add A27 (n.toNat * 3)) 2) = some (.int .i64 l[n.toNat].2) := q3
    refine ⟨_, rfl, a, _, c, E1.cell i A1.p rfl, A27, e1, hD.1, hD.2, _, _, ⟨q1, q2, trivial⟩, _, rfl, a, _, c, E1.cell i A1.p rfl, A27, e1, hD.1, hD.2, _, q3', ?_⟩
    refine ⟨_, stores_whole g rfl (by simp) (by simp [isOne]) (by simp), ?_⟩
    have E2 := E1.putLast (.vec TY.file_File (plains [.bool l[n.toNat].1.1, .string l[n.toNat].1.2]) 2)
    have A2 : FAt (L ++ [some (k6, AObj.vec TY.file_File (plains [.bool l[n.toNat].1.1, .string l[n.toNat].1.2]) 2)]) i kR (.slice a l.length c) r := ⟨up_app _ A.p, up_app _ A.q⟩
    obtain ⟨A', e1', _, t1, t2, t3, _⟩ := hrd _ (fun k o e => E2.at (i + 1) (by rw [A2.q, e])) n.toNat _ (List.getElem?_eq_getElem hi)
    rw [e1] at e1'
    cases e1'
    refine ⟨E2.cell i A2.p rfl, ⟨t1, t2, trivial⟩, E2.cell i A2.p rfl, t3, _, _, ⟨cellH_vec E2.last rfl, cellH_vec E2.last rfl, trivial⟩, Fin.of (hf _ E2.pop)⟩
  · rw [decide_eq_false_iff_not] at hD
    rw [fileAt_out hD] at hQ
    intro k10 a10 b10 h11 e11
    have E2 := E1.made a10 b10 e11
    have g2 := E2.last
    refine ⟨_, _, ⟨cellH_vec g2 rfl, cellH_vec g2 rfl, trivial⟩, ?_⟩
    have g6 : h11 k6 = some (.vec TY.file_File (plains [.bool false, .string ByteArray.empty]) 2) := E2.at L.length (by rw [List.append_assoc, List.getElem?_append_right (Nat.le_refl _), Nat.sub_self]; rfl)
    refine ⟨_, stores_whole g6 rfl (by simp) (by simp [isOne]) (by simp), ?_⟩
    have E3 : Keep B h0 L (h11.set k6 (.vec TY.file_File (plains [.bool false, .string ByteArray.empty]) 2)) := by
      rw [Heap.set_self _ _ _ g6]
      exact E2.pop.pop
    exact ⟨_, _, ⟨cellH_vec (Heap.set_same _ _ _) rfl, cellH_vec (Heap.set_same _ _ _) rfl, trivial⟩, Fin.of (hQ _ E3)⟩
structure TomeAt (L : List (Option (Nat × AObj))) (i kT kR : Nat) (v : Value) (r : Option (Nat × AObj)) : Prop where
  p : L[i]? = some (some (kT, tomO kR))
  f : FAt L (i + 1) kR v r
def tomE (kT kR : Nat) (v : Value) (r : Option (Nat × AObj)) : List (Option (Nat × AObj)) := [some (kT, tomO kR), some (kR, frO v), r]
def goodF (b : Bool) (s : ByteArray) : Bool := decide (s.size ≤ 32) && (b || decide (s = ByteArray.mk #[]))
theorem goodF_wp {b : Bool} {s : ByteArray} {Q : Bool → Heap → Prop} (hQ : ∀ h', Wk B h h' → Q (goodF b s) h') : C_file_Good B b s h Q := by
  refine C_file_Good.of ?_
  unfold S_file_Good
  intro k4 a4 b4 h5 e5
  have w : Wk B h h5 := by rw [e5]; exact Wk.new a4 b4
  have g : h5 k4 = some (.vec TY.file_File (plains [.bool b, .string s]) 2) := by rw [e5]; exact Heap.set_same _ _ _
  have hq := hQ h5 w
  unfold goodF at hq
  refine ⟨_, cellH_vec g rfl, fun h1 => ⟨_, cellH_vec g rfl, fun hb => Fin.of ?_, fun hb => ⟨_, cellH_vec g rfl, Fin.of ?_⟩⟩, fun h1 => Fin.of ?_⟩
  · subst hb
    rw [decide_eq_true (by omega)] at hq; exact hq
  · subst hb
    rw [decide_eq_true (by omega)] at hq; exact hq
  · rw [decide_eq_false (by omega)] at hq; exact hq
def setB (l : List (FileS × Int)) (n : Int) (b : Bool) (s : ByteArray) : Bool := goodF b s && decide (0 ≤ n ∧ n < (l.length : Int))
def setF (l : List (FileS × Int)) (n : Int) (b : Bool) (s : ByteArray) (ver : Int) : List (FileS × Int) := if setB l n b s = true then l.set n.toNat ((b, s), ver) else l
theorem setF_len (l : List (FileS × Int)) (n : Int) (b : Bool) (s : ByteArray) (ver : Int) : (setF l n b s ver).length = l.length := by unfold setF; split <;> simp
theorem tset_wp {n ver : Int} {b : Bool} {s : ByteArray} {Q : Bool → Heap → Prop} (E : Keep B h0 L h) (A : TomeAt L i kT kR v r) (R : FRow r v l)
    (hQ : ∀ r' h', FRow r' v (setF l n b s ver) → Keep B h0 (L.set (i + 2) r') h' → Q (setB l n b s) h') : C_tome_Tome_Set B (some ⟨kT, 0, none⟩) n b s ver h Q := by
  refine C_tome_Tome_Set.of ?_
  unfold S_tome_Tome_Set
  intro k7 a7 b7 h8 e8
  have E1 := E.made a7 b7 e8
  have g7 := E1.last
  have no : setB l n b s = false → ∀ h', Keep B h0 L h' → Q false h' := fun hn h' E' => by
    have h1 : setF l n b s ver = l := by rw [setF, hn]; rfl
    have h2 : L.set (i + 2) r = L := by
      obtain ⟨hl, rfl⟩ := List.getElem?_eq_some_iff.1 A.f.q
      exact List.set_getElem_self hl
    have := hQ r h' (by rw [h1]; exact R) (by rw [h2]; exact E')
    rw [hn] at this; exact this
  refine ⟨fun e => (by cases e), fun _ => ⟨_, _, ⟨cellH_vec g7 rfl, cellH_vec g7 rfl, trivial⟩, goodF_wp fun h18 w => ?_⟩⟩
  have E2 := E1.wk w
  have g := E2.last
  refine ⟨fun hg => ?_, fun hg => ?_⟩
  · have A2 : FAt (L ++ [some (k7, AObj.vec TY.file_File (plains [.bool b, .string s]) 2)]) (i + 1) kR v r := ⟨up_app _ A.f.p, up_app _ A.f.q⟩
    have hset : C_cell_Row_file_File_Set B (some ⟨kR, 0, none⟩) n b s ver h18 (fun b28 h27 => CellsAt B h27 ⟨k7, 0, none⟩ 0 [.bool b, .string s] ∧ Fin B h27 (Q b28)) := by
      refine fset_wp E2 A2 R (fun hn h' E' => ⟨⟨cellH_vec E'.last rfl, cellH_vec E'.last rfl, trivial⟩, Fin.of (no ?_ h' E'.pop)⟩) fun h1 h2 r' h' R' E' => ?_
      · rw [setB, decide_eq_false hn, Bool.and_false]
      · rw [List.set_append_left _ _ (List.getElem?_eq_some_iff.1 A.f.q).1] at E'
        have hb : setB l n b s = true := by rw [setB, hg, decide_eq_true ⟨h1, by omega⟩]; rfl
        have := hQ r' h' (by rw [setF, if_pos hb]; exact R') E'.pop
        rw [hb] at this
        exact ⟨⟨cellH_vec E'.last rfl, cellH_vec E'.last rfl, trivial⟩, Fin.of this⟩
    refine ⟨⟨cellH_vec g rfl, cellH_vec g rfl, trivial⟩, _, rfl, ⟨_, E2.cell i (up_app _ A.p) rfl, _, _, ⟨cellH_vec g rfl, cellH_vec g rfl, trivial⟩, hset⟩, ⟨_, _, ⟨cellH_vec g rfl, cellH_vec g rfl, trivial⟩, _, E2.cell i (up_app _ A.p) rfl, hset⟩⟩
  · have hn : setB l n b s = false := by rw [setB, hg]; rfl
    exact ⟨⟨cellH_vec g rfl, cellH_vec g rfl, trivial⟩, Fin.of (no hn _ E2.pop), Fin.of (no hn _ E2.pop)⟩
theorem tget_wp {n : Int} {Q : Bool → ByteArray → Int → Heap → Prop} (E : Keep B h0 L h) (A : TomeAt L i kT kR v r) (R : FRow r v l)
    (hQ : ∀ h', Keep B h0 L h' → Q (fileAt l n).1.1 (fileAt l n).1.2 (fileAt l n).2 h') : C_tome_Tome_Get B (some ⟨kT, 0, none⟩) n h Q := by
  refine C_tome_Tome_Get.of ?_
  unfold S_tome_Tome_Get
  intro k6 a6 b6 h7 e7
  have E1 := E.made a6 b6 e7
  refine ⟨fun e => (by cases e), fun _ => ⟨_, rfl, _, E1.cell i (up_app _ A.p) rfl, ?_⟩⟩
  refine fget_wp E1 ⟨up_app _ A.f.p, up_app _ A.f.q⟩ R fun h15 E2 => ?_
  refine ⟨_, stores_whole E2.last rfl (by simp) (by simp [isOne]) (by simp), ?_⟩
  have E3 := E2.putLast (.vec TY.file_File (plains [.bool (fileAt l n).1.1, .string (fileAt l n).1.2]) 2)
  exact ⟨_, _, ⟨cellH_vec E3.last rfl, cellH_vec E3.last rfl, trivial⟩, Fin.of (hQ _ E3.pop)⟩
theorem tnew_wp {Q : Option Addr → Heap → Prop} (hQ : ∀ kT kR v r h', FRow r v (List.replicate 6 ((false, ByteArray.empty), 0)) → Keep B h (tomE kT kR v r) h' → Q (some ⟨kT, 0, none⟩) h') : C_tome_New B h Q := by
  refine C_tome_New.of ?_
  unfold S_tome_New
  refine fnew_wp (by decide) fun kR v r h2 R E => ?_
  intro k4 a4 b4 h5 e5
  have E1 := E.made a4 b4 e5
  exact Fin.of (hQ k4 kR v r h5 R (E1.sub3 2 0 1 rfl rfl rfl))
end
end Go.Proofs.Ytcncdfmnpmmikaa.H
namespace Go.Proofs.Ytcncdfmnpmmikaa.H
open Go
set_option linter.unusedVariables false
set_option maxRecDepth 100000
theorem TK.slc_bytes : slcB PG TY.s_uint8 = some (TY.uint8, 1, 1) := by kernel_rfl
theorem TK.zero_byte : zeroB PG TY.uint8 = some [.int .u8 0] := by kernel_rfl
theorem TK.sl_bytes : slT PG TY.s_uint8 = true := by kernel_rfl
theorem TK.str : isStr PG TY.string = true := by kernel_rfl
section
variable {B : RO} {h : Heap}
theorem Addr.add_block (A : Addr) (i : Nat) : (A.add i).block = A.block := by unfold Addr.add; split <;> rfl
def stylO (bs : List UInt8) : AObj := .vec TY.stylus_Stylus [.own TY.uint8 1 (bs.map byteV)] 1
theorem natI_length {i : Int} (h : i ≤ 9223372036854775807) : (natI i).length ≤ 10 := by
  unfold natI; split
  · simp
  · exact natB_length (by omega)
theorem natsB_length : ∀ (l : List Int), (∀ n ∈ l, n ≤ 9223372036854775807) → (natsB l).length ≤ 10 * l.length
  | [], _ => by simp [natsB]
  | n :: l, h => by
    have h1 := natI_length (h n (by simp))
    have h2 := natsB_length l (fun m hm => h m (by simp [hm]))
    simp only [natsB, List.flatMap_cons, List.length_append, List.length_cons] at *
    omega
theorem natsB_one (n : Nat) : natsB [((n : Nat) : Int)] = natB n := by
  simp only [natsB, natI, List.flatMap_cons, List.flatMap_nil, List.append_nil]
  rw [if_neg (by omega)]; rfl
theorem natsB_take_succ (l : List Int) (k : Nat) (hk : k < l.length) : natsB (l.take (k + 1)) = natsB (l.take k) ++ natI l[k] := by
  unfold natsB; rw [List.take_succ_eq_append_getElem hk, List.flatMap_append, List.flatMap_cons, List.flatMap_nil, List.append_nil]
theorem stylus_byte {b : Nat} {bs : List UInt8} {x : Int} {u : UInt8} {K : Value → Heap → Prop} (hx : x = ((u.toNat : Nat) : Int)) (hb : h b = some (stylO bs)) (hbd : bs.length + 1 ≤ 1099511627776)
    (hK : ∀ a' n' c' h3 h4, storeH h3 ⟨b, 0, none⟩ (.slice a' n' c') = some h4 → Ent B h4 (h.set b (stylO (bs ++ [u]))) → K (.slice a' n' c') h3) :
    LdSl B h ⟨b, 0, none⟩ (fun a m c h1 => ∀ k, h1 k = none → B k = none → ∀ h2, h2 = Heap.set h1 k (.vec TY.uint8 (plains [.int .u8 x]) 1) → semH PG B (Builtin.append_ #[TY.s_uint8, TY.s_uint8] TY.s_uint8 #[.slice a m c, .slice (some ⟨k, 0, none⟩) 1 1]) h2 K) := by
  subst hx
  refine app_own (len := 1) (ys := [.int .u8 ((u.toNat : Nat) : Int)]) (xs := bs.map byteV) TK.slc_bytes TK.zero_byte rfl (by omega) (by omega) TK.sl_bytes hb rfl rfl (by simp [isOne]) (by simp; omega) ?_
  intro a' n' c' h3 h4 s1 s2
  refine hK a' n' c' h3 h4 s1 ?_
  simpa [stylO, byteV] using s2
theorem nat_wp {b c : Nat} {bs : List UInt8} {a : Option Addr} {ns : List Int} {Q : Heap → Prop} (hb : h b = some (stylO bs))
    (hr : ∀ i n, ns[i]? = some n → ∃ A, a = some A ∧ A.block ≠ b ∧ cellH B h (A.add i) = some (.int .i64 n))
    (hn : ∀ n ∈ ns, n ≤ 9223372036854775807) (hbd : bs.length + (ns.length + 1) * 20 ≤ 1099511627776)
    (hQ : Q (h.set b (stylO (bs ++ natsB ns)))) : C_stylus_Stylus_Nat B (some ⟨b, 0, none⟩) a ns.length c h Q := by
  refine C_stylus_Stylus_Nat.of ?_
  unfold S_stylus_Stylus_Nat
  have hset : ∀ k, natsB (ns.take k) = [] → True := fun _ _ => trivial
  refine ⟨fun i m h' => ∃ k : Nat, k ≤ ns.length ∧ i = k ∧ m = ns.length - k ∧ h' = h.set b (stylO (bs ++ natsB (ns.take k))), ns.length, Fin.of ⟨0, by omega, rfl, by omega, ?_⟩, ?_⟩
  · rw [List.take_zero, show natsB [] = [] from rfl, List.append_nil, Heap.set_self _ _ _ hb]
  · rintro i m h6 ⟨k, hk, rfl, rfl, rfl⟩
    refine ⟨fun hlt => ?_, fun hge => ?_⟩
    · have hk' : k < ns.length := by omega
      have hw : IntKind.wrap .i64 ((k : Int) + 1) = ((k + 1 : Nat) : Int) := by rw [w64 (by omega) (by omega)]; omega
      obtain ⟨A, e1, e2, e3⟩ := hr k ns[k] (List.getElem?_eq_getElem hk')
      have hle := natsB_length (ns.take k) (fun n hm => hn n (List.mem_of_mem_take hm))
      rw [List.length_take, Nat.min_eq_left hk] at hle
      have hnk := hn ns[k] (List.getElem_mem hk')
      refine ⟨A, e1, by omega, hlt, ns[k], ?_, fun hneg => ?_, fun hpos => ?_⟩
      · rw [cellH_set_ne (by rw [Addr.add_block]; exact e2)]
        simpa using e3
      · refine Fin.of ⟨ns.length - (k + 1), by omega, k + 1, by omega, hw, rfl, ?_⟩
        rw [natsB_take_succ ns k hk', natI, if_pos hneg, List.append_nil]
      · obtain ⟨v, hv⟩ := Int.eq_ofNat_of_zero_le (show 0 ≤ ns[k] by omega)
        have hnat : natI ns[k] = natB v := by rw [natI, if_neg hpos, hv]; rfl
        have hvl : (natB v).length ≤ 10 := natB_length (by omega)
        refine ⟨fun i m h' => ∃ (u : Nat) (pre : List UInt8), i = u ∧ u = m ∧ pre ++ natB u = natB v ∧ h' = h.set b (stylO (bs ++ natsB (ns.take k) ++ pre)), v, Fin.of ⟨v, [], hv, rfl, rfl, by rw [List.append_nil]⟩, ?_⟩
        rintro _ _ h35 ⟨u, pre, rfl, rfl, hpre, rfl⟩
        have hpl : pre.length ≤ 10 := by have := congrArg List.length hpre; simp only [List.length_append] at this; omega
        refine ⟨fun hge => ?_, fun hlt2 => ?_⟩
        · refine ⟨_, rfl, stylus_byte (bs := bs ++ natsB (ns.take k) ++ pre) (orByte u) (Heap.set_same _ _ _) (by simp only [List.length_append]; omega) ?_⟩
          intro a' n' c' h3 h4 s1 s2
          refine ⟨a', n', c', rfl, _, rfl, h4, s1, by decide, Fin.ent s2 (Fin.of ⟨u / 128, by omega, u / 128, pre ++ [UInt8.ofNat (u % 128 + 128)], shr7 u, rfl, ?_, ?_⟩)⟩
          · rw [← hpre, natB_hi (n := u) (by omega)]; simp
          · rw [Heap.set_set]; simp
        · refine Fin.of ?_
          unfold S_stylus_Stylus_Nat_J1
          refine ⟨_, rfl, stylus_byte (bs := bs ++ natsB (ns.take k) ++ pre) (lowByte (v := u) (by omega)) (Heap.set_same _ _ _) (by simp only [List.length_append]; omega) ?_⟩
          intro a' n' c' h3 h4 s1 s2
          refine ⟨a', n', c', rfl, _, rfl, h4, s1, Fin.ent s2 (Fin.of ⟨ns.length - (k + 1), by omega, k + 1, by omega, hw, rfl, ?_⟩)⟩
          rw [Heap.set_set, natsB_take_succ ns k hk', hnat, ← hpre, natB_lo (n := u) (by omega)]; simp
    · have : k = ns.length := by omega
      subst this
      refine Fin.of ?_
      rwa [List.take_length]
theorem raw_wp {b : Nat} {bs : List UInt8} {s : ByteArray} {Q : Heap → Prop} (hb : h b = some (stylO bs)) (hbd : bs.length + s.size ≤ 1099511627776)
    (hQ : Q (h.set b (stylO (bs ++ bl s)))) : C_stylus_Stylus_Raw B (some ⟨b, 0, none⟩) s h Q := by
  refine C_stylus_Stylus_Raw.of ?_
  unfold S_stylus_Stylus_Raw
  refine ⟨_, rfl, app_str TK.slc_bytes TK.zero_byte rfl (by omega) TK.str hb rfl (by simpa using hbd) ?_⟩
  intro a' n' c' h3 h4 s1 s2
  refine ⟨a', n', c', rfl, _, rfl, h4, s1, Fin.ent s2 (Fin.of ?_)⟩
  have : (fun c : UInt8 => Value.int .u8 c.toNat) = byteV := rfl
  simpa [stylO, bl, this] using hQ
theorem bytes_wp {b : Nat} {bs : List UInt8} {Q : ByteArray → Heap → Prop} (hb : h b = some (stylO bs)) (hQ : Q (ba bs) h) : C_stylus_Stylus_Bytes B (some ⟨b, 0, none⟩) h Q := by
  refine C_stylus_Stylus_Bytes.of ?_
  unfold S_stylus_Stylus_Bytes
  refine ⟨_, rfl, .inr ⟨_, _, _, _, _, _, rfl, hb, rfl, fun a m c h1 ho => ?_⟩⟩
  refine semH_convB (by kernel_rfl) ?_
  refine semH_bytesToString ho.row ⟨ba bs, rfl, Fin.ent (ho.back hb rfl) (Fin.of hQ)⟩
theorem text_wp {b c : Nat} {bs : List UInt8} {a : Option Addr} {ts : List ByteArray} {Q : Heap → Prop} (hb : h b = some (stylO bs))
    (hr : ∀ i s, ts[i]? = some s → ∃ A, a = some A ∧ A.block ≠ b ∧ cellH B h (A.add i) = some (.string s))
    (hbd : bs.length + (ts.map fun s => s.size + 50).sum ≤ 1099511627776)
    (hQ : Q (h.set b (stylO (bs ++ ts.flatMap fun s => natB s.size ++ bl s)))) : C_stylus_Stylus_Text B (some ⟨b, 0, none⟩) a ts.length c h Q := by
  refine C_stylus_Stylus_Text.of ?_
  unfold S_stylus_Stylus_Text
  have hlen : ∀ (l : List ByteArray), 50 * l.length ≤ (l.map fun s => s.size + 50).sum := by
    intro l; induction l with
    | nil => simp
    | cons s l ih => simp only [List.length_cons, List.map_cons, List.sum_cons]; omega
  have hsum : ∀ k (hk : k < ts.length), (ts.map fun s => s.size + 50).sum = ((ts.take k).map fun s => s.size + 50).sum + (ts[k].size + 50) + ((ts.drop (k + 1)).map fun s => s.size + 50).sum := by
    intro k hk
    have : ts = ts.take k ++ (ts[k] :: ts.drop (k + 1)) := by rw [← List.drop_eq_getElem_cons hk, List.take_append_drop]
    conv => lhs; rw [this]
    simp only [List.map_append, List.sum_append, List.map_cons, List.sum_cons]; omega
  have hfl : ∀ (l : List ByteArray), (∀ s ∈ l, s.size < 18446744073709551616) → (l.flatMap fun s => natB s.size ++ bl s).length ≤ (l.map fun s => s.size + 50).sum := by
    intro l; induction l with
    | nil => simp
    | cons s l ih =>
      intro hs
      have h1 := ih (fun x hx => hs x (by simp [hx]))
      have h2 := natB_length (hs s (by simp))
      simp only [List.flatMap_cons, List.length_append, List.map_cons, List.sum_cons, bl_length]; omega
  have hall : ∀ s ∈ ts, s.size < 1099511627777 := by
    intro s hs
    obtain ⟨k, hk, rfl⟩ := List.mem_iff_getElem.1 hs
    have := hsum k hk; omega
  refine ⟨fun i m h' => ∃ k : Nat, k ≤ ts.length ∧ i = k ∧ m = ts.length - k ∧ h' = h.set b (stylO (bs ++ (ts.take k).flatMap fun s => natB s.size ++ bl s)), ts.length, Fin.of ⟨0, by omega, rfl, by omega, ?_⟩, ?_⟩
  · rw [List.take_zero, List.flatMap_nil, List.append_nil, Heap.set_self _ _ _ hb]
  · rintro i m h6 ⟨k, hk, rfl, rfl, rfl⟩
    refine ⟨fun hlt => ?_, fun hge => ?_⟩
    · have hk' : k < ts.length := by omega
      have hl0 := hlen ts
      have hw : IntKind.wrap .i64 ((k : Int) + 1) = ((k + 1 : Nat) : Int) := by rw [w64 (by omega) (by omega)]; omega
      obtain ⟨A, e1, e2, e3⟩ := hr k ts[k] (List.getElem?_eq_getElem hk')
      have hle := hfl (ts.take k) (fun s hm => by have := hall s (List.mem_of_mem_take hm); omega)
      have hsk := hsum k hk'
      have hak := hall ts[k] (List.getElem_mem hk')
      refine ⟨A, e1, by omega, hlt, ts[k], ?_, fun k15 hk1 hk2 h16 e16 => ?_⟩
      · rw [cellH_set_ne (by rw [Addr.add_block]; exact e2)]
        simpa using e3
      · subst e16
        have hbk : b ≠ k15 := fun e => by rw [← e, Heap.set_same] at hk1; cases hk1
        have hb1 : ((h.set b (stylO (bs ++ (ts.take k).flatMap fun s => natB s.size ++ bl s))).set k15 (.vec TY.int (plains [.int .i64 ((ts[k].size : Nat) : Int)]) 1)) b = some (stylO (bs ++ (ts.take k).flatMap fun s => natB s.size ++ bl s)) := by
          rw [Heap.set_ne _ _ _ _ hbk, Heap.set_same]
        refine nat_wp (ns := [((ts[k].size : Nat) : Int)]) hb1 ?_ (by simp; omega) (by simp only [List.length_append, List.length_singleton]; omega) ?_
        · intro i n hi
          cases i with
          | zero =>
            cases hi
            exact ⟨_, rfl, Ne.symm hbk, cellH_vec (Heap.set_same _ _ _) rfl⟩
          | succ i => cases hi
        · have hnat : natsB [((ts[k].size : Nat) : Int)] = natB ts[k].size := natsB_one _
          have hnl := natB_length (n := ts[k].size) (by omega)
          refine raw_wp (Heap.set_same _ _ _) (by rw [hnat]; simp only [List.length_append]; omega) ?_
          refine Fin.ent (Ent.forget (h' := h.set b (stylO (bs ++ (ts.take (k + 1)).flatMap fun s => natB s.size ++ bl s))) ?_) (Fin.of ⟨ts.length - (k + 1), by omega, k + 1, by omega, hw, rfl, rfl⟩)
          intro c o hc
          rw [Heap.set_set]
          by_cases hcb : c = b
          · subst hcb
            rw [Heap.set_same] at hc ⊢
            rw [← hc, List.take_succ_eq_append_getElem hk', List.flatMap_append, hnat]
            simp
          · rw [Heap.set_ne _ _ _ _ hcb] at hc ⊢
            have hck : c ≠ k15 := fun e => by
              rw [e] at hc
              rw [Heap.set_ne _ _ _ _ (Ne.symm hbk)] at hk1
              rw [hk1] at hc; cases hc
            rw [Heap.set_ne _ _ _ _ hck, Heap.set_ne _ _ _ _ hcb]; exact hc
    · have : k = ts.length := by omega
      subst this
      refine Fin.of ?_
      rwa [List.take_length]
theorem styl_new {k : Nat} {hh : Heap} (e : hh k = some (.vec TY.stylus_Stylus (plains [Value.slice none 0 0]) 1)) : Ent B hh (hh.set k (stylO [])) :=
  Ent.close_nil (e := TY.uint8) (sz := 1) (i := 0) e rfl
theorem nat1_wp {b k c : Nat} {bs : List UInt8} {x : Int} {Q : Heap → Prop} (hb : h b = some (stylO bs)) (hk : h k = some (.vec TY.int (plains [.int .i64 x]) 1)) (hne : k ≠ b) (hx : x ≤ 9223372036854775807) (hbd : bs.length + 40 ≤ 1099511627776)
    (hQ : Q (h.set b (stylO (bs ++ natI x)))) : C_stylus_Stylus_Nat B (some ⟨b, 0, none⟩) (some ⟨k, 0, none⟩) 1 c h Q := by
  refine nat_wp (ns := [x]) hb ?_ (by simpa using hx) hbd (by simpa [natsB] using hQ)
  intro i n hi
  cases i with
  | zero => cases hi; exact ⟨_, rfl, hne, cellH_vec hk rfl⟩
  | succ i => cases hi
theorem text1_wp {b k c : Nat} {bs : List UInt8} {x : ByteArray} {Q : Heap → Prop} (hb : h b = some (stylO bs)) (hk : h k = some (.vec TY.string (plains [.string x]) 1)) (hne : k ≠ b) (hbd : bs.length + (x.size + 50) ≤ 1099511627776)
    (hQ : Q (h.set b (stylO (bs ++ (natB x.size ++ bl x))))) : C_stylus_Stylus_Text B (some ⟨b, 0, none⟩) (some ⟨k, 0, none⟩) 1 c h Q := by
  refine text_wp (ts := [x]) hb ?_ (by simpa using hbd) (by simpa using hQ)
  intro i n hi
  cases i with
  | zero => cases hi; exact ⟨_, rfl, hne, cellH_vec hk rfl⟩
  | succ i => cases hi
end
end Go.Proofs.Ytcncdfmnpmmikaa.H
namespace Go.Proofs.Ytcncdfmnpmmikaa.H
open Go
set_option linter.unusedVariables false
set_option maxRecDepth 100000
def allF (l : List (FileS × Int)) : List (Int × Bool × ByteArray) := l.zipIdx.map fun p => ((p.2 : Int), p.1.1.1, p.1.1.2)
def filesOf (l : List (FileS × Int)) : List (Int × Bool × ByteArray) := (allF l).filter fun x => x.2.1
def encF (x : Int × Bool × ByteArray) : List Value := [.int .i64 x.1, .agg #[.bool x.2.1, .string x.2.2]]
theorem allF_len (l : List (FileS × Int)) : (allF l).length = l.length := by simp [allF]
theorem allF_get (l : List (FileS × Int)) (i : Nat) : (allF l)[i]? = (l[i]?).map fun x => ((i : Int), x.1.1, x.1.2) := by
  simp [allF, List.getElem?_zipIdx]
  cases l[i]? <;> simp
theorem filter_at {α : Type} (f : α → Bool) : ∀ (l : List α) (q : Nat) (x : α), l[q]? = some x → f x = true → (l.filter f)[((l.take q).filter f).length]? = some x
  | [], q, x, h, _ => by simp at h
  | y :: l, 0, x, h, hf => by
    simp at h; subst h
    simp [List.filter_cons, hf]
  | y :: l, q + 1, x, h, hf => by
    have ih := filter_at f l q x (by simpa using h) hf
    by_cases hy : f y = true
    · simp only [List.take_succ_cons, List.filter_cons, hy, if_true, List.length_cons, List.getElem?_cons_succ]; exact ih
    · simp only [List.take_succ_cons, List.filter_cons, hy, if_false]; exact ih
theorem filter_step {α : Type} (f : α → Bool) (l : List α) (q : Nat) (x : α) (h : l[q]? = some x) : ((l.take (q + 1)).filter f).length = ((l.take q).filter f).length + (if f x = true then 1 else 0) := by
  obtain ⟨hq, rfl⟩ := List.getElem?_eq_some_iff.1 h
  rw [List.take_succ_eq_append_getElem hq, List.filter_append, List.length_append]
  congr 1
  by_cases hf : f l[q] = true
  · simp [List.filter_cons, hf]
  · simp [List.filter_cons, hf]
def fallF (k3 : Nat) : Value := Value.func (.func FN.cell_Row_file_File_All_1) #[] #[(Value.pointer (some ⟨k3, 0, none⟩))]
def tallF (k3 : Nat) : Value := Value.func (.func FN.tome_Tome_All_1) #[] #[(Value.pointer (some ⟨k3, 0, none⟩))]
theorem NilOK.one {y : Value} (h : NilOK y) : isOne y = true := by
  rcases h with ⟨g, a, b, rfl⟩ | ⟨l, a, b, rfl⟩ <;> rfl
theorem plain1 (t : TypeId) (v : Value) : PlainO (.vec t [.plain v] 1) := ⟨t, [v], 1, rfl⟩
section
variable {B : RO} {h0 h h' : Heap} {L : List (Option (Nat × AObj))} {r : Option (Nat × AObj)} {i kT kR k3 m c : Nat} {a : Option Addr} {v : Value} {l : List (FileS × Int)}
def fG (k3 kR : Nat) (v : Value) (r : Option (Nat × AObj)) (h : Heap) : Prop :=
  h k3 = some (.vec TY.p_cell_Row_file_File [.plain (.pointer (some ⟨kR, 0, none⟩))] 1) ∧ h kR = some (frO v) ∧ ∀ k o, r = some (k, o) → h k = some o
theorem fG_ins : Ins (fG k3 kR v r) := by
  rintro h k o hk ⟨g1, g2, g3⟩
  exact ⟨Heap.get_new hk g1, Heap.get_new hk g2, fun k' o' e => Heap.get_new hk (g3 k' o' e)⟩
theorem fall_wp {p : Option Addr} {Q : Value → Heap → Prop} (hQ : ∀ k, h k = none → B k = none → Q (fallF k) (h.set k (.vec TY.p_cell_Row_file_File [.plain (.pointer p)] 1))) : C_cell_Row_file_File_All B p h Q := by
  refine C_cell_Row_file_File_All.of ?_
  unfold S_cell_Row_file_File_All
  intro k a1 b1 h4 e4
  subst e4
  exact Fin.of (hQ k a1 b1)
theorem fall_iter (R : FRow r v l) (hlen : l.length ≤ 100000) : Iter PG B (fallF k3) ((allF l).map encF) (fG k3 kR v r) := by
  refine ⟨_, _, _, rfl, TG.cell_Row_file_File_All_1, fun y J X h hy hG h0 hcall => ?_⟩
  have main : C_cell_Row_file_File_All_1 B y ⟨k3, 0, none⟩ h (fun h' => Fin B h' (fun h'' => J ((allF l).map encF).length h'' ∨ X h'')) := by
    refine C_cell_Row_file_File_All_1.of ?_
    unfold S_cell_Row_file_File_All_1
    obtain ⟨a, m, c, rfl⟩ := Row.slice R
    obtain ⟨rfl, hrd⟩ := Row.rd (B := B) R slotF_len (by omega)
    obtain ⟨g1, g2, g3⟩ := hG 0 h h0
    refine ⟨_, cellH_vec g1 rfl, fun e => (by cases e), fun _ => ⟨_, cellH_vec g1 rfl, _, rfl, .inl ⟨a, _, c, cellH_vec g2 rfl, ?_⟩⟩⟩
    refine ⟨fun i m' h' => ∃ j : Nat, j ≤ l.length ∧ i = j ∧ m' = l.length - j ∧ J j h', l.length, Fin.of ⟨0, by omega, rfl, by omega, h0⟩, ?_⟩
    rintro _ _ h13 ⟨j, hj, rfl, rfl, hJ⟩
    obtain ⟨g1, g2, g3⟩ := hG j h13 hJ
    refine ⟨fun hlt => ?_, fun hge => Fin.of ?_⟩
    · have hj' : j < l.length := by omega
      obtain ⟨A, e, _, q⟩ := hrd h13 g3 j _ (List.getElem?_eq_getElem hj')
      refine ⟨A, e, by omega, hlt, l[j].1.1, l[j].1.2, l[j].2, q, fun k24 a24 b24 h25 e25 => ?_⟩
      obtain ⟨g25, l25, -⟩ := Heap.made a24 e25
      refine ⟨_, stores_whole g25 rfl (by simp) (by simp [isOne]) (by simp), ?_⟩
      generalize e26 : h25.set k24 _ = h26
      obtain ⟨g26, -, -⟩ := Heap.put e26
      refine ⟨_, _, ⟨cellH_vec g26 rfl, cellH_vec g26 rfl, trivial⟩, ?_⟩
      have w : Wk B h13 h26 := by
        rw [← e26, e25, Heap.set_set]; exact Wk.new a24 b24
      have hc := hcall j h13 (encF ((j : Int), l[j].1.1, l[j].1.2)) (by
        rw [List.getElem?_map, allF_get, List.getElem?_eq_getElem hj']; rfl) hJ
      refine CallV.mono ?_ (hc.weaken w)
      rintro v h27 ⟨h28, t1, h29, t2, hor⟩
      rcases hor with ⟨rfl, hJ'⟩ | ⟨rfl, hX⟩
      · refine ⟨true, rfl, fun _ => ⟨h29, t1.trans t2, l.length - (j + 1), by omega, j + 1, by omega, ?_, rfl, hJ'⟩, fun e => by cases e⟩
        rw [w64 (by omega) (by omega)]; omega
      · exact ⟨false, rfl, fun e => (by cases e), fun _ => ⟨h29, t1.trans t2, Fin.of (.inr hX)⟩⟩
    · have : j = l.length := by omega
      subst this
      refine Fin.of (.inl ?_)
      rw [List.length_map, allF_len]
      exact hJ
  exact Spec.mono main fun v h' q => q.2
def tG (k3 kT kR : Nat) (v : Value) (r : Option (Nat × AObj)) (h : Heap) : Prop :=
  h k3 = some (.vec TY.p_tome_Tome [.plain (.pointer (some ⟨kT, 0, none⟩))] 1) ∧ h kT = some (tomO kR) ∧ h kR = some (frO v) ∧ ∀ k o, r = some (k, o) → h k = some o
theorem tG_ins : Ins (tG k3 kT kR v r) := by
  rintro h k o hk ⟨g1, g2, g3, g4⟩
  exact ⟨Heap.get_new hk g1, Heap.get_new hk g2, Heap.get_new hk g3, fun k' o' e => Heap.get_new hk (g4 k' o' e)⟩
theorem tall_wp {p : Option Addr} {Q : Value → Heap → Prop} (hQ : ∀ k, h k = none → B k = none → Q (tallF k) (h.set k (.vec TY.p_tome_Tome [.plain (.pointer p)] 1))) : C_tome_Tome_All B p h Q := by
  refine C_tome_Tome_All.of ?_
  unfold S_tome_Tome_All
  intro k a1 b1 h4 e4
  subst e4
  exact Fin.of (hQ k a1 b1)
theorem tall_iter (R : FRow r v l) (hlen : l.length ≤ 100000) : Iter PG B (tallF k3) ((filesOf l).map encF) (tG k3 kT kR v r) := by
  refine ⟨_, _, _, rfl, TG.tome_Tome_All_1, fun y J X h hy hG h0 hcall => ?_⟩
  have main : C_tome_Tome_All_1 B y ⟨k3, 0, none⟩ h (fun h' => Fin B h' (fun h'' => J ((filesOf l).map encF).length h'' ∨ X h'')) := by
    refine C_tome_Tome_All_1.of ?_
    unfold S_tome_Tome_All_1
    obtain ⟨g1, g2, g3, g4⟩ := hG 0 h h0
    refine ⟨hy.one, fun ky ay by' h4 e4 => ?_⟩
    obtain ⟨tyY, e4⟩ : ∃ ty, h4 = h.set ky (.vec ty [.plain y] 1) := ⟨_, e4⟩
    obtain ⟨gy, ly, fy⟩ := Heap.made ay e4
    refine ⟨_, cellH_vec (ly _ _ g1) rfl, fun e => (by cases e), fun _ => ⟨_, cellH_vec (ly _ _ g1) rfl, _, rfl, _, cellH_vec (ly _ _ g2) rfl, fall_wp fun kc ac bc => ?_⟩⟩
    have hky : kc ≠ ky := Heap.ne_of ac gy
    have it := fall_iter (B := B) (k3 := kc) (kR := kR) R hlen
    let cnt : Nat → Nat := fun q => (((allF l).take q).filter fun x => x.2.1).length
    refine ⟨allF l, fG kc kR v r, fun q h' => ∃ hu, hu ky = none ∧ hu kc = none ∧ h' = (hu.set ky (.vec tyY [.plain y] 1)).set kc (.vec TY.p_cell_Row_file_File [.plain (.pointer (some ⟨kR, 0, none⟩))] 1) ∧ J (cnt q) hu, it, fG_ins, ?_, Fin.of ⟨h, ay, ?_, by rw [e4], h0⟩, ?_, ?_⟩
    · rintro q h' ⟨hu, n1, n2, rfl, hJ⟩
      obtain ⟨u1, u2, u3, u4⟩ := hG _ hu hJ
      have up : ∀ {b : Nat} {o : AObj}, hu b = some o → ((hu.set ky (.vec tyY [.plain y] 1)).set kc (.vec TY.p_cell_Row_file_File [.plain (.pointer (some ⟨kR, 0, none⟩))] 1)) b = some o := fun hb =>
        Heap.get_new (by rw [Heap.set_ne _ _ _ _ hky]; exact n2) (Heap.get_new n1 hb)
      exact ⟨Heap.set_same _ _ _, up u3, fun k o e => up (u4 k o e)⟩
    · rw [e4, Heap.set_ne _ _ _ _ hky] at ac; exact ac
    · rintro q h17 i13 b14 s15 hg ⟨hu, n1, n2, rfl, hJ⟩
      have n2' : (hu.set ky (.vec tyY [.plain y] 1)) kc = none := by rw [Heap.set_ne _ _ _ _ hky]; exact n2
      generalize e17 : (hu.set ky (.vec tyY [.plain y] 1)).set kc (.vec TY.p_cell_Row_file_File [.plain (.pointer (some ⟨kR, 0, none⟩))] 1) = h17
      intro k21 a21 b21 h22 e22
      obtain ⟨g22, -, -⟩ := Heap.made a21 e22
      refine ⟨_, stores_whole g22 rfl (by simp) (by simp [isOne]) (by simp), ?_⟩
      generalize e23 : h22.set k21 _ = h23
      obtain ⟨g23, -, -⟩ := Heap.put e23
      have w : Wk B h17 h23 := by
        rw [← e23, e22, Heap.set_set]; exact Wk.new a21 b21
      have st := filter_step (fun x : Int × Bool × ByteArray => x.2.1) (allF l) q _ hg
      have gky : h17 ky = some (.vec tyY [.plain y] 1) := by
        rw [← e17, Heap.set_ne _ _ _ _ (Ne.symm hky), Heap.set_same]
      refine ⟨b14, cellH_vec g23 rfl, fun hb => ?_, fun hb => ?_⟩
      · subst hb
        refine ⟨y, cellH_vec (w.1 _ _ gky) rfl, _, _, ⟨cellH_vec g23 rfl, cellH_vec g23 rfl, trivial⟩, ?_⟩
        have hat := filter_at (fun x : Int × Bool × ByteArray => x.2.1) (allF l) q _ hg rfl
        have hc := hcall (cnt q) hu (encF (i13, true, s15)) (by
          show ((filesOf l).map encF)[cnt q]? = _
          rw [List.getElem?_map]
          show Option.map encF ((allF l).filter fun x => x.2.1)[cnt q]? = _
          rw [hat]; rfl) hJ
        have h1 := hc.frame1 (ob := .vec tyY [.plain y] 1) n1 by' (plain1 _ _)
        have h2 := h1.frame1 (ob := .vec TY.p_cell_Row_file_File [.plain (.pointer (some ⟨kR, 0, none⟩))] 1) n2' bc (plain1 _ _)
        rw [e17] at h2
        refine CallV.mono ?_ (h2.weaken w)
        rintro v h27 ⟨h28, t1, hx, x1, rfl, hz, z1, rfl, h29, t2, hor⟩
        have z2 : hz kc = none := by rw [Heap.set_ne _ _ _ _ hky] at x1; exact x1
        have lift : Ent B h27 ((h29.set ky (.vec tyY [.plain y] 1)).set kc (.vec TY.p_cell_Row_file_File [.plain (.pointer (some ⟨kR, 0, none⟩))] 1)) :=
          t1.trans (Ent.frame1 x1 bc (plain1 _ _) (Ent.frame1 z1 by' (plain1 _ _) t2))
        have w1 : h29 ky = none := t2.1 _ z1
        have w2 : h29 kc = none := t2.1 _ z2
        have drop : Ent B ((h29.set ky (.vec tyY [.plain y] 1)).set kc (.vec TY.p_cell_Row_file_File [.plain (.pointer (some ⟨kR, 0, none⟩))] 1)) h29 := Ent.forget fun b o hb =>
          Heap.get_new (by rw [Heap.set_ne _ _ _ _ hky]; exact w2) (Heap.get_new w1 hb)
        rcases hor with ⟨rfl, hJ'⟩ | ⟨rfl, hX⟩
        · refine ⟨true, rfl, fun _ => ⟨_, lift, h29, w1, w2, rfl, ?_⟩, fun e => by cases e⟩
          have : cnt (q + 1) = cnt q + 1 := st
          rw [this]; exact hJ'
        · exact ⟨false, rfl, fun e => (by cases e), fun _ => ⟨h29, lift.trans drop, Fin.of (.inr hX)⟩⟩
      · subst hb
        have hf : Ent B h23 h17 := Ent.forget w.1
        refine ⟨h17, hf, hu, n1, n2, e17.symm, ?_⟩
        have : cnt (q + 1) = cnt q := st
        rw [this]; exact hJ
    · rintro h17 ⟨hu, n1, n2, rfl, hJ⟩
      have drop : Ent B ((hu.set ky (.vec tyY [.plain y] 1)).set kc (.vec TY.p_cell_Row_file_File [.plain (.pointer (some ⟨kR, 0, none⟩))] 1)) hu := Ent.forget fun b o hb =>
        Heap.get_new (by rw [Heap.set_ne _ _ _ _ hky]; exact n2) (Heap.get_new n1 hb)
      refine ⟨hu, drop, Fin.of (.inl ?_)⟩
      have e : cnt (allF l).length = ((filesOf l).map encF).length := by
        show (((allF l).take (allF l).length).filter _).length = _
        rw [List.take_length, List.length_map]; rfl
      rw [← e]; exact hJ
  exact Spec.mono main fun v h' q => q.2
end
end Go.Proofs.Ytcncdfmnpmmikaa.H
namespace Go.Proofs.Ytcncdfmnpmmikaa.H
open Go
set_option linter.unusedVariables false
set_option maxRecDepth 100000
def fileB (x : Int × Bool × ByteArray) : List UInt8 := natI x.1 ++ (natB x.2.2.size ++ bl x.2.2)
def tomeB (l : List (FileS × Int)) : List UInt8 := (filesOf l).flatMap fileB
structure TomeOk (l : List (FileS × Int)) : Prop where
  n6 : l.length = 6
  good : ∀ x ∈ l, goodF x.1.1 x.1.2 = true
theorem TomeOk.size {l : List (FileS × Int)} (k : TomeOk l) : ∀ x ∈ l, x.1.2.size ≤ 32 := fun x hx => by
  have := k.good x hx
  unfold goodF at this
  simp only [Bool.and_eq_true, decide_eq_true_eq] at this
  exact this.1
theorem TomeOk.zero : TomeOk (List.replicate 6 ((false, ByteArray.empty), 0)) := ⟨rfl, fun x hx => by
  rw [List.mem_replicate] at hx
  rw [hx.2]; decide⟩
theorem TomeOk.set {l : List (FileS × Int)} (k : TomeOk l) (n : Int) (b : Bool) (s : ByteArray) (ver : Int) : TomeOk (setF l n b s ver) := by
  refine ⟨by rw [setF_len]; exact k.n6, fun x hx => ?_⟩
  unfold setF at hx
  split at hx
  · rename_i h
    unfold setB at h
    rw [Bool.and_eq_true] at h
    rcases List.mem_or_eq_of_mem_set hx with h1 | h1
    · exact k.good x h1
    · rw [h1]; exact h.1
  · exact k.good x hx
theorem allF_mem {l : List (FileS × Int)} {x : Int × Bool × ByteArray} (h : x ∈ allF l) : ∃ y ∈ l, x.2 = y.1 ∧ 0 ≤ x.1 ∧ x.1 < l.length := by
  obtain ⟨q, hq⟩ := List.getElem?_of_mem h
  rw [allF_get] at hq
  obtain ⟨y, hy, rfl⟩ := Option.map_eq_some_iff.1 hq
  have := (List.getElem?_eq_some_iff.1 hy).1
  exact ⟨y, List.mem_of_getElem? hy, rfl, by simp, by simp only; omega⟩
theorem filesOf_mem {l : List (FileS × Int)} {x : Int × Bool × ByteArray} (h : x ∈ filesOf l) : ∃ y ∈ l, x.2 = y.1 ∧ 0 ≤ x.1 ∧ x.1 < l.length := allF_mem (List.mem_filter.1 h).1
theorem fileB_len (k : (x : Int × Bool × ByteArray) → Prop) {x : Int × Bool × ByteArray} (h1 : x.1 ≤ 1000) (h2 : x.2.2.size ≤ 1000) : (fileB x).length ≤ 1020 := by
  unfold fileB
  have a := natI_length (i := x.1) (by omega)
  have b := natB_length (n := x.2.2.size) (by omega)
  rw [List.length_append, List.length_append, bl_length]
  omega
theorem flat_len {x : Int × Bool × ByteArray} : ∀ (l : List (Int × Bool × ByteArray)), (∀ x ∈ l, x.1 ≤ 1000 ∧ x.2.2.size ≤ 1000) → (l.flatMap fileB).length ≤ 1020 * l.length
  | [], _ => by simp
  | y :: l, h => by
    have h1 := fileB_len (fun _ => True) (h y (by simp)).1 (h y (by simp)).2
    have h2 := flat_len (x := x) l (fun z hz => h z (by simp [hz]))
    rw [List.flatMap_cons, List.length_append, List.length_cons]
    omega
section
variable {B : RO} {h0 h h' : Heap} {L : List (Option (Nat × AObj))} {r : Option (Nat × AObj)} {i kT kR : Nat} {v : Value} {l : List (FileS × Int)}
theorem tbytes_wp {Q : ByteArray → Heap → Prop} (E : Keep B h0 L h) (A : TomeAt L i kT kR v r) (R : FRow r v l) (k : TomeOk l)
    (hQ : ∀ h', Keep B h0 L h' → Q (ba (tomeB l)) h') : C_tome_Tome_Bytes B (some ⟨kT, 0, none⟩) h Q := by
  refine C_tome_Tome_Bytes.of ?_
  unfold S_tome_Tome_Bytes
  intro k3 a3 b3 h4 e4 k5 a5 b5 h6 e6
  have E1 := E.made a3 b3 e4
  have E2 := E1.made a5 b5 e6
  have up2 : ∀ {j : Nat} {x : Option (Nat × AObj)} (y z : List (Option (Nat × AObj))), L[j]? = some x → (L ++ y ++ z)[j]? = some x := fun y z hj => up_app z (up_app y hj)
  have up3 : ∀ {j : Nat} {x : Option (Nat × AObj)} (y z u : List (Option (Nat × AObj))), L[j]? = some x → (L ++ y ++ z ++ u)[j]? = some x := fun y z u hj => up_app u (up_app z (up_app y hj))
  refine ⟨_, storeH_vec E2.last rfl, ?_⟩
  have E3 := E2.putLast (.vec TY.p_stylus_Stylus (plains [.pointer (some ⟨k3, 0, none⟩)]) 1)
  refine tall_wp fun kc ac bc => ?_
  have E4 := E3.new (o := .vec TY.p_tome_Tome [.plain (.pointer (some ⟨kT, 0, none⟩))] 1) ac bc
  have it := tall_iter (B := B) (k3 := kc) (kT := kT) (kR := kR) R (by rw [k.n6]; omega)
  have mid : ∀ (x y z : Option (Nat × AObj)), (L ++ [x] ++ [y] ++ [z])[L.length]? = some x ∧ (L ++ [x] ++ [y] ++ [z])[L.length + 1]? = some y ∧ (L ++ [x] ++ [y] ++ [z])[L.length + 2]? = some z := fun x y z => by
    refine ⟨?_, ?_, ?_⟩ <;> (rw [List.append_assoc, List.append_assoc, List.getElem?_append_right (by omega)]; simp)
  have mset : ∀ (x x' y z : Option (Nat × AObj)) , (L ++ [x] ++ [y] ++ [z]).set L.length x' = L ++ [x'] ++ [y] ++ [z] := fun x x' y z => by
    rw [List.append_assoc, List.append_assoc, List.set_append_right _ _ (Nat.le_refl _), Nat.sub_self, List.append_assoc, List.append_assoc]; rfl
  have hn6 := k.n6
  have small : ∀ x ∈ filesOf l, x.1 ≤ 1000 ∧ x.2.2.size ≤ 1000 := fun x hx => by
    obtain ⟨y, hy, e1, e2, e3⟩ := filesOf_mem hx
    have := k.size y hy
    have e4 : x.2.2 = y.1.2 := by rw [e1]
    exact ⟨by omega, by rw [e4]; omega⟩
  have few : (filesOf l).length ≤ 6 := by
    have := List.length_filter_le (fun x : Int × Bool × ByteArray => x.2.1) (allF l)
    rw [allF_len, k.n6] at this
    exact this
  refine ⟨filesOf l, tG kc kT kR v r, fun q h' => Keep B h0 (L ++ [some (k3, stylO (((filesOf l).take q).flatMap fileB))] ++ [some (k5, .vec TY.p_stylus_Stylus (plains [.pointer (some ⟨k3, 0, none⟩)]) 1)] ++ [some (kc, .vec TY.p_tome_Tome [.plain (.pointer (some ⟨kT, 0, none⟩))] 1)]) h', it, tG_ins, ?_, ?_, ?_, ?_⟩
  · intro q h' E
    exact ⟨E.last, E.at i (up3 _ _ _ A.p), E.at (i + 1) (up3 _ _ _ A.f.p), fun k o e => E.at (i + 2) (by rw [up3 _ _ _ A.f.q, e])⟩
  · have g3 := E4.at L.length (mid _ _ _).1
    refine Fin.ent (styl_new g3) (Fin.of ?_)
    have E5 := E4.put (o' := stylO []) L.length (mid _ _ _).1
    rw [mset] at E5
    exact E5
  · rintro q h14 i10 b11 s12 hg E
    have hx := List.mem_of_getElem? hg
    have sm := small _ hx
    intro k18 a18 b18 h19 e19
    have F1 := E.made a18 b18 e19
    refine ⟨_, stores_whole F1.last rfl (by simp) (by simp [isOne]) (by simp), ?_⟩
    have F2 := F1.putLast (.vec TY.file_File (plains [.bool b11, .string s12]) 2)
    have c5 := F2.cell (L.length + 1) (up_app _ (mid _ _ _).2.1) (j := 0) rfl
    refine ⟨_, c5, ?_⟩
    intro k22 a22 b22 h23 e23
    have F3 := F2.made a22 b22 e23
    have hlen := flat_len (x := (0, false, ByteArray.empty)) ((filesOf l).take q) (fun x hx => small x (List.mem_of_mem_take hx))
    have htl : ((filesOf l).take q).length ≤ 6 := by rw [List.length_take]; omega
    have g3 := F3.at L.length (up_app _ (up_app _ (mid _ _ _).1))
    refine nat1_wp g3 F3.last (fun e => by rw [e, F2.at L.length (up_app _ (mid _ _ _).1)] at a22; cases a22) (by omega) (by omega) ?_
    have F4 := F3.put (o' := stylO (((filesOf l).take q).flatMap fileB ++ natI i10)) L.length (up_app _ (up_app _ (mid _ _ _).1))
    have s4 : (L ++ [some (k3, stylO (((filesOf l).take q).flatMap fileB))] ++ [some (k5, AObj.vec TY.p_stylus_Stylus (plains [.pointer (some ⟨k3, 0, none⟩)]) 1)] ++ [some (kc, AObj.vec TY.p_tome_Tome [.plain (.pointer (some ⟨kT, 0, none⟩))] 1)] ++ [some (k18, AObj.vec TY.file_File (plains [.bool b11, .string s12]) 2)] ++ [some (k22, AObj.vec 3 (plains [Value.int .i64 i10]) 1)]).set L.length (some (k3, stylO (((filesOf l).take q).flatMap fileB ++ natI i10)))
        = L ++ [some (k3, stylO (((filesOf l).take q).flatMap fileB ++ natI i10))] ++ [some (k5, AObj.vec TY.p_stylus_Stylus (plains [.pointer (some ⟨k3, 0, none⟩)]) 1)] ++ [some (kc, AObj.vec TY.p_tome_Tome [.plain (.pointer (some ⟨kT, 0, none⟩))] 1)] ++ [some (k18, AObj.vec TY.file_File (plains [.bool b11, .string s12]) 2)] ++ [some (k22, AObj.vec 3 (plains [Value.int .i64 i10]) 1)] := by
      rw [List.set_append_left _ _ (by simp <;> omega), List.set_append_left _ _ (by simp <;> omega), mset]
    rw [s4] at F4
    have F5 := F4.pop
    refine ⟨_, F5.cell (L.length + 1) (up_app _ (mid _ _ _).2.1) (j := 0) rfl, _, cellH_vec F5.last rfl, ?_⟩
    intro k27 a27 b27 h28 e28
    have F6 := F5.made a27 b27 e28
    have g3' := F6.at L.length (up_app _ (up_app _ (mid _ _ _).1))
    have hni := natI_length (i := i10) (by omega)
    refine text1_wp g3' F6.last (fun e => by rw [e, F5.at L.length (up_app _ (mid _ _ _).1)] at a27; cases a27) (by rw [List.length_append]; have := sm.2; simp only at this; omega) (Fin.of ?_)
    have F7 := F6.put (o' := stylO (((filesOf l).take q).flatMap fileB ++ natI i10 ++ (natB s12.size ++ bl s12))) L.length (up_app _ (up_app _ (mid _ _ _).1))
    rw [List.set_append_left _ _ (by simp <;> omega), List.set_append_left _ _ (by simp <;> omega), mset] at F7
    have e7 : ((filesOf l).take (q + 1)).flatMap fileB = ((filesOf l).take q).flatMap fileB ++ natI i10 ++ (natB s12.size ++ bl s12) := by
      obtain ⟨hq, hx⟩ := List.getElem?_eq_some_iff.1 hg
      rw [List.take_succ_eq_append_getElem hq, List.flatMap_append, List.flatMap_cons, List.flatMap_nil, List.append_nil, hx, List.append_assoc]
      rfl
    show Keep B h0 (L ++ [some (k3, stylO (((filesOf l).take (q + 1)).flatMap fileB))] ++ [some (k5, .vec TY.p_stylus_Stylus (plains [.pointer (some ⟨k3, 0, none⟩)]) 1)] ++ [some (kc, .vec TY.p_tome_Tome [.plain (.pointer (some ⟨kT, 0, none⟩))] 1)]) _
    rw [e7]
    exact F7.pop.pop
  · intro h14 E
    rw [List.take_length] at E
    refine ⟨_, E.cell (L.length + 1) (mid _ _ _).2.1 (j := 0) rfl, bytes_wp (E.at L.length (mid _ _ _).1) (Fin.of (hQ _ E.pop.pop.pop))⟩
end
end Go.Proofs.Ytcncdfmnpmmikaa.H
namespace Go.Proofs.Ytcncdfmnpmmikaa.H
open Go Go.RowKit
set_option linter.unusedVariables false
set_option maxRecDepth 100000
structure FSetR where
  i : Int
  b : Bool
  s : ByteArray
  v : Int
def FSetR.cells (x : FSetR) : List Value := [.int .i64 x.i, .bool x.b, .string x.s, .int .i64 x.v]
abbrev FL := List (FileS × Int)
def zF : FL := List.replicate 6 ((false, ByteArray.empty), 0)
def apF (l : FL) (x : FSetR) : FL := setF l x.i x.b x.s x.v
theorem TomeOk.foldl {l : FL} (k : TomeOk l) (sets : List FSetR) : TomeOk (sets.foldl apF l) := by
  induction sets generalizing l with
  | nil => exact k
  | cons x t ih => exact ih (k.set x.i x.b x.s x.v)
section
variable {B : RO} {h0 h h' : Heap} {a : Option Addr} {c : Nat} {list : List FSetR} {Q : Bool → Heap → Prop} {kA kA' kB kB' : Nat} {va vb : Value} {ra rb : Option (Nat × AObj)}
end
end Go.Proofs.Ytcncdfmnpmmikaa.H
namespace Go.Proofs.Ytcncdfmnpmmikaa.H
open Go
set_option linter.unusedVariables false
set_option maxRecDepth 100000
theorem TK.byteStr : byteStr PG TY.s_uint8 TY.string = true := by kernel_rfl
section
variable {B : RO} {h : Heap}
theorem one_string {k : Nat} {x : Int} {u : UInt8} {K : Value → Heap → Prop} (hk : h k = some (.vec TY.uint8 (plains [.int .u8 x]) 1)) (hx : x = ((u.toNat : Nat) : Int)) (hK : K (.string (ba [u])) h) :
    semH PG B (convert TY.s_uint8 TY.string (.slice (some ⟨k, 0, none⟩) 1 1)) h K := by
  subst hx
  refine semH_convB TK.byteStr (semH_bytesToString (e := TY.uint8) (bs := [u]) (.inr ⟨k, 1, 1, 1, [], rfl, hk, rfl, by omega, by omega⟩) hK)
structure Item where
  kind : Int
  n : Int
  s : ByteArray
def Item.cells (x : Item) : List Value := [.int .i64 x.kind, .int .i64 x.n, .string x.s]
def Item.ok (x : Item) : Prop := -9223372036854775808 ≤ x.n ∧ x.n ≤ 9223372036854775807
def Item.bytes (x : Item) : List UInt8 :=
  if x.kind = 0 then natI x.n else if x.kind = 1 then natB (zig x.n) else if x.kind = 2 then bl x.s else if x.kind = 3 then natB x.s.size ++ bl x.s else []
end
end Go.Proofs.Ytcncdfmnpmmikaa.H
namespace Go.Proofs.Ytcncdfmnpmmikaa.H
open Go Go.RowKit
set_option linter.unusedVariables false
set_option maxRecDepth 100000
def fileC (x : FileS × Int) : List Value := [.bool x.1.1, .string x.1.2]
theorem fileC_len (x : FileS × Int) : (fileC x).length = 2 := rfl
def filesC (l : FL) : List Value := l.flatMap fileC
theorem filesC_len (l : FL) : (filesC l).length = l.length * 2 := flatMap_length fileC_len l
theorem extract_files (l : FL) (q : Nat) (x : FileS × Int) (h : l[q]? = some x) : Array.extract (filesC l).toArray (q * 2) (q * 2 + 2) = #[.bool x.1.1, .string x.1.2] := by
  obtain ⟨hq, rfl⟩ := List.getElem?_eq_some_iff.1 h
  apply Array.toList_inj.1
  rw [Array.toList_extract]
  simp only [List.extract_eq_take_drop, filesC]
  rw [flatMap_splitR l q hq, List.drop_left' (by rw [flatMap_length fileC_len, List.length_take]; omega)]
  rw [show q * 2 + 2 - q * 2 = 2 by omega]
  rfl
section
variable {B : RO} {h0 h h' : Heap} {L : List (Option (Nat × AObj))} {r : Option (Nat × AObj)} {i kT kR k3 : Nat} {a : Option Addr} {v : Value} {l : FL}
theorem Keep.cellsP (E : Keep B h0 L h) (i : Nat) {k n : Nat} {t : TypeId} {ys zs : List Value} (hi : L[i]? = some (some (k, .vec t (plains (ys ++ zs)) n))) : CellsAt B h ⟨k, 0, none⟩ 0 ys :=
  CellsAt.of_vec ys 0 (E.at i hi) fun j y hj => by
    rw [plains_get, Nat.zero_add, List.getElem?_append_left (List.getElem?_eq_some_iff.1 hj).1, hj]; rfl
end
end Go.Proofs.Ytcncdfmnpmmikaa.H
namespace Go.Proofs.Ytcncdfmnpmmikaa.H
open Go Go.RowKit
set_option linter.unusedVariables false
set_option maxRecDepth 100000
section
variable {B : RO} {h0 h h' : Heap} {L M : List (Option (Nat × AObj))} {j k n : Nat} {o o' : AObj}
theorem upM (j : Nat) {x : Option (Nat × AObj)} (hj : M[j]? = some x) : (L ++ M)[L.length + j]? = some x := by
  rw [List.getElem?_append_right (by omega), show L.length + j - L.length = j by omega]; exact hj
theorem Keep.gM (E : Keep B h0 (L ++ M) h) (j : Nat) (hj : M[j]? = some (some (k, o))) : h k = some o := E.at (L.length + j) (upM j hj)
theorem Keep.cM (E : Keep B h0 (L ++ M) h) (j : Nat) {i n : Nat} {t : TypeId} {fs : List Fld} {v : Value} (hj : M[j]? = some (some (k, .vec t fs n))) (hi : fs[i]? = some (.plain v)) : cellH B h ⟨k, i, none⟩ = some v := cellH_vec (E.gM j hj) hi
theorem Keep.start (E : Keep B h0 L h) : Keep B h0 (L ++ []) h := by rw [List.append_nil]; exact E
theorem Keep.nM (E : Keep B h0 (L ++ M) h) (hk : h k = none) (hb : B k = none) (e : h' = h.set k o) : Keep B h0 (L ++ (M ++ [some (k, o)])) h' := by
  rw [← List.append_assoc]; exact E.made hk hb e
theorem Keep.pM (E : Keep B h0 (L ++ M) h) (j : Nat) (hj : M[j]? = some (some (k, o))) : Keep B h0 (L ++ M.set j (some (k, o'))) (h.set k o') := by
  have := E.put (o' := o') (L.length + j) (upM j hj)
  rwa [List.set_append_right _ _ (by omega), show L.length + j - L.length = j by omega] at this
theorem setM (j : Nat) (x : Option (Nat × AObj)) : (L ++ M).set (L.length + j) x = L ++ M.set j x := by
  rw [List.set_append_right _ _ (by omega), show L.length + j - L.length = j by omega]
theorem Keep.tM (E : Keep B h0 (L ++ M) h) (n : Nat) : Keep B h0 (L ++ M.take n) h := by
  have := E.take (L.length + n)
  rwa [List.take_length_add_append] at this
theorem Keep.zM (E : Keep B h0 (L ++ M) h) : Keep B h0 L h := E.popL
theorem Keep.sM (E : Keep B h0 (L ++ M) h) (is : List Nat) (hn : is.Nodup) : Keep B h0 (L ++ is.map fun i => M.getD i none) h := by
  refine E.remap (fun i => if i < L.length then i else L.length + is.getD (i - L.length) 0) (fun i y hy => ?_) (fun i j hi hj e => ?_)
  · by_cases h1 : i < L.length
    · simp only [if_pos h1]
      rw [List.getElem?_append_left h1] at hy
      rw [List.getElem?_append_left h1]; exact hy
    · simp only [if_neg h1]
      rw [List.getElem?_append_right (by omega), List.getElem?_map] at hy
      cases hq : is[i - L.length]? with
      | none => rw [hq] at hy; cases hy
      | some q =>
        rw [hq] at hy
        simp only [Option.map_some, Option.some.injEq] at hy
        rw [List.getD_eq_getElem?_getD] at hy ⊢
        rw [hq]
        simp only [Option.getD_some]
        cases hm : M[q]? with
        | none => rw [hm] at hy; cases hy
        | some z => rw [hm] at hy; simp only [Option.getD_some] at hy; subst hy; exact upM q hm
  · rw [List.length_append, List.length_map] at hi hj
    have e : (if i < L.length then i else L.length + is.getD (i - L.length) 0) = (if j < L.length then j else L.length + is.getD (j - L.length) 0) := e
    split at e <;> split at e
    · exact e
    · omega
    · omega
    · rename_i h1 h2
      rw [List.getD_eq_getElem?_getD, List.getD_eq_getElem?_getD, List.getElem?_eq_getElem (by omega), List.getElem?_eq_getElem (by omega)] at e
      simp only [Option.getD_some] at e
      have e2 : is[i - L.length]'(by omega) = is[j - L.length]'(by omega) := by omega
      have hp := List.pairwise_iff_getElem.1 hn
      rcases Nat.lt_trichotomy (i - L.length) (j - L.length) with h | h | h
      · exact absurd e2 (hp _ _ (by omega) (by omega) h)
      · omega
      · exact absurd e2.symm (hp _ _ (by omega) (by omega) h)
end
end Go.Proofs.Ytcncdfmnpmmikaa.H
namespace Go.Proofs.Ytcncdfmnpmmikaa.H
open Go Go.RowKit
set_option linter.unusedVariables false
set_option maxRecDepth 100000
theorem Addr.add2 (A : Addr) (m n : Nat) : (A.add m).add n = A.add (m + n) := by
  unfold Addr.add
  by_cases hm : m = 0
  · subst hm; simp
  · by_cases hn : n = 0
    · subst hn; simp
    · simp [hm, hn, Nat.add_assoc]
theorem eqL_refl (b : Bool) (s : ByteArray) : eqL [Value.bool b, Value.string s] [Value.bool b, Value.string s] = true := by
  have e : (s == s) = true := by cases s with | mk d => exact beq_self_eq_true d
  simp [eqL, leafEq, e]
theorem eqL_file_eq {b b' : Bool} {s s' : ByteArray} (h : eqL [Value.bool b, Value.string s] [Value.bool b', Value.string s'] = true) : (b, s) = (b', s') := by
  simp only [eqL, leafEq, Bool.and_eq_true, Bool.and_true] at h
  obtain ⟨h1, h2⟩ := h
  have e1 : b = b' := by simpa using h1
  have e2 : s = s' := by
    cases s with
    | mk d => cases s' with
      | mk d' =>
        have h3 : (d == d') = true := h2
        rw [eq_of_beq h3]
  rw [e1, e2]
def shtO (kf : Nat) : AObj := .vec TY.sheet_Sheet (plains [.pointer (some ⟨kf, 0, none⟩)]) 1
def fO (f : FileS) : AObj := .vec TY.file_File (plains [.bool f.1, .string f.2]) 2
structure ShI where
  kT : Nat
  kR : Nat
  vt : Value
  rt : Option (Nat × AObj)
  ks : Nat
  kf : Nat
def ShI.m (x : ShI) (vd : Value) (rd : Option (Nat × AObj)) : List (Option (Nat × AObj)) := [some (x.kT, tomO x.kR), some (x.kR, frO x.vt), x.rt, some (x.ks, shtO x.kf), some (x.kf, drO_file_File vd), rd]
def getS (l : FL) (d : DFL) (n : Int) : FileS × Bool := match atD d n with
  | some f => (f, true)
  | none => ((fileAt l n).1, false)
theorem getS_some {l : FL} {d : DFL} {n : Int} {f : FileS} (h : atD d n = some f) : getS l d n = (f, true) := by rw [getS, h]
theorem getS_none {l : FL} {d : DFL} {n : Int} (h : atD d n = none) : getS l d n = ((fileAt l n).1, false) := by rw [getS, h]
def putS (l : FL) (d : DFL) (n : Int) (f : FileS) : DFL := if (getS l d n).1 = f then d else insD d n f
theorem getS_ins (l : FL) (d : DFL) (n m : Int) (f : FileS) : getS l (insD d n f) m = if m = n then (f, true) else getS l d m := by
  by_cases h : m = n
  · rw [if_pos h]
    exact getS_some (by rw [atD_ins, if_pos h])
  · rw [if_neg h]
    unfold getS
    rw [atD_ins, if_neg h]
theorem putS_sort {l : FL} {d : DFL} (s : SortD d) (n : Int) (f : FileS) : SortD (putS l d n f) := by
  unfold putS; split
  · exact s
  · exact s.ins
theorem putS_len (l : FL) (d : DFL) (n : Int) (f : FileS) : (putS l d n f).length ≤ d.length + 1 := by
  unfold putS; split
  · omega
  · exact insD_len
section
variable {B : RO} {h0 h h' : Heap} {L : List (Option (Nat × AObj))} {r rd : Option (Nat × AObj)} {i k : Nat} {a : Option Addr} {m c : Nat} {v vd : Value} {l : FL} {d : DFL} {n : Int} {x : ShI} {f : FileS}
theorem get_file_File_wp {Q : Bool → ByteArray → Bool → Heap → Prop} (E : Keep B h0 L h) (A : DAt_file_File L i k v r) (R : DRow_file_File r v d) (s : SortD d) (hl : d.length ≤ 1000000)
    (hQ : ∀ h', Keep B h0 L h' → Q ((atD d n).getD (false, ByteArray.empty)).1 ((atD d n).getD (false, ByteArray.empty)).2 (atD d n).isSome h') : C_draft_Draft_file_File_Get B (some ⟨k, 0, none⟩) n h Q := by
  refine C_draft_Draft_file_File_Get.of ?_
  unfold S_draft_Draft_file_File_Get
  intro k6 a6 b6 h7 e7 k8 a8 b8 h9 e9
  have E1 := (E.start.nM a6 b6 e7).nM a8 b8 e9
  refine ⟨fun e => (by cases e), fun _ => find_file_File_wp (i := i) E1 ⟨up_app _ A.p, up_app _ A.q⟩ R s hl fun p K => ⟨fun hf => ?_, fun hf => ?_⟩⟩
  · obtain ⟨y, hy, rfl⟩ := foundD_some hf
    have hpl := (List.getElem?_eq_some_iff.1 hy).1
    rw [atD_old K hy rfl] at hQ
    obtain ⟨a, m, c, rfl⟩ := Row.slice R
    obtain ⟨rfl, hrd⟩ := Row.rd (B := B) R entC_file_File_len (by omega)
    obtain ⟨A', e1, _, e4⟩ := hrd h9 (fun k o e => E1.at (i + 1) (by rw [up_app _ A.q, e])) p y hy
    obtain ⟨f1, f2, f3, _⟩ := e4
    refine ⟨_, rfl, .inl ⟨a, _, c, E1.cell i (up_app _ A.p) rfl, A', e1, by omega, by omega, y.2.1, y.2.2, ⟨?_, ?_, trivial⟩, ?_⟩⟩
    · rw [Int.toNat_natCast]; exact f2
    · rw [Int.toNat_natCast, Addr.add2]; exact f3
    · refine ⟨_, stores_whole (E1.gM 0 rfl) rfl (by simp) (by simp [isOne]) (by simp), ?_⟩
      have E2 := E1.pM (o' := fO y.2) 0 rfl
      exact ⟨_, _, ⟨E2.cM 0 rfl (i := 0) rfl, E2.cM 0 rfl (i := 1) rfl, trivial⟩, Fin.of (hQ _ E2.zM)⟩
  · rw [atD_new s K hf] at hQ
    refine ⟨_, _, ⟨E1.cM 1 rfl (i := 0) rfl, E1.cM 1 rfl (i := 1) rfl, trivial⟩, _, stores_whole (E1.gM 0 rfl) rfl (by simp) (by simp [isOne]) (by simp), ?_⟩
    have E2 := E1.pM (o' := fO (false, ByteArray.empty)) 0 rfl
    exact ⟨_, _, ⟨E2.cM 0 rfl (i := 0) rfl, E2.cM 0 rfl (i := 1) rfl, trivial⟩, Fin.of (hQ _ E2.zM)⟩
theorem sget_wp {Q : Bool → ByteArray → Bool → Heap → Prop} (E : Keep B h0 (L ++ x.m vd rd) h) (R : FRow x.rt x.vt l) (Rd : DRow_file_File rd vd d) (s : SortD d) (hd : d.length ≤ 1000)
    (hQ : ∀ h', Keep B h0 (L ++ x.m vd rd) h' → Q (getS l d n).1.1 (getS l d n).1.2 (getS l d n).2 h') : C_sheet_Sheet_Get B (some ⟨x.ks, 0, none⟩) (some ⟨x.kT, 0, none⟩) n h Q := by
  refine C_sheet_Sheet_Get.of ?_
  unfold S_sheet_Sheet_Get
  intro k7 a7 b7 h8 e8
  have E1 := E.nM a7 b7 e8
  refine ⟨fun e => (by cases e), fun _ => ⟨_, rfl, _, E1.cM 3 rfl (i := 0) rfl, ?_⟩⟩
  refine get_file_File_wp (i := L.length + 4) E1 ⟨upM 4 rfl, upM 5 rfl⟩ Rd s (by omega) fun h27 E2 => ?_
  cases hat : atD d n with
  | some f =>
    rw [getS_some hat] at hQ
    refine ⟨fun _ k34 a34 b34 h35 e35 => ?_, fun e => by cases e⟩
    have E3 := E2.nM a34 b34 e35
    refine ⟨_, stores_whole (E3.gM 7 rfl) rfl (by simp) (by simp [isOne]) (by simp), ?_⟩
    have E4 := E3.pM (o' := fO f) 7 rfl
    refine ⟨_, _, ⟨E4.cM 7 rfl (i := 0) rfl, E4.cM 7 rfl (i := 1) rfl, trivial⟩, _, stores_whole (E4.gM 6 rfl) rfl (by simp) (by simp [isOne]) (by simp), ?_⟩
    have E5 := E4.pM (o' := fO f) 6 rfl
    exact ⟨_, _, ⟨E5.cM 6 rfl (i := 0) rfl, E5.cM 6 rfl (i := 1) rfl, trivial⟩, Fin.of (hQ _ (E5.tM 6))⟩
  | none =>
    rw [getS_none hat] at hQ
    refine ⟨fun e => (by cases e), fun _ k31 a31 b31 h32 e32 => ?_⟩
    have E3 := E2.nM a31 b31 e32
    refine ⟨_, stores_whole (E3.gM 7 rfl) rfl (by simp) (by simp [isOne]) (by simp), Fin.of ?_⟩
    have E4 := (E3.pM (o' := fO (false, ByteArray.empty)) 7 rfl).tM 7
    unfold S_sheet_Sheet_Get_J1
    refine tget_wp (i := L.length) E4 ⟨upM 0 rfl, ⟨upM 1 rfl, upM 2 rfl⟩⟩ R fun h11 E5 => ?_
    intro k15 a15 b15 h16 e16
    have E6 := E5.nM a15 b15 e16
    refine ⟨_, stores_whole (E6.gM 7 rfl) rfl (by simp) (by simp [isOne]) (by simp), ?_⟩
    have E7 := E6.pM (o' := fO (fileAt l n).1) 7 rfl
    refine ⟨_, _, ⟨E7.cM 7 rfl (i := 0) rfl, E7.cM 7 rfl (i := 1) rfl, trivial⟩, _, stores_whole (E7.gM 6 rfl) rfl (by simp) (by simp [isOne]) (by simp), ?_⟩
    have E8 := E7.pM (o' := fO (fileAt l n).1) 6 rfl
    exact ⟨_, _, ⟨E8.cM 6 rfl (i := 0) rfl, E8.cM 6 rfl (i := 1) rfl, trivial⟩, Fin.of (hQ _ (E8.tM 6))⟩
theorem sput_wp {Q : Bool → Heap → Prop} (E : Keep B h0 (L ++ x.m vd rd) h) (R : FRow x.rt x.vt l) (Rd : DRow_file_File rd vd d) (s : SortD d) (hd : d.length ≤ 1000) (hn : 0 ≤ n ∧ n < 6)
    (hQ : ∀ vd' rd' h', DRow_file_File rd' vd' (putS l d n f) → Keep B h0 (L ++ x.m vd' rd') h' → Q true h') : C_sheet_Sheet_put B (some ⟨x.ks, 0, none⟩) (some ⟨x.kT, 0, none⟩) n f.1 f.2 h Q := by
  refine C_sheet_Sheet_put.of ?_
  unfold S_sheet_Sheet_put
  intro k7 a7 b7 h8 e8
  have E1 : Keep B h0 ((some (k7, fO f) :: L) ++ x.m vd rd) h8 := by
    have := E.made a7 b7 e8
    refine this.remap (fun j => if j = 0 then (L ++ x.m vd rd).length else j - 1) (fun j y hy => ?_) (fun i j hi hj e => ?_)
    · cases j with
      | zero =>
        simp only [List.cons_append, List.getElem?_cons_zero] at hy
        simp only [if_true]
        rw [List.getElem?_append_right (Nat.le_refl _), Nat.sub_self]; exact hy
      | succ j =>
        simp only [List.cons_append, List.getElem?_cons_succ] at hy
        simp only [Nat.add_one_ne_zero, if_false, Nat.add_sub_cancel]
        exact up_app _ hy
    · simp only [List.length_append, List.length_cons] at hi hj
      have e : (if i = 0 then (L ++ x.m vd rd).length else i - 1) = (if j = 0 then (L ++ x.m vd rd).length else j - 1) := e
      rw [List.length_append] at e
      split at e <;> split at e <;> omega
  refine ⟨fun e => (by cases e), fun _ => ⟨fun hlt => by omega, fun _ => ⟨fun hge => by omega, fun _ => Fin.of ?_⟩⟩⟩
  unfold S_sheet_Sheet_put_J1
  refine sget_wp E1 R Rd s hd fun h11 E2 => ?_
  intro k15 a15 b15 h16 e16
  have E3 := E2.nM a15 b15 e16
  refine ⟨_, stores_whole (E3.gM 6 rfl) rfl (by simp) (by simp [isOne]) (by simp), ?_⟩
  have E4 := E3.pM (o' := fO (getS l d n).1) 6 rfl
  refine ⟨_, _, ⟨E4.cM 6 rfl (i := 0) rfl, E4.cM 6 rfl (i := 1) rfl, trivial⟩, _, _, ⟨E4.cell 0 rfl (j := 0) rfl, E4.cell 0 rfl (j := 1) rfl, trivial⟩, fun he => ?_, fun hne => ?_⟩
  · have hf : (getS l d n).1 = f := eqL_file_eq he
    unfold putS at hQ
    rw [if_pos hf] at hQ
    refine Fin.of (hQ vd rd _ Rd ?_)
    have E5 : Keep B h0 (some (k7, fO f) :: (L ++ x.m vd rd)) _ := E4.tM 6
    exact E5.remap (fun j => j + 1) (fun j y hy => by simpa using hy) (fun i j _ _ e => by simpa using e)
  · have hf : ¬ (getS l d n).1 = f := fun e => hne (by rw [← e]; exact eqL_refl _ _)
    unfold putS at hQ
    rw [if_neg hf] at hQ
    refine ⟨_, rfl, _, E4.cM 3 rfl (i := 0) rfl, _, _, ⟨E4.cell 0 rfl (j := 0) rfl, E4.cell 0 rfl (j := 1) rfl, trivial⟩, ?_⟩
    refine put_file_File_wp (i := (some (k7, fO f) :: L).length + 4) E4 ⟨upM 4 rfl, upM 5 rfl⟩ Rd s (by omega) fun v' r' h65 R' E5 => ?_
    rw [setM, show (some (k7, fO f) :: L).length + 4 + 1 = (some (k7, fO f) :: L).length + 5 from rfl, setM] at E5
    refine ⟨E5.cM 3 rfl (i := 0) rfl, ⟨E5.cell 0 rfl (j := 0) rfl, E5.cell 0 rfl (j := 1) rfl, trivial⟩, Fin.of (hQ v' r' _ R' ?_)⟩
    have E6 : Keep B h0 (some (k7, fO f) :: (L ++ x.m v' r')) _ := E5.tM 6
    exact E6.remap (fun j => j + 1) (fun j y hy => by simpa using hy) (fun i j _ _ e => by simpa using e)
end
end Go.Proofs.Ytcncdfmnpmmikaa.H
namespace Go.Proofs.Ytcncdfmnpmmikaa.H
open Go Go.RowKit
set_option linter.unusedVariables false
set_option maxRecDepth 100000
theorem TK.files_kd : leafB PG 6 TY.a_6_file_File = some [.bool, .str, .bool, .str, .bool, .str, .bool, .str, .bool, .str, .bool, .str] := by kernel_rfl
theorem Files_arg {H : Type} {enc : TypeId × Value → H} {w : World} {base : Nat} {spare : Nat → Bool} {held : Bool} {cs : Array Value} {d : DataW H} {p : List MemPlace} (h : DataW.Trod enc PG w base spare held TY.a_6_file_File (.agg cs) d p) :
    ∃ z : FL, z.length = 6 ∧ (∀ q x, z[q]? = some x → x.2 = ((q : Nat) : Int)) ∧ cs = (filesC z).toArray := by
  have hk := arg_agg TK.files_kd h
  obtain ⟨b1, v1, e1, g1⟩ := hk.bool
  obtain ⟨s1, w1, rfl, _, k1⟩ := g1.str
  obtain ⟨b2, v2, rfl, g2⟩ := k1.bool
  obtain ⟨s2, w2, rfl, _, k2⟩ := g2.str
  obtain ⟨b3, v3, rfl, g3⟩ := k2.bool
  obtain ⟨s3, w3, rfl, _, k3⟩ := g3.str
  obtain ⟨b4, v4, rfl, g4⟩ := k3.bool
  obtain ⟨s4, w4, rfl, _, k4⟩ := g4.str
  obtain ⟨b5, v5, rfl, g5⟩ := k4.bool
  obtain ⟨s5, w5, rfl, _, k5⟩ := g5.str
  obtain ⟨b6, v6, rfl, g6⟩ := k5.bool
  obtain ⟨s6, w6, rfl, _, k6⟩ := g6.str
  obtain rfl := k6.nil
  refine ⟨[((b1, s1), 0), ((b2, s2), 1), ((b3, s3), 2), ((b4, s4), 3), ((b5, s5), 4), ((b6, s6), 5)], rfl, fun q x hx => ?_, ?_⟩
  · match q, hx with
    | 0, hx => cases hx; rfl
    | 1, hx => cases hx; rfl
    | 2, hx => cases hx; rfl
    | 3, hx => cases hx; rfl
    | 4, hx => cases hx; rfl
    | 5, hx => cases hx; rfl
    | q + 6, hx => simp at hx
  · rw [← Array.toList_inj, e1]; rfl
theorem cur_set {α : Type} (z w : List α) (hl : z.length = w.length) {j : Nat} {x : α} (h : z[j]? = some x) : (z.take j ++ w.drop j).set j x = z.take (j + 1) ++ w.drop (j + 1) := by
  obtain ⟨hj, rfl⟩ := List.getElem?_eq_some_iff.1 h
  have h1 : (z.take j).length = j := by rw [List.length_take]; omega
  rw [List.set_append_right _ _ (by omega), h1, Nat.sub_self, List.drop_eq_getElem_cons (by omega : j < w.length), List.set_cons_zero, List.take_succ_eq_append_getElem hj, List.append_assoc]; rfl
section
variable {B : RO} {h0 h h' : Heap} {L : List (Option (Nat × AObj))} {r rd : Option (Nat × AObj)} {v vd : Value} {l z : FL} {d : DFL} {n : Int} {x : ShI} {f : FileS} {from' tj : Int}
theorem blk_cells {k n : Nat} {t : TypeId} {cs : List Value} (g : h k = some (.vec t (plains cs) n)) : CellsAt B h ⟨k, 0, none⟩ 0 cs :=
  CellsAt.of_vec _ 0 g fun j y hj => by rw [plains_get, Nat.zero_add, hj]; rfl
theorem srename_wp {Q : Bool → Heap → Prop} (E : Keep B h0 (L ++ x.m vd rd) h) (R : FRow x.rt x.vt l) (Rd : DRow_file_File rd vd d) (s : SortD d) (hd : d.length ≤ 900) (h1 : 0 ≤ from' ∧ from' < 6) (h2 : 0 ≤ tj ∧ tj < 6) (hne : from' ≠ tj) (his : (getS l d from').1.1 = true)
    (hQ : ∀ vd' rd' h', DRow_file_File rd' vd' (putS l (putS l d tj (getS l d from').1) from' (false, ByteArray.empty)) → Keep B h0 (L ++ x.m vd' rd') h' → Q true h') : C_sheet_Sheet_Rename B (some ⟨x.ks, 0, none⟩) (some ⟨x.kT, 0, none⟩) from' tj h Q := by
  refine C_sheet_Sheet_Rename.of ?_
  unfold S_sheet_Sheet_Rename
  refine sget_wp E R Rd s (by omega) fun h6 E1 => ?_
  intro k10 a10 b10 h11 e11
  have E2 := E1.nM a10 b10 e11
  refine ⟨_, stores_whole (E2.gM 6 rfl) rfl (by simp) (by simp [isOne]) (by simp), fun e => (by cases e), fun _ => ⟨fun hn => by omega, fun _ => ⟨fun hn => by omega, fun _ => ⟨fun hn => by omega, fun _ => ⟨fun hn => by omega, fun _ => Fin.of ?_⟩⟩⟩⟩⟩
  have E3 := E2.pM (o' := fO (getS l d from').1) 6 rfl
  unfold S_sheet_Sheet_Rename_J2
  refine ⟨fun e => (by cases e), fun _ => ⟨_, E3.cM 6 rfl (i := 0) rfl, fun _ => ⟨fun e => absurd e hne, fun _ => Fin.of ?_⟩, fun hb => by rw [his] at hb; cases hb⟩⟩
  unfold S_sheet_Sheet_Rename_J1
  refine ⟨_, _, ⟨E3.cM 6 rfl (i := 0) rfl, E3.cM 6 rfl (i := 1) rfl, trivial⟩, ?_⟩
  have E4 := E3.tM 6
  refine sput_wp (f := (getS l d from').1) E4 R Rd s (by omega) h2 fun v1 r1 h17 R1 E5 => ?_
  have hl1 := putS_len l d tj (getS l d from').1
  exact sput_wp (f := (false, ByteArray.empty)) E5 R R1 (putS_sort s _ _) (by omega) h1 fun v2 r2 h19 R2 E6 => Fin.of (hQ v2 r2 _ R2 E6)
theorem make_wp {b : Bool} {s : ByteArray} {Q : Bool → ByteArray → Heap → Prop} (hQ : ∀ h', Wk B h h' → Q true s h') : C_file_Make B b s h Q := by
  refine C_file_Make.of ?_
  unfold S_file_Make
  intro k5 a5 b5 h6 e6 k7 a7 b7 h8 e8
  have E := ((Keep.nil B h).made a5 b5 e6).made a7 b7 e8
  refine ⟨_, E.cell 0 rfl rfl, _, stores_whole E.last rfl (by simp) (by simp [isOne]) (by simp), ?_⟩
  have E1 := E.putLast (fO (true, s))
  exact ⟨_, _, ⟨cellH_vec E1.last rfl, cellH_vec E1.last rfl, trivial⟩, Fin.of (hQ _ E1.w)⟩
theorem screate_wp {Q : Bool → Heap → Prop} (E : Keep B h0 (L ++ x.m vd rd) h) (R : FRow x.rt x.vt l) (Rd : DRow_file_File rd vd d) (s : SortD d) (hd : d.length ≤ 900) (h1 : 0 ≤ n ∧ n < 6)
    (hQ : ∀ vd' rd' h', DRow_file_File rd' vd' (putS l d n (true, (getS l d n).1.2)) → Keep B h0 (L ++ x.m vd' rd') h' → Q true h') : C_sheet_Sheet_Create B (some ⟨x.ks, 0, none⟩) (some ⟨x.kT, 0, none⟩) n h Q := by
  refine C_sheet_Sheet_Create.of ?_
  unfold S_sheet_Sheet_Create
  refine sget_wp E R Rd s (by omega) fun h5 E1 => ?_
  intro k9 a9 b9 h10 e10
  have E2 := E1.nM a9 b9 e10
  refine ⟨_, stores_whole (E2.gM 6 rfl) rfl (by simp) (by simp [isOne]) (by simp), ?_⟩
  have E3 := E2.pM (o' := fO (getS l d n).1) 6 rfl
  refine ⟨_, _, ⟨E3.cM 6 rfl (i := 0) rfl, E3.cM 6 rfl (i := 1) rfl, trivial⟩, make_wp fun h14 w => ?_⟩
  have E4 := (E3.wk w).tM 6
  exact sput_wp (f := (true, (getS l d n).1.2)) E4 R Rd s (by omega) h1 fun v1 r1 h17 R1 E5 => Fin.of (hQ v1 r1 _ R1 E5)
theorem snew_wp {Q : Option Addr → Heap → Prop} (hQ : ∀ ks kf h', Keep B h [some (ks, shtO kf), some (kf, drO_file_File (.slice none 0 0)), none] h' → Q (some ⟨ks, 0, none⟩) h') : C_sheet_New B h Q := by
  refine C_sheet_New.of ?_
  unfold S_sheet_New
  intro k2 a2 b2 h3 e3 k4 a4 b4 h5 e5
  have E := ((Keep.nil B h).made a2 b2 e3).made a4 b4 e5
  exact Fin.of (hQ k4 k2 h5 (E.gap.picks [1, 0, 2] (by decide)))
theorem is14_wp {Q : Bool → Heap → Prop} (hQ : Q (decide (0 ≤ n ∧ n ≤ 5)) h) : C_countermandref14_Is B n h Q := by
  refine C_countermandref14_Is.of ?_
  unfold S_countermandref14_Is
  refine ⟨fun h1 => Fin.of ?_, fun h1 => Fin.of ?_⟩
  · have : decide (0 ≤ n ∧ n ≤ 5) = decide (n ≤ 5) := by simp; omega
    rw [this] at hQ; exact hQ
  · rw [decide_eq_false (by omega)] at hQ; exact hQ
theorem alive14_wp {Q : Bool → Heap → Prop} (hQ : ∀ h', Keep B h [] h' → Q true h') : C_countermandlaw14_alive B h Q := by
  refine C_countermandlaw14_alive.of ?_
  unfold S_countermandlaw14_alive
  refine snew_wp fun ks kf h2 E1 => tnew_wp fun kT kR v r h4 R E2 => ?_
  let x : ShI := ⟨kT, kR, v, r, ks, kf⟩
  have E3 : Keep B h ([] ++ x.m (.slice none 0 0) none) h4 := (E1.append E2).picks [3, 4, 5, 0, 1, 2] (by decide)
  have hR : FRow x.rt x.vt zF := R
  have hz : ∀ m : Int, getS zF [] m = ((fileAt zF m).1, false) := fun m => getS_none rfl
  have hz0 : ∀ m : Int, (fileAt zF m).1 = (false, ByteArray.empty) := fun m => by
    unfold fileAt
    split
    · cases hq : zF[m.toNat]? with
      | none => rfl
      | some y =>
        have := List.mem_of_getElem? hq
        rw [zF, List.mem_replicate] at this
        rw [this.2]; rfl
    · rfl
  refine screate_wp (x := x) (d := ([] : DFL)) E3 hR (Row.nil _ _) List.Pairwise.nil (by simp) (by omega) fun v1 r1 h35 R1 E4 => ⟨fun _ => ?_, fun e => by cases e⟩
  have d1 : putS zF [] 1 (true, (getS zF [] 1).1.2) = insD [] 1 (true, ByteArray.empty) := by
    rw [hz, hz0]; unfold putS; rw [if_neg (by rw [hz, hz0]; simp)]
  rw [d1] at R1
  have g1 : ∀ m, getS zF (insD [] 1 (true, ByteArray.empty)) m = if m = 1 then ((true, ByteArray.empty), true) else ((false, ByteArray.empty), false) := fun m => by
    rw [getS_ins, hz, hz0]
  refine srename_wp (x := x) E4 hR R1 (SortD.ins List.Pairwise.nil) (by have := insD_len (l := ([] : DFL)) (i := 1) (v := (true, ByteArray.empty)); simp at this ⊢; omega) (by omega) (by omega) (by omega) (by rw [g1]; rfl) fun v2 r2 h37 R2 E5 => ⟨fun _ => Fin.of ?_, fun e => by cases e⟩
  rw [g1, if_pos rfl] at R2
  have d2 : putS zF (insD [] 1 (true, ByteArray.empty)) 2 (true, ByteArray.empty) = insD (insD [] 1 (true, ByteArray.empty)) 2 (true, ByteArray.empty) := by
    unfold putS; rw [if_neg (by rw [g1, if_neg (by omega)]; simp)]
  rw [d2] at R2
  have d3 : putS zF (insD (insD [] 1 (true, ByteArray.empty)) 2 (true, ByteArray.empty)) 1 (false, ByteArray.empty) = insD (insD (insD [] 1 (true, ByteArray.empty)) 2 (true, ByteArray.empty)) 1 (false, ByteArray.empty) := by
    unfold putS; rw [if_neg (by rw [getS_ins, if_neg (by omega), g1, if_pos rfl]; simp)]
  rw [d3] at R2
  have s2 : SortD (insD (insD (insD ([] : DFL) 1 (true, ByteArray.empty)) 2 (true, ByteArray.empty)) 1 (false, ByteArray.empty)) := SortD.ins (SortD.ins (SortD.ins List.Pairwise.nil))
  have l2 : (insD (insD (insD ([] : DFL) 1 (true, ByteArray.empty)) 2 (true, ByteArray.empty)) 1 (false, ByteArray.empty)).length ≤ 1000 := by
    have a1 := insD_len (l := ([] : DFL)) (i := 1) (v := (true, ByteArray.empty))
    have a2 := insD_len (l := insD ([] : DFL) 1 (true, ByteArray.empty)) (i := 2) (v := (true, ByteArray.empty))
    have a3 := insD_len (l := insD (insD ([] : DFL) 1 (true, ByteArray.empty)) 2 (true, ByteArray.empty)) (i := 1) (v := (false, ByteArray.empty))
    simp only [List.length_nil] at a1
    omega
  have g2 : getS zF (insD (insD (insD [] 1 (true, ByteArray.empty)) 2 (true, ByteArray.empty)) 1 (false, ByteArray.empty)) 2 = ((true, ByteArray.empty), true) := by
    rw [getS_ins, if_neg (by omega), getS_ins, if_pos rfl]
  have g3 : getS zF (insD (insD (insD [] 1 (true, ByteArray.empty)) 2 (true, ByteArray.empty)) 1 (false, ByteArray.empty)) 1 = ((false, ByteArray.empty), true) := by
    rw [getS_ins, if_pos rfl]
  unfold S_countermandlaw14_alive_J1
  refine sget_wp (x := x) E5 hR R2 s2 l2 fun h8 E6 => ?_
  rw [g2]
  refine ⟨fun _ k23 a23 b23 h24 e24 => ?_, fun e => by cases e⟩
  have E7 := E6.made a23 b23 e24
  refine ⟨_, stores_whole E7.last rfl (by simp) (by simp [isOne]) (by simp), ?_⟩
  have E8 := E7.putLast (fO (true, ByteArray.empty))
  have E9 : Keep B h ([some (k23, fO (true, ByteArray.empty))] ++ x.m v2 r2) _ := E8.picks [6, 0, 1, 2, 3, 4, 5] (by decide)
  refine sget_wp (x := x) E9 hR R2 s2 l2 fun h26 E10 => ?_
  rw [g3]
  intro k30 a30 b30 h31 e31
  have E11 := E10.made a30 b30 e31
  refine ⟨_, stores_whole E11.last rfl (by simp) (by simp [isOne]) (by simp), ?_⟩
  have E12 := E11.putLast (fO (false, ByteArray.empty))
  exact ⟨_, E12.cell 0 rfl rfl, fun _ => ⟨_, cellH_vec E12.last rfl, Fin.of (hQ _ (E12.take 0))⟩, fun e => by cases e⟩
def afB (z : FL) : AObj := .vec TY.a_6_file_File (plains (filesC z ++ [])) 12
end
end Go.Proofs.Ytcncdfmnpmmikaa.H
namespace Go.Proofs.Ytcncdfmnpmmikaa.H
open Go Go.RowKit
set_option linter.unusedVariables false
set_option maxRecDepth 100000
theorem semH_convStr {P : Program} {B : RO} {h : Heap} {src dst e : TypeId} {s : ByteArray} {K : Value → Heap → Prop} (h1 : P.underlying src = some .string) (h2 : P.underlying dst = some (.slice e)) (h3 : P.underlying e = some (.int .u8)) (he : e = 5)
    (hk : ∀ k c nn js, h k = none → B k = none → s.size ≤ c → c ≤ nn → K (.slice (some ⟨k, 0, none⟩) s.size c) (h.set k (.vec e (plains ((bl s).map byteV ++ js)) nn))) : semH P B (convert src dst (.string s)) h K := by
  unfold convert
  rw [semH_und h1, semH_und h2]
  simp only
  rw [semH_und h3]
  show semH P B (Conv.stringToBytes e s) h K
  unfold Conv.stringToBytes
  refine semH_choose rfl fun q => ?_
  have hcut : s.size ≤ (Question.appendCap s.size 0 e).cut q := by simp [Question.cut]
  generalize (Question.appendCap s.size 0 e).cut q = c at hcut
  refine semH_newRow fun b hb1 hb2 => ?_
  have e1 : ((s.data.map fun b => (Value.int .u8 b.toNat)) ++ Array.replicate (c - s.size) (Value.int .u8 0)).toList = (bl s).map byteV ++ List.replicate (c - s.size) (.int .u8 0) := by
    simp [bl, byteV]
  have e2 : ((s.data.map fun b => (Value.int .u8 b.toNat)) ++ Array.replicate (c - s.size) (Value.int .u8 0)).size = c := by
    simp only [Array.size_append, Array.size_map, Array.size_replicate]
    have : s.data.size = s.size := rfl
    omega
  rw [e1, e2, semH_bind]
  unfold markStringish
  rw [semH_bind]
  refine ⟨some (e, c), by simp [shapeH, Heap.set_same], ?_⟩
  refine ⟨⟨e, _, c, Heap.set_same _ _ _, Nat.le_refl _, he⟩, by omega, ?_⟩
  exact hk b c c _ hb1 hb2 hcut (Nat.le_refl _)
theorem TK.und_str : PG.underlying TY.string = some .string := by kernel_rfl
theorem TK.und_bytes : PG.underlying TY.s_uint8 = some (.slice TY.uint8) := by kernel_rfl
theorem TK.und_u8 : PG.underlying TY.uint8 = some (.int .u8) := by kernel_rfl
def padT (n : Nat) (l : List UInt8) : List UInt8 := l ++ List.replicate (n - l.length) 0
theorem padT_len (n : Nat) (l : List UInt8) : (padT n l).length = max l.length n := by simp [padT]; omega
theorem padT_self {n : Nat} {l : List UInt8} (h : n ≤ l.length) : padT n l = l := by
  unfold padT; rw [show n - l.length = 0 by omega]; simp
theorem padT_succ {n : Nat} {l : List UInt8} (h : l.length ≤ n) : padT n l ++ [0] = padT (n + 1) l := by
  unfold padT; rw [show n + 1 - l.length = n - l.length + 1 by omega, List.replicate_succ', List.append_assoc]
theorem padT_get {n i : Nat} {l : List UInt8} (h : i < max l.length n) : (padT n l)[i]? = some ((l[i]?).getD 0) := by
  unfold padT
  by_cases hi : i < l.length
  · rw [List.getElem?_append_left hi, List.getElem?_eq_getElem hi]; rfl
  · rw [List.getElem?_append_right (by omega), List.getElem?_replicate, if_pos (by omega), List.getElem?_eq_none (by omega)]; rfl
def putT (l : List UInt8) (k : Nat) (c : UInt8) : List UInt8 := (padT (k + 1) l).set k c
def putF (f : FileS) (at' : Int) (c : UInt8) : FileS := if 0 ≤ at' ∧ at' < 32 then (true, ba (putT (bl f.2) at'.toNat c)) else f
def cutT (l : List UInt8) (n : Nat) : List UInt8 := (padT n l).take n
def cutF (f : FileS) (n : Int) : FileS := if f.1 = true ∧ 0 ≤ n ∧ n ≤ 32 then (true, ba (cutT (bl f.2) n.toNat)) else f
theorem cutT_len (l : List UInt8) (n : Nat) : (cutT l n).length = n := by unfold cutT; rw [List.length_take, padT_len]; omega
theorem putT_len (l : List UInt8) (k : Nat) (c : UInt8) : (putT l k c).length = max l.length (k + 1) := by unfold putT; rw [List.length_set, padT_len]
def byteOf (l : List UInt8) (i : Nat) : UInt8 := (l[i]?).getD 0
theorem putT_get {l : List UInt8} {k i : Nat} {c : UInt8} (h : i < max l.length (k + 1)) : (putT l k c)[i]? = some (if i = k then c else byteOf l i) := by
  unfold putT
  by_cases e : i = k
  · subst e
    rw [if_pos rfl, List.getElem?_set_self (by rw [padT_len]; exact h)]
  · rw [if_neg e, List.getElem?_set_ne (fun x => e x.symm), padT_get h]; rfl
theorem cutT_get {l : List UInt8} {n i : Nat} (h : i < n) : (cutT l n)[i]? = some (byteOf l i) := by
  unfold cutT
  rw [List.getElem?_take, if_pos h, padT_get (by omega)]; rfl
theorem map_flat (l : List UInt8) : l.map byteV = l.flatMap fun c => [byteV c] := by induction l with | nil => rfl | cons c l ih => simp [ih]
section
variable {B : RO} {h h0 : Heap} {L : List (Option (Nat × AObj))} {b : Bool} {s : ByteArray}
def fiO (f : FileS) : AObj := .vec TY.file_File (plains [.bool f.1, .string f.2]) 2
def frfO (f : FileS) : AObj := .vec TY.countermandref09_File (plains [.bool f.1, .string f.2]) 2
theorem fput_wp {at' v : Int} {c : UInt8} (hv : v = ((c.toNat : Nat) : Int)) (hs : s.size ≤ 1000000) {Q : Bool → ByteArray → Heap → Prop} (hQ : ∀ h', Wk B h h' → Q (putF (b, s) at' c).1 (putF (b, s) at' c).2 h') : C_file_Put B b s at' v h Q := by
  refine C_file_Put.of ?_
  unfold S_file_Put
  intro k7 a7 b7 h8 e8 k9 a9 b9 h10 e10
  have E := ((Keep.nil B h).made a7 b7 e8).made a9 b9 e10
  have E : Keep B h [some (k7, fiO (b, s)), some (k9, fiO (false, ByteArray.empty))] h10 := E
  have done : ¬ (0 ≤ at' ∧ at' < 32) → ∃ b45 : Bool, ∃ s46 : ByteArray, CellsAt B h10 ⟨k7, 0, none⟩ 0 [(.bool b45), (.string s46)] ∧ ∃ h47 : Heap, StoresAt ⟨k9, 0, none⟩ h10 0 [(.bool b45), (.string s46)] h47 ∧
      ∃ b48 : Bool, ∃ s49 : ByteArray, CellsAt B h47 ⟨k9, 0, none⟩ 0 [(.bool b48), (.string s49)] ∧ Fin B h47 (Q (b48) s49) := fun hn => by
    unfold putF at hQ
    rw [if_neg hn] at hQ
    refine ⟨b, s, ⟨E.cell 0 rfl (j := 0) rfl, E.cell 0 rfl (j := 1) rfl, trivial⟩, _, stores_whole (E.at 1 rfl) rfl (by simp) (by simp [isOne]) (by simp), ?_⟩
    have E1 := E.put (o' := fiO (b, s)) 1 rfl
    exact ⟨_, _, ⟨E1.cell 1 rfl (j := 0) rfl, E1.cell 1 rfl (j := 1) rfl, trivial⟩, Fin.of (hQ _ E1.w)⟩
  refine ⟨fun hlt => done (by omega), fun hge => ⟨fun h32 => done (by omega), fun hlt => Fin.of ?_⟩⟩
  clear done
  have hin : 0 ≤ at' ∧ at' < 32 := by omega
  obtain ⟨k, rfl⟩ := Int.eq_ofNat_of_zero_le hin.1
  unfold putF at hQ
  rw [if_pos hin, Int.toNat_natCast] at hQ
  unfold S_file_Put_J1
  refine ⟨s, E.cell 0 rfl (j := 1) rfl, semH_convStr TK.und_str TK.und_bytes TK.und_u8 rfl fun kr c0 nn js hk1 hk2 hc1 hc2 => ⟨_, _, _, rfl, ?_⟩⟩
  have E1 := E.new (o := .vec TY.uint8 (plains ((bl s).map byteV ++ js)) nn) hk1 hk2
  have R1 : Row (some (kr, .vec TY.uint8 (plains ((bl s).map byteV ++ js)) nn)) (.slice (some ⟨kr, 0, none⟩) s.size c0) TY.uint8 1 ((bl s).map byteV) := .inr ⟨kr, s.size, c0, nn, js, rfl, rfl, by simp [bl_length], hc1, by omega⟩
  refine ⟨fun a n c m h' => ∃ r l, Row r (.slice a n c) TY.uint8 1 (l.map byteV) ∧ l.length = n ∧ l = padT n (bl s) ∧ s.size ≤ n ∧ n ≤ max s.size (k + 1) ∧ m = k + 1 - n ∧ Keep B h [some (k7, fiO (b, s)), some (k9, fiO (false, ByteArray.empty)), r] h', k + 1 - s.size, Fin.of ⟨_, bl s, R1, bl_length s, (padT_self (by rw [bl_length]; omega)).symm, by omega, by omega, rfl, E1⟩, ?_⟩
  clear E1 R1 E
  rintro a n c1 _ h34 ⟨r, l, R, hl, hp, hn1, hn2, rfl, E⟩
  refine ⟨fun hle k39 hk1 hk2 h40 e40 => ?_, fun hgt => Fin.of ?_⟩
  · refine E.push1 2 rfl R TK.slc_bytes TK.zero_byte rfl (by omega) (by omega) TK.sl_bytes (ys := [.int .u8 0]) rfl (by simp [isOne]) (by simp; omega) hk1 hk2 e40 fun a' m' c' r' h'' R' E' => ⟨_, _, _, rfl, Fin.of ?_⟩
    have e1 : m' = n + 1 := by
      have := R'.len
      simp only [List.length_append, List.length_map, List.length_cons, List.length_nil] at this
      omega
    subst e1
    refine ⟨k + 1 - (n + 1), by omega, r', l ++ [0], ?_, by simp [hl], by rw [← padT_succ (by rw [bl_length]; omega), ← hp], by omega, by omega, rfl, E'⟩
    rw [List.map_append]; exact R'
  · have hkn : k < n := by omega
    have hn3 : n = max s.size (k + 1) := by omega
    unfold S_file_Put_J2
    rw [map_flat] at R
    obtain ⟨A, h25, r', ea, st, R', E2⟩ := E.rowSet 2 rfl R (fun _ => rfl) (by omega) k (by omega) c (by simp [byteV, isOne])
    refine ⟨A, ea, by omega, by omega, h25, ?_, ?_⟩
    · obtain ⟨_, w, e1, e2⟩ := st
      obtain rfl : h25 = w := e2
      rw [Int.toNat_natCast, hv]; exact e1
    · rw [← map_flat] at R'
      have e3 : l.set k c = putT (bl s) k c := by
        unfold putT
        rw [hp, hn3]
        by_cases e4 : s.size ≤ k + 1
        · rw [Nat.max_eq_right e4]
        · rw [Nat.max_eq_left (by omega), padT_self (by rw [bl_length]; omega), padT_self (by rw [bl_length]; omega)]
      rw [e3] at R'
      refine semH_convB TK.byteStr (semH_bytesToString (E2.sl 2 rfl R') ⟨_, rfl, _, stores_whole (E2.at 1 rfl) rfl (by simp) (by simp [isOne]) (by simp), ?_⟩)
      have E3 := E2.put (o' := fiO (true, ba (putT (bl s) k c))) 1 rfl
      exact ⟨_, _, ⟨E3.cell 1 rfl (j := 0) rfl, E3.cell 1 rfl (j := 1) rfl, trivial⟩, Fin.of (hQ _ E3.w)⟩
end
end Go.Proofs.Ytcncdfmnpmmikaa.H
namespace Go.Proofs.Ytcncdfmnpmmikaa.H
open Go
set_option linter.unusedVariables false
noncomputable def wordOf (l : List UInt8) : Option (Nat × List UInt8) :=
  open Classical in if h : ∃ p : Nat × List UInt8, l = natB p.1 ++ p.2 ∧ p.1 < 18446744073709551616 then some (Classical.choose h) else none
theorem wordOf_none {l : List UInt8} (h : ∀ n r, l = natB n ++ r → ¬ n < 18446744073709551616) : wordOf l = none := by
  unfold wordOf
  rw [dif_neg]
  rintro ⟨p, h1, h2⟩
  exact h _ _ h1 h2
theorem natB_cons_lo {m : Nat} {b : UInt8} {r t : List UInt8} (hb : b.toNat < 128) : b :: t = natB m ++ r ↔ m = b.toNat ∧ t = r := by
  by_cases hm : m < 128
  · rw [natB_lo hm]
    simp only [List.cons_append, List.nil_append, List.cons.injEq]
    constructor
    · rintro ⟨h1, h2⟩
      refine ⟨?_, h2⟩
      rw [h1, UInt8.toNat_ofNat']; omega
    · rintro ⟨h1, h2⟩
      refine ⟨?_, h2⟩
      rw [h1]; simp
  · rw [natB_hi hm]
    constructor
    · intro h
      simp only [List.cons_append, List.cons.injEq] at h
      rw [h.1, UInt8.toNat_ofNat'] at hb
      omega
    · intro h; omega
def Half (l : List UInt8) (k acc : Nat) (rest : List UInt8) : Prop :=
  acc < 2 ^ (7 * k) ∧ rest.length + k = l.length ∧ ∀ n r, l = natB n ++ r ↔ rest = natB (n / 2 ^ (7 * k)) ++ r ∧ n % 2 ^ (7 * k) = acc ∧ (0 < k → 2 ^ (7 * k) ≤ n)
theorem Half.zero (l : List UInt8) : Half l 0 0 l := ⟨by simp, rfl, fun n r => by simp [Nat.mod_one]⟩
theorem Half.done {l t : List UInt8} {k acc : Nat} {b : UInt8} (h : Half l k acc (b :: t)) (hb : b.toNat < 128) (h0 : 0 < k → b.toNat ≠ 0) : l = natB (acc + b.toNat * 2 ^ (7 * k)) ++ t := by
  obtain ⟨h1, h2, h3⟩ := h
  have hpos : 0 < 2 ^ (7 * k) := Nat.two_pow_pos _
  refine (h3 _ _).2 ⟨(natB_cons_lo hb).2 ⟨?_, rfl⟩, ?_, fun hk => ?_⟩
  · rw [Nat.add_mul_div_right _ _ hpos, Nat.div_eq_of_lt h1, Nat.zero_add]
  · rw [Nat.add_mul_mod_self_right, Nat.mod_eq_of_lt h1]
  · have := h0 hk
    have : 1 * 2 ^ (7 * k) ≤ b.toNat * 2 ^ (7 * k) := Nat.mul_le_mul_right _ (by omega)
    omega
theorem Half.empty {l : List UInt8} {k acc : Nat} (h : Half l k acc []) : wordOf l = none := by
  refine wordOf_none fun n r e => ?_
  have := ((h.2.2 n r).1 e).1
  have h2 := natB_pos (n / 2 ^ (7 * k))
  have h3 := congrArg List.length this
  simp only [List.length_nil, List.length_append] at h3
  omega
theorem bl_extract (s : ByteArray) (i j : Nat) : bl (s.extract i j) = ((bl s).drop i).take (j - i) := by
  unfold bl
  rw [ByteArray.data_extract, Array.toList_extract, List.extract_eq_take_drop]
end Go.Proofs.Ytcncdfmnpmmikaa.H
