/- Redo: Bytes, Read, Apply, Replay: contracts. No condition. -/
import Derived.Test.YthloobpjkeodgaaRb
import Derived.Test.YthloobpjkeodgaaHy
import Derived.Test.YthloobpjkeodgaaXrT
namespace Go.Proofs.Ythloobpjkeodgaa.H
open Go Go.RowKit
set_option linter.unusedVariables false
set_option maxRecDepth 100000

theorem TK.slc_rch : slcB PG TY.s_redo_Change = some (TY.redo_Change, 3, 32) := by kernel_rfl
theorem TK.zero_rch : zeroB PG TY.redo_Change = some [.int .i64 0, .bool false, .string ByteArray.empty] := by kernel_rfl
theorem TK.sl_rch : slT PG TY.s_redo_Change = true := by kernel_rfl
theorem chB_len {x : ChR} (g : GoodC x) : (chB x).length ≤ 60 := by
  obtain ⟨g1, g2, g3⟩ := g
  have h1 := natI_length (i := x.1) (by omega)
  have hs : x.2.2.size ≤ 32 := by unfold goodF at g3; simp at g3; exact g3.1
  have h2 := natB_length (n := x.2.2.size) (by omega)
  unfold chB
  split
  · simp only [List.length_append, List.length_cons, bl_length]; omega
  · simp; omega
theorem chs_len : ∀ (xs : DFL), (∀ x ∈ xs, GoodC x) → (xs.flatMap chB).length ≤ 60 * xs.length
  | [], _ => by simp
  | x :: xs, g => by
    have h1 := chB_len (g x (by simp))
    have h2 := chs_len xs (fun y hy => g y (by simp [hy]))
    rw [List.flatMap_cons, List.length_append, List.length_cons]; omega
theorem chs_take {xs : DFL} {q : Nat} {x : ChR} (h : xs[q]? = some x) : (xs.take (q + 1)).flatMap chB = (xs.take q).flatMap chB ++ chB x := by
  obtain ⟨hq, rfl⟩ := List.getElem?_eq_some_iff.1 h
  rw [List.take_succ_eq_append_getElem hq, List.flatMap_append]; simp
section
variable {B : RO} {h0 h h' : Heap} {L : List (Option (Nat × AObj))} {r : Option (Nat × AObj)} {i k kT kR : Nat} {a : Option Addr} {m c : Nat} {v : Value} {xs : DFL} {l : FL} {s : ByteArray}
theorem nat2_wp {b k c : Nat} {bs : List UInt8} {x y : Int} {Q : Heap → Prop} (hb : h b = some (stylO bs)) (hk : h k = some (.vec TY.int (plains [.int .i64 x, .int .i64 y]) 2)) (hne : k ≠ b) (hx : x ≤ 9223372036854775807) (hy : y ≤ 9223372036854775807) (hbd : bs.length + 60 ≤ 1099511627776)
    (hQ : Q (h.set b (stylO (bs ++ (natI x ++ natI y))))) : C_stylus_Stylus_Nat B (some ⟨b, 0, none⟩) (some ⟨k, 0, none⟩) 2 c h Q := by
  refine nat_wp (ns := [x, y]) hb ?_ (by intro n hn; simp at hn; omega) hbd (by simpa [natsB] using hQ)
  intro i n hi
  match i with
  | 0 => cases hi; exact ⟨_, rfl, hne, cellH_vec hk rfl⟩
  | 1 => cases hi; exact ⟨_, rfl, hne, cellH_vec hk rfl⟩
  | i + 2 => cases hi
theorem redo_bytes_wp {n : Int} {Q : ByteArray → Heap → Prop} (E : Keep B h0 L h) (A : DAt_file_File L i k v r) (R : DRow_file_File r v xs) (g : ∀ x ∈ xs, GoodC x) (hl : xs.length ≤ 1000) (hn : n ≤ 9223372036854775807)
    (hQ : ∀ h', Keep B h0 L h' → Q (ba (loadB n xs)) h') : C_redo_Bytes B n (some ⟨k, 0, none⟩) h Q := by
  refine C_redo_Bytes.of ?_
  unfold S_redo_Bytes
  intro k4 a4 b4 h5 e5 k6 a6 b6 h7 e7
  have E1 := (E.start.nM a4 b4 e5).nM a6 b6 e7
  refine ⟨_, storeH_vec (E1.gM 1 rfl) rfl, ?_⟩
  have E2 := E1.pM (o' := .vec TY.p_stylus_Stylus (plains [.pointer (some ⟨k4, 0, none⟩)]) 1) 1 rfl
  refine ⟨_, E2.cM 1 rfl (i := 0) rfl, ?_⟩
  intro k10 a10 b10 h11 e11
  have E3 := E2.nM a10 b10 e11
  refine Spec.ent (styl_new (E3.gM 0 rfl)) ?_
  have E4 := E3.pM (o' := stylO []) 0 rfl
  refine nat1_wp (E4.gM 0 rfl) (E4.gM 2 rfl) (fun e => absurd e (E4.ne (L.length + 2) (L.length + 0) (upM 2 rfl) (upM 0 rfl) (by omega))) hn (by simp) ?_
  have E5 := (E4.pM (o' := stylO ([] ++ natI n)) 0 rfl).tM 2
  refine fdall_wp fun kc ac bc => ?_
  have E6 := E5.nM (o := .vec TY.p_draft_Draft_file_File [.plain (.pointer (some ⟨k, 0, none⟩))] 1) ac bc rfl
  refine ⟨xs, fdG kc k v r, fun q h' => Keep B h0 (L ++ [some (k4, stylO (natI n ++ (xs.take q).flatMap chB)), some (k6, .vec TY.p_stylus_Stylus (plains [.pointer (some ⟨k4, 0, none⟩)]) 1), some (kc, .vec TY.p_draft_Draft_file_File [.plain (.pointer (some ⟨k, 0, none⟩))] 1)]) h', fdall_iter (k := k) R (by omega), fdG_ins, ?_, Fin.of ?_, ?_, ?_⟩
  · intro q h' E
    exact ⟨E.gM 2 rfl, E.at i (up_app _ A.p), fun k o e => E.at (i + 1) (by rw [up_app _ A.q, e])⟩
  · simpa using E6
  · clear E1 E2 E3 E4 E5 E6
    rintro q h19 i15 b16 s17 hg E
    have gx := g _ (List.mem_of_getElem? hg)
    obtain ⟨g1, g2, g3⟩ := gx
    simp only at g1 g2 g3
    have hs : s17.size ≤ 32 := by unfold goodF at g3; simp at g3; exact g3.1
    have hlen := chs_len (xs.take q) (fun x hx => g x (List.mem_of_mem_take hx))
    have hn0 := natI_length hn
    have hni := natI_length (i := i15) (by omega)
    rw [List.length_take] at hlen
    have n1 : natI 1 = [1] := by rw [show (1 : Int) = ((1 : Nat) : Int) from rfl, natI_nat, natB_1]
    have n0 : natI 0 = [0] := by rw [show (0 : Int) = ((0 : Nat) : Int) from rfl, natI_nat, natB_0]
    intro k23 a23 b23 h24 e24
    have E1 := E.nM a23 b23 e24
    refine ⟨_, stores_whole (E1.gM 3 rfl) rfl (by simp) (by simp [isOne]) (by simp), ?_⟩
    have E2 := E1.pM (o' := .vec TY.file_File (plains [.bool b16, .string s17]) 2) 3 rfl
    refine ⟨b16, E2.cM 3 rfl (i := 0) rfl, fun hb => ?_, fun hb => ?_⟩
    · subst hb
      refine ⟨_, E2.cM 1 rfl (i := 0) rfl, fun k32 a32 b32 h33 e33 => ?_⟩
      have E3 := E2.nM a32 b32 e33
      refine nat2_wp (E3.gM 0 rfl) (E3.gM 4 rfl) (fun e => absurd e (E3.ne (L.length + 4) (L.length + 0) (upM 4 rfl) (upM 0 rfl) (by omega))) (by omega) (by omega) (by rw [List.length_append]; omega) ?_
      have E4 := (E3.pM (o' := stylO (natI n ++ (xs.take q).flatMap chB ++ (natI i15 ++ natI 1))) 0 rfl).tM 4
      refine ⟨_, E4.cM 1 rfl (i := 0) rfl, _, E4.cM 3 rfl (i := 1) rfl, fun k37 a37 b37 h38 e38 => ?_⟩
      have E5 := E4.nM a37 b37 e38
      refine text1_wp (E5.gM 0 rfl) (E5.gM 4 rfl) (fun e => absurd e (E5.ne (L.length + 4) (L.length + 0) (upM 4 rfl) (upM 0 rfl) (by omega))) (by simp only [List.length_append, n1, List.length_cons, List.length_nil]; omega) (Fin.of ?_)
      have E6 := (E5.pM (o' := stylO (natI n ++ (xs.take q).flatMap chB ++ (natI i15 ++ natI 1) ++ (natB s17.size ++ bl s17))) 0 rfl).tM 3
      have e7 : natI n ++ (xs.take (q + 1)).flatMap chB = natI n ++ (xs.take q).flatMap chB ++ (natI i15 ++ natI 1) ++ (natB s17.size ++ bl s17) := by
        rw [chs_take hg, chB, n1]; simp [List.append_assoc]
      show Keep B h0 (L ++ [some (k4, stylO (natI n ++ (xs.take (q + 1)).flatMap chB)), some (k6, .vec TY.p_stylus_Stylus (plains [.pointer (some ⟨k4, 0, none⟩)]) 1), some (kc, .vec TY.p_draft_Draft_file_File [.plain (.pointer (some ⟨k, 0, none⟩))] 1)]) _
      rw [e7]; exact E6
    · subst hb
      refine ⟨_, E2.cM 1 rfl (i := 0) rfl, fun k32 a32 b32 h33 e33 => ?_⟩
      have E3 := E2.nM a32 b32 e33
      refine nat2_wp (E3.gM 0 rfl) (E3.gM 4 rfl) (fun e => absurd e (E3.ne (L.length + 4) (L.length + 0) (upM 4 rfl) (upM 0 rfl) (by omega))) (by omega) (by omega) (by rw [List.length_append]; omega) (Fin.of ?_)
      have E4 := (E3.pM (o' := stylO (natI n ++ (xs.take q).flatMap chB ++ (natI i15 ++ natI 0))) 0 rfl).tM 3
      have e7 : natI n ++ (xs.take (q + 1)).flatMap chB = natI n ++ (xs.take q).flatMap chB ++ (natI i15 ++ natI 0) := by
        rw [chs_take hg, chB, n0]; simp [List.append_assoc]
      show Keep B h0 (L ++ [some (k4, stylO (natI n ++ (xs.take (q + 1)).flatMap chB)), some (k6, .vec TY.p_stylus_Stylus (plains [.pointer (some ⟨k4, 0, none⟩)]) 1), some (kc, .vec TY.p_draft_Draft_file_File [.plain (.pointer (some ⟨k, 0, none⟩))] 1)]) _
      rw [e7]; exact E4
  · intro h19 E
    rw [List.take_length] at E
    exact ⟨_, E.cM 1 rfl (i := 0) rfl, bytes_wp (E.gM 0 rfl) (Fin.of (hQ _ E.zM))⟩
theorem redo_read_wp {Q : Int → Option Addr → Nat → Nat → Bool → Heap → Prop} (E : Keep B h0 L h) (hN : loadOf (bl s) = none → ∀ h', Keep B h0 L h' → Q 0 none 0 0 false h')
    (hS : ∀ n xs, loadOf (bl s) = some (n, xs) → ∀ a c r h', Row r (.slice a xs.length c) TY.redo_Change 3 (xs.flatMap entC_file_File) → Keep B h0 (L ++ [r]) h' → Q n a xs.length c true h') : C_redo_Read B s h Q := by
  refine C_redo_Read.of ?_
  unfold S_redo_Read
  refine rof_wp (ba_bl s).symm fun k7 a7 b7 => ?_
  have E1 := E.start.nM (o := rdO (bl s) false) a7 b7 rfl
  refine rnat_wp (by decide) (E1.gM 0 rfl) ?_
  have E2 := E1.pM (o' := rdO (rNat 1099511627776 (bl s) false).2.1 (rNat 1099511627776 (bl s) false).2.2) 0 rfl
  -- what the first number leaves
  have hst : ∃ (n0 : Nat) (l : List UInt8) (bad : Bool), rNat 1099511627776 (bl s) false = (n0, l, bad) ∧ (bad = true → l = [] ∧ loadOf (bl s) = none) ∧ (bad = false → loadOf (bl s) = (readC l (-1)).map fun ys => (n0, [] ++ ys)) := by
    cases h0' : natT 1099511627776 (bl s) with
    | none => exact ⟨0, [], true, rNat_none h0', fun _ => ⟨rfl, loadOf_none h0'⟩, fun e => by cases e⟩
    | some p => obtain ⟨n0, l⟩ := p; exact ⟨n0, l, false, rNat_some h0', fun e => (by cases e), fun _ => loadOf_eq h0'⟩
  obtain ⟨n0, l0, bad0, e0, i1, i2⟩ := hst
  rw [e0] at E2 ⊢
  refine ⟨fun a n c last m h' => ∃ (l : List UInt8) (bad : Bool) (acc : DFL) (r : Option (Nat × AObj)), n = acc.length ∧ m = l.length ∧ -1 ≤ last ∧ last ≤ 5 ∧ (acc.length : Int) ≤ last + 1 ∧ Row r (.slice a acc.length c) TY.redo_Change 3 (acc.flatMap entC_file_File) ∧ (bad = true → l = [] ∧ loadOf (bl s) = none) ∧ (bad = false → loadOf (bl s) = (readC l last).map fun ys => (n0, acc ++ ys)) ∧ Keep B h0 (L ++ [some (k7, rdO l bad), r]) h', l0.length, Fin.of ⟨l0, bad0, [], none, rfl, rfl, by omega, by omega, by simp, Row.nil _ _, i1, i2, ?_⟩, ?_⟩
  · have := E2.gap
    rw [List.append_assoc] at this; exact this
  clear E1 E2 i1 i2 e0
  rintro a _ c last _ h22 ⟨l, bad, acc, r, rfl, rfl, q1, q2, q3, R, i1, i2, E⟩
  refine rleft_wp (E.gM 0 rfl) ⟨fun hpos => ?_, fun hz => Fin.of ?_⟩
  · have hne : l ≠ [] := fun e => by rw [e] at hpos; simp at hpos
    have hbf : bad = false := by
      cases bad with
      | false => rfl
      | true => exact absurd (i1 rfl).1 hne
    subst hbf
    have i3 := i2 rfl
    refine rnat_wp (by decide) (E.gM 0 rfl) ?_
    have E1 := E.pM (o' := rdO (rNat 5 l false).2.1 (rNat 5 l false).2.2) 0 rfl
    intro k32 a32 b32 h33 e33
    have E2 := E1.nM a32 b32 e33
    refine ⟨_, stores_whole (E2.gM 2 rfl) rfl (by simp) (by simp [isOne]) (by simp), ?_⟩
    have E3 := E2.pM (o' := .vec TY.redo_Change (plains [.int .i64 ((rNat 5 l false).1 : Nat), .bool false, .string ByteArray.empty]) 3) 2 rfl
    refine rnat_wp (by decide) (E3.gM 0 rfl) ?_
    have E4 := E3.pM (o' := rdO (rNat 1 (rNat 5 l false).2.1 (rNat 5 l false).2.2).2.1 (rNat 1 (rNat 5 l false).2.1 (rNat 5 l false).2.2).2.2) 0 rfl
    -- a bad reader: none
    have nope : ∀ {h1 : Heap} {y : Option (Nat × AObj)}, readC l last = none → Keep B h0 (L ++ [some (k7, rdO [] true), r, y]) h1 → S_redo_Read_J2 B (some ⟨k7, 0, none⟩) (n0 : Nat) a acc.length c last l.length (fun a n c last m h' => ∃ (l : List UInt8) (bad : Bool) (acc : DFL) (r : Option (Nat × AObj)), n = acc.length ∧ m = l.length ∧ -1 ≤ last ∧ last ≤ 5 ∧ (acc.length : Int) ≤ last + 1 ∧ Row r (.slice a acc.length c) TY.redo_Change 3 (acc.flatMap entC_file_File) ∧ (bad = true → l = [] ∧ loadOf (bl s) = none) ∧ (bad = false → loadOf (bl s) = (readC l last).map fun ys => (n0, acc ++ ys)) ∧ Keep B h0 (L ++ [some (k7, rdO l bad), r]) h') k32 h1 Q := fun {h1 y} e1 E1 => by
      unfold S_redo_Read_J2
      refine rbad_wp (E1.gM 0 rfl) ⟨fun _ => Fin.of (hN ?_ _ E1.zM), fun e => by cases e⟩
      rw [i3, e1]; rfl
    -- a change: the end of the turn
    have go : ∀ {h1 : Heap} {x : ChR} {rr : List UInt8}, stepC l = some (x, rr) → Keep B h0 (L ++ [some (k7, rdO rr false), r, some (k32, .vec TY.redo_Change (plains (entC_file_File x)) 3)]) h1 → S_redo_Read_J2 B (some ⟨k7, 0, none⟩) (n0 : Nat) a acc.length c last l.length (fun a n c last m h' => ∃ (l : List UInt8) (bad : Bool) (acc : DFL) (r : Option (Nat × AObj)), n = acc.length ∧ m = l.length ∧ -1 ≤ last ∧ last ≤ 5 ∧ (acc.length : Int) ≤ last + 1 ∧ Row r (.slice a acc.length c) TY.redo_Change 3 (acc.flatMap entC_file_File) ∧ (bad = true → l = [] ∧ loadOf (bl s) = none) ∧ (bad = false → loadOf (bl s) = (readC l last).map fun ys => (n0, acc ++ ys)) ∧ Keep B h0 (L ++ [some (k7, rdO l bad), r]) h') k32 h1 Q := fun {h1 x rr} e1 E1 => by
      obtain ⟨⟨g1, g2, g3⟩, -⟩ := stepC_some e1
      have hlt := stepC_lt e1
      have hrd := readC_some (last := last) e1
      unfold S_redo_Read_J2
      refine rbad_wp (E1.gM 0 rfl) ⟨fun e => (by cases e), fun _ => ⟨x.1, E1.cM 2 rfl (i := 0) rfl, fun hle => Fin.of (hN ?_ _ E1.zM), fun hgt => Fin.of ?_⟩⟩
      · rw [i3, hrd, if_pos hle]; rfl
      · rw [if_neg hgt] at hrd
        unfold S_redo_Read_J3
        refine ⟨x.1, E1.cM 2 rfl (i := 0) rfl, x.1, x.2.1, x.2.2, ⟨E1.cM 2 rfl (i := 0) rfl, E1.cM 2 rfl (i := 1) rfl, E1.cM 2 rfl (i := 2) rfl, trivial⟩, fun k43 a43 b43 h44 e44 => ?_⟩
        refine E1.push1 (L.length + 1) (upM 1 rfl) R TK.slc_rch TK.zero_rch rfl (by omega) (by omega) TK.sl_rch (ys := entC_file_File x) rfl (entC_file_File_one x) (by rw [flatMap_length entC_file_File_len, entC_file_File_len]; omega) a43 b43 e44 fun a' m' c' r' h' R' E2 => ⟨a', m', c', rfl, Fin.of ⟨rr.length, hlt, rr, false, acc ++ [x], r', ?_, rfl, by omega, g2, by rw [List.length_append]; simp; omega, ?_, fun e => (by cases e), fun _ => ?_, ?_⟩⟩
        · have := Row.len R'
          rw [List.length_append, flatMap_length entC_file_File_len, entC_file_File_len] at this
          rw [List.length_append, List.length_singleton]; omega
        · have := Row.len R'
          rw [List.length_append, flatMap_length entC_file_File_len, entC_file_File_len] at this
          rw [show m' = (acc ++ [x]).length by rw [List.length_append, List.length_singleton]; omega] at R'
          rw [List.flatMap_append, List.flatMap_singleton]; exact R'
        · rw [i3, hrd, Option.map_map]
          congr 1
          funext ys
          simp [List.append_assoc]
        · rw [setM] at E2
          exact E2.tM 2
    cases t0 : natT 5 l with
    | none =>
      have f0 : rNat 5 l false = (0, [], true) := rNat_none t0
      have f1 : rNat 1 (rNat 5 l false).2.1 (rNat 5 l false).2.2 = (0, [], true) := by rw [f0]; exact rNat_bad 1
      rw [f1] at E4 ⊢
      exact ⟨fun e => by simp at e, fun _ => Fin.of (nope (readC_none hne (stepC_0 t0)) E4)⟩
    | some p =>
      obtain ⟨ix, r1⟩ := p
      have f0 : rNat 5 l false = (ix, r1, false) := rNat_some t0
      rw [f0] at E4 ⊢
      cases t1 : natT 1 r1 with
      | none =>
        have f1 : rNat 1 r1 false = (0, [], true) := rNat_none t1
        simp only [f1] at E4 ⊢
        exact ⟨fun e => by simp at e, fun _ => Fin.of (nope (readC_none hne (stepC_1 t0 t1)) E4)⟩
      | some p =>
        obtain ⟨kx, r2⟩ := p
        have f1 : rNat 1 r1 false = (kx, r2, false) := rNat_some t1
        simp only [f1] at E4 ⊢
        refine ⟨fun hk => ?_, fun hk => Fin.of (go (stepC_off t0 t1 (by omega)) E4)⟩
        have hk1 : kx = 1 := by omega
        subst hk1
        refine rtext_wp (by decide) (E4.gM 0 rfl) ?_
        have E5 := E4.pM (o' := rdO (rText 32 r2 false).2.1 (rText 32 r2 false).2.2) 0 rfl
        obtain ⟨h58, st, E6⟩ := E5.vM 2 (fs := [.int .i64 (ix : Nat)]) (gs := [.bool false, .string ByteArray.empty]) rfl [.bool true, .string (ba (rText 32 r2 false).1)] (by simp [isOne]) 1 rfl (by simp)
        refine ⟨h58, st, ?_⟩
        cases t2 : natT 32 r2 with
        | none =>
          have f2 : rText 32 r2 false = ([], [], true) := rText_none t2
          rw [f2] at E6
          exact Fin.of (nope (readC_none hne (stepC_2 t0 t1 t2)) E6)
        | some p =>
          obtain ⟨n, r3⟩ := p
          by_cases hs : r3.length < n
          · have f2 : rText 32 r2 false = ([], [], true) := rText_short t2 hs
            rw [f2] at E6
            exact Fin.of (nope (readC_none hne (stepC_3 t0 t1 t2 hs)) E6)
          · have f2 : rText 32 r2 false = (r3.take n, r3.drop n, false) := rText_some t2 hs
            rw [f2] at E6
            exact Fin.of (go (stepC_on t0 t1 t2 hs) E6)
  · have hl : l = [] := List.length_eq_zero_iff.1 (by omega)
    subst hl
    unfold S_redo_Read_J1
    refine rbad_wp (E.gM 0 rfl) ⟨fun hb => Fin.of (hN (i1 hb).2 _ E.zM), fun hb => Fin.of ?_⟩
    have i3 := i2 hb
    rw [readC_nil] at i3
    refine hS n0 acc (by rw [i3]; simp) a c r _ R ?_
    exact E.sM [1] (by decide)
end
end Go.Proofs.Ythloobpjkeodgaa.H
