/- Redo: drawn, alive; RedoReads, RedoBytes. No condition. -/
import Derived.Test.YthloobpjkeodgaaRf
import Derived.Test.YthloobpjkeodgaaHk
import Derived.Test.YthloobpjkeodgaaXrT
namespace Go.Proofs.Ythloobpjkeodgaa.H
open Go Go.RowKit
set_option linter.unusedVariables false
set_option maxRecDepth 100000

theorem TK.rchs_sl : PG.underlying TY.s_redo_Change = some (.slice TY.redo_Change) := by kernel_rfl
theorem TK.rch_kd : leafB PG 5 TY.redo_Change = some [.int .i64, .bool, .str] := by kernel_rfl
theorem RCh_arg {H : Type} {enc : TypeId × Value → H} {w : World} {base : Nat} {spare : Nat → Bool} {held : Bool} {a : Option Addr} {len cap : Nat} {d : DataW H} {p : List MemPlace} (h : DataW.Trod enc PG w base spare held TY.s_redo_Change (.slice a len cap) d p) :
    ∃ l : DFL, len = l.length ∧ Reads (roOf w) noHeap a 3 entC_file_File l ∧ ∀ x ∈ l, True :=
  arg_rows entC_file_File (fun _ => True) TK.rchs_sl TK.rch_kd rfl (by omega) (fun vs h => by
    obtain ⟨z1, v1, rfl, _, h1⟩ := h.int
    obtain ⟨z2, v2, rfl, h2⟩ := h1.bool
    obtain ⟨z3, v3, rfl, _, h3⟩ := h2.str
    obtain rfl := h3.nil
    exact ⟨(z1, z2, z3), rfl, trivial⟩) h
section
variable {B : RO} {h0 h h' : Heap} {L : List (Option (Nat × AObj))} {r : Option (Nat × AObj)} {i k kT kR : Nat} {a a1 : Option Addr} {m c c1 : Nat} {v : Value} {xs list : DFL} {l z : FL} {s : ByteArray}
theorem drawn_J1 {kd : Nat} {Q : Option Addr → Option Addr → Nat → Nat → Bool → Heap → Prop} (E : Keep B h0 [some (kd, drO_file_File v), r] h) (R : DRow_file_File r v xs) (hl : xs.length ≤ 100000)
    (hQ : ∀ a' c' r2 h', Row r2 (.slice a' xs.length c') TY.countermandref18_Change 3 (xs.flatMap entC_file_File) → Keep B h0 [some (kd, drO_file_File v), r, r2] h' → Q (some ⟨kd, 0, none⟩) a' xs.length c' true h') : S_countermandlaw18_drawn_J1 B kd h Q := by
  unfold S_countermandlaw18_drawn_J1
  intro k14 a14 b14 h15 e15
  have E1 : Keep B h0 [some (kd, drO_file_File v), r, some (k14, .vec TY.s_countermandref18_Change (plains [.slice none 0 0]) 1), none] h15 := (E.made a14 b14 e15).gap
  refine fdall_wp fun kc ac bc => ?_
  have E2 := E1.new (o := .vec TY.p_draft_Draft_file_File [.plain (.pointer (some ⟨kd, 0, none⟩))] 1) ac bc
  refine ⟨xs, fdG kc kd v r, fun q h' => ∃ (a : Option Addr) (c : Nat) (r2 : Option (Nat × AObj)), Row r2 (.slice a q c) TY.countermandref18_Change 3 ((xs.take q).flatMap entC_file_File) ∧ Keep B h0 [some (kd, drO_file_File v), r, some (k14, .vec TY.s_countermandref18_Change (plains [.slice a q c]) 1), r2, some (kc, .vec TY.p_draft_Draft_file_File [.plain (.pointer (some ⟨kd, 0, none⟩))] 1)] h', fdall_iter R (by omega), fdG_ins, ?_, Fin.of ⟨none, 0, none, Row.nil _ _, E2⟩, ?_, ?_⟩
  · rintro q h' ⟨a, c, r2, R2, E⟩
    exact ⟨E.at 4 rfl, E.at 0 rfl, fun k o e => E.at 1 (by rw [← e]; rfl)⟩
  · clear E E1 E2 e15
    rintro q h22 i18 b19 s20 hg ⟨a, c, r2, R2, E⟩
    intro k26 a26 b26 h27 e27
    have hq := (List.getElem?_eq_some_iff.1 hg).1
    have E1 := E.made a26 b26 e27
    refine ⟨_, stores_whole E1.last rfl (by simp) (by simp [isOne]) (by simp), ?_⟩
    have E2 := E1.putLast (.vec TY.file_File (plains [.bool b19, .string s20]) 2)
    refine .inl ⟨a, q, c, E2.cell 2 rfl rfl, b19, s20, ⟨cellH_vec E2.last rfl, cellH_vec E2.last rfl, trivial⟩, fun k35 a35 b35 h36 e36 => ?_⟩
    refine E2.push1 3 rfl R2 TK.slc_xch TK.zero_xch rfl (by omega) (by omega) TK.sl_xch (ys := entC_file_File (i18, b19, s20)) rfl (entC_file_File_one (i18, b19, s20)) (by rw [flatMap_length entC_file_File_len, entC_file_File_len, List.length_take]; omega) a35 b35 e36 fun a' m' c' r' h' R' E3 => ⟨a', m', c', rfl, ?_⟩
    obtain ⟨es, E4⟩ := E3.store 2 0 (.slice a' m' c') (t := TY.s_countermandref18_Change) (fs := plains [.slice a q c]) (n := 1) rfl rfl
    refine ⟨_, es, Fin.of ?_⟩
    have hm := Row.len R'
    rw [List.length_append, flatMap_length entC_file_File_len, entC_file_File_len, List.length_take] at hm
    obtain rfl : m' = q + 1 := by omega
    refine ⟨a', c', r', ?_, E4.take 5⟩
    obtain ⟨hq, hx⟩ := List.getElem?_eq_some_iff.1 hg
    rw [List.take_succ_eq_append_getElem hq, List.flatMap_append, hx, List.flatMap_singleton]; exact R'
  · rintro h22 ⟨a, c, r2, R2, E⟩
    rw [List.take_length] at R2
    exact ⟨a, xs.length, c, E.cell 2 rfl rfl, Fin.of (hQ a c r2 _ R2 (E.picks [0, 1, 3] (by decide)))⟩
theorem drawn_wp {Q : Option Addr → Option Addr → Nat → Nat → Bool → Heap → Prop} (hr : Reads B h a 3 entC_file_File list) (hN : ∀ p h', Keep B h [] h' → Q p none 0 0 false h')
    (hS : ∀ (xs : DFL) kd v r a' c' r2 h', xs.length ≤ 40 → SortD xs → (∀ x ∈ xs, GoodC x) → DRow_file_File r v xs → Row r2 (.slice a' xs.length c') TY.countermandref18_Change 3 (xs.flatMap entC_file_File) → Keep B h [some (kd, drO_file_File v), r, r2] h' → Q (some ⟨kd, 0, none⟩) a' xs.length c' true h') : C_countermandlaw18_drawn B a list.length c h Q := by
  refine C_countermandlaw18_drawn.of ?_
  unfold S_countermandlaw18_drawn
  intro k9 a9 b9 h10 e10
  have E0 := (Keep.nil B h).made a9 b9 e10
  refine ⟨fun _ => Fin.of (hN _ _ (E0.take 0)), fun hlen => ?_⟩
  refine ⟨fun ix m h' => ∃ (j : Nat) (xs : DFL) (v : Value) (r : Option (Nat × AObj)), j ≤ list.length ∧ ix = j ∧ m = list.length - j ∧ xs.length ≤ j ∧ SortD xs ∧ (∀ x ∈ xs, GoodC x) ∧ DRow_file_File r v xs ∧ Keep B h [some (k9, drO_file_File v), r] h', list.length, Fin.of ⟨0, [], .slice none 0 0, none, by omega, rfl, by omega, by simp, List.Pairwise.nil, fun x hx => (by cases hx), Row.nil _ _, E0.gap⟩, ?_⟩
  clear E0 e10
  rintro _ _ h46 ⟨j, xs, v, r, hj, rfl, rfl, hlx, s, g, R, E⟩
  refine ⟨fun hlt => ?_, fun hge => Fin.of ?_⟩
  · have hj' : j < list.length := by omega
    have hw : IntKind.wrap .i64 ((j : Int) + 1) = ((j + 1 : Nat) : Int) := by rw [w64 (by omega) (by omega)]; omega
    have hx := List.getElem?_eq_getElem hj'
    generalize list[j] = x at hx
    obtain ⟨A', e1, _, e4⟩ := (hr.over E.le E.nw) j x hx
    refine ⟨A', e1, by omega, hlt, x.1, x.2.1, x.2.2, e4, fun k57 a57 b57 h58 e58 => ?_⟩
    have E1 := E.made a57 b57 e58
    refine ⟨_, stores_whole E1.last rfl (by simp) (by simp [isOne]) (by simp), ?_⟩
    have E2 := E1.putLast (.vec TY.redo_Change (plains (entC_file_File x)) 3)
    refine ⟨x.1, cellH_vec E2.last rfl, fun _ => Fin.of (hN _ _ (E2.take 0)), fun h0' => ⟨x.1, cellH_vec E2.last rfl, fun _ => Fin.of (hN _ _ (E2.take 0)), fun h5 => ⟨x.2.1, x.2.2, ⟨cellH_vec E2.last rfl, cellH_vec E2.last rfl, trivial⟩, goodF_wp fun h73 w => ⟨fun hg => Fin.of ?_, fun _ => Fin.of (hN _ _ ((E2.wk w).take 0))⟩⟩⟩⟩
    have E3 := E2.wk w
    unfold S_countermandlaw18_drawn_J2
    refine ⟨x.1, cellH_vec E3.last rfl, x.2.1, x.2.2, ⟨cellH_vec E3.last rfl, cellH_vec E3.last rfl, trivial⟩, ?_⟩
    refine put_file_File_wp (i := 0) E3 ⟨rfl, rfl⟩ R s (by omega) fun v' r' h65 R' E4 => Fin.of ⟨list.length - (j + 1), by omega, j + 1, insD xs x.1 x.2, v', r', by omega, hw, rfl, ?_, s.ins, fun y hy => ?_, R', E4.take 2⟩
    · have := insD_len (l := xs) (i := x.1) (v := x.2); omega
    · rcases insD_mem hy with rfl | hy
      · exact ⟨by simp only; omega, by simp only; omega, hg⟩
      · exact g y hy
  · exact drawn_J1 E R (by omega) fun a' c' r2 h' R2 E' => hS xs k9 v r a' c' r2 h' (by omega) s g R R2 E'
theorem alive18_wp {Q : Bool → Heap → Prop} (hQ : ∀ h', Keep B h [] h' → Q true h') : C_countermandlaw18_alive B h Q := by
  refine C_countermandlaw18_alive.of ?_
  unfold S_countermandlaw18_alive
  intro k2 a2 b2 h3 e3
  have E0 := ((Keep.nil B h).made a2 b2 e3).gap
  refine put_file_File_wp (i := 0) (l := []) (x := (true, ByteArray.mk #[97, 98])) E0 ⟨rfl, rfl⟩ (Row.nil _ _) List.Pairwise.nil (by simp) fun v' r' h4 R' E1 => ?_
  have g : ∀ x ∈ insD ([] : DFL) 2 (true, ByteArray.mk #[97, 98]), GoodC x := fun x hx => by
    rcases insD_mem hx with rfl | hx
    · exact ⟨by decide, by decide, by decide⟩
    · cases hx
  refine redo_bytes_wp (i := 0) E1 ⟨rfl, rfl⟩ R' g (by have := insD_len (l := ([] : DFL)) (i := 2) (v := (true, ByteArray.mk #[97, 98])); simp at this ⊢; omega) (by omega) fun h6 E2 => Fin.of ?_
  have e : ba (loadB 1 (insD [] 2 (true, ByteArray.mk #[97, 98]))) = ByteArray.mk #[1, 2, 1, 2, 97, 98] := by
    have e1 : natI 1 = [1] := by rw [show (1 : Int) = ((1 : Nat) : Int) from rfl, natI_nat, natB_1]
    have e2 : natI 2 = [2] := by rw [show (2 : Int) = ((2 : Nat) : Int) from rfl, natI_nat, natB_lo (by omega)]; rfl
    have e3 : natB 2 = [2] := by rw [natB_lo (by omega)]; rfl
    have e4 : (ByteArray.mk #[97, 98]).size = 2 := rfl
    simp only [loadB, insD, List.flatMap_cons, List.flatMap_nil, chB, if_true, e1, e2, e4, e3]; rfl
  rw [e]
  exact hQ _ (E2.take 0)
theorem RedoReads_wp {Q : Bool → Heap → Prop} (hQ : Q true h) : C_countermandlaw18_RedoReads B s h Q := by
  refine C_countermandlaw18_RedoReads.of ?_
  unfold S_countermandlaw18_RedoReads
  refine alive18_wp fun h3 E0 => ⟨fun _ => ⟨fun _ => Fin.ent E0.back (Fin.of hQ), fun hs => ?_⟩, fun e => by cases e⟩
  refine redo_read_wp E0 (fun hn h6 E1 => ⟨fun e => (by cases e), fun _ => ?_⟩) fun n xs hl a8 c10 r8 h6 R8 E1 => ⟨fun _ => ?_, fun e => by cases e⟩
  · rw [← ba_bl s] at *
    rw [bl_ba] at hn
    refine ref18_read_wp E1 (by rw [bl_length]; rw [ba_size, bl_length] at hs; omega) (fun _ h12 E2 => ⟨fun e => (by cases e), fun _ => ⟨fun _ => Fin.ent E2.back (Fin.of hQ), fun hn => absurd rfl hn⟩⟩) fun n xs hl => by rw [hn] at hl; cases hl
  · have hs' : (bl s).length ≤ 300 := by rw [bl_length]; omega
    rw [show C_countermandref18_Read B s h6 = C_countermandref18_Read B (ba (bl s)) h6 by rw [ba_bl]]
    refine ref18_read_wp E1 (by omega) (fun hn => by rw [hn] at hl; cases hl) fun n' xs' hl' a21 c23 r21 h19 R21 E2 => ⟨fun _ => ?_, fun e => by cases e⟩
    rw [hl] at hl'
    cases hl'
    obtain ⟨e1, e2, e3, e4⟩ := loadOf_some hl
    obtain ⟨-, rd8⟩ := Row.rd (B := B) R8 entC_file_File_len (by omega)
    obtain ⟨-, rd21⟩ := Row.rd (B := B) R21 entC_file_File_len (by omega)
    have h6 := sortGood_len xs e2 e3
    have g8 := rd8 h19 fun k o e => E2.at 0 (by rw [← e]; rfl)
    have g21 := rd21 h19 fun k o e => E2.at 1 (by rw [← e]; rfl)
    refine ⟨fun _ => same_wp g8 g21 (by omega) ⟨fun _ => ref18_bytes_wp g21 e3 (by omega) (by omega) (Fin.ent E2.back (Fin.of ?_)), fun e => by cases e⟩, fun hn => absurd rfl hn⟩
    rw [← e1, ba_bl, decide_eq_true rfl]
    exact hQ
theorem RedoBytes_wp {n : Int} {Q : Bool → Heap → Prop} (hr : Reads B h a 3 entC_file_File list) (hQ : Q true h) : C_countermandlaw18_RedoBytes B n a list.length c h Q := by
  refine C_countermandlaw18_RedoBytes.of ?_
  unfold S_countermandlaw18_RedoBytes
  refine alive18_wp fun h3 E0 => ⟨fun _ => ?_, fun e => by cases e⟩
  refine drawn_wp (hr.over E0.le E0.nw) (fun p h8 E1 => ⟨fun e => (by cases e), fun _ => Fin.ent (E0.append E1).back (Fin.of hQ)⟩) fun xs kd v r a10 c12 r2 h8 hl s g R R2 E1 => ⟨fun _ => ⟨fun _ => Fin.ent (E0.append E1).back (Fin.of hQ), fun hn0 => ⟨fun _ => Fin.ent (E0.append E1).back (Fin.of hQ), fun hn1 => Fin.of ?_⟩⟩, fun e => by cases e⟩
  have E2 := E0.append E1
  clear E0 E1
  obtain ⟨n, rfl⟩ := Int.eq_ofNat_of_zero_le (by omega : 0 ≤ n)
  obtain ⟨-, rd⟩ := Row.rd (B := B) R2 entC_file_File_len (by omega)
  unfold S_countermandlaw18_RedoBytes_J2
  refine redo_bytes_wp (i := 0) E2 ⟨rfl, rfl⟩ R g (by omega) (by omega) fun h16 E3 => ?_
  have hlo := loadOf_back (n := n) (by omega) s g
  refine redo_read_wp E3 (fun hn => by rw [bl_ba] at hn; rw [show ((n : Nat) : Int) = Int.ofNat n from rfl] at *; rw [hlo] at hn; cases hn) fun n' xs' hl' a20 c22 r20 h18 R20 E4 => ⟨fun _ => ?_, fun e => by cases e⟩
  rw [bl_ba] at hl'
  have hl2 : some (n, xs) = some (n', xs') := hlo.symm.trans hl'
  cases hl2
  have g2 := rd h18 fun k o e => E4.at 2 (by rw [← e]; rfl)
  obtain ⟨-, rd20⟩ := Row.rd (B := B) R20 entC_file_File_len (by omega)
  have g20 := rd20 h18 fun k o e => E4.at 3 (by rw [← e]; rfl)
  exact ref18_bytes_wp g2 g (by omega) (by omega) ⟨fun _ => ⟨fun _ => same_wp g20 g2 (by omega) (Fin.ent E4.back (Fin.of hQ)), fun hn => absurd rfl hn⟩, fun hn => absurd rfl hn⟩
end
theorem RedoReads_calls (W : World) (s : ByteArray) (ws : s.size ≤ 140737488351232) :
    Calls PG FN.countermandlaw18_RedoReads #[.string s] W fun e w' => e = .returned (.bool true) ∧ Below W.heap.size W w' := by
  refine Spec.calls (Spec.mono (RedoReads_wp (Q := fun b _ => b = true) rfl) ?_)
  rintro v h' ⟨b, rfl, rfl⟩
  rfl
theorem RedoBytes_calls {H : Type} {enc : TypeId × Value → H} (W : World) (n : Int) (wn : (Lit.int .i64 n).wf = true) {a : Option Addr} {len cap : Nat} {d : DataW H} {p : List MemPlace} (k : DataW.Trod enc PG W 0 (fun _ => true) true TY.s_redo_Change (.slice a len cap) d p) :
    Calls PG FN.countermandlaw18_RedoBytes #[.int .i64 n, .slice a len cap] W fun e w' => e = .returned (.bool true) ∧ Below W.heap.size W w' := by
  obtain ⟨l, rfl, hr, hok⟩ := RCh_arg k
  refine Spec.calls (Spec.mono (RedoBytes_wp (Q := fun b _ => b = true) hr rfl) ?_)
  rintro v h' ⟨b, rfl, rfl⟩
  rfl
end Go.Proofs.Ythloobpjkeodgaa.H
