/- The laws WalDoes and WalClears. No condition. -/
import Derived.Test.YthloobpjkeodgaaWh
import Derived.Test.YthloobpjkeodgaaHk
namespace Go.Proofs.Ythloobpjkeodgaa.H
open Go Go.RowKit
set_option linter.unusedVariables false
set_option maxRecDepth 100000

section
variable {B : RO} {h0 h h' : Heap} {Q : Bool → Heap → Prop}
theorem cl97 : (closeL (bl (ByteArray.mk #[97]))).length = 7 := closeL_len (l := [97]) (by decide)
theorem cl98 : (closeL (bl (ByteArray.mk #[98]))).length = 7 := closeL_len (l := [98]) (by decide)
theorem cut_none (s : ByteArray) : bl (cutB 0 s) = [] := by
  rw [cutB, bl_extract]; simp
theorem alive04_wp (hQ : Q true h) : C_countermandlaw04_alive B h Q := by
  refine C_countermandlaw04_alive.of ?_
  unfold S_countermandlaw04_alive
  have t0 : (textD 0 []).size = 0 := rfl
  have t1 : ∀ s, textD 0 ([] ++ [Chg.mk 0 false s]) = ByteArray.mk #[] ++ s := fun s => textD_app 0 [] s
  have z1 : (textD 0 ([] ++ [Chg.mk 0 false (ba (closeL (bl (ByteArray.mk #[97]))))])).size = 7 := by
    rw [t1, ByteArray.size_append, ba_size, cl97]; rfl
  have z2 : (textD 0 ([] ++ [Chg.mk 0 false (ba (closeL (bl (ByteArray.mk #[97]))))] ++ [Chg.mk 0 false (ba (closeL (bl (ByteArray.mk #[98]))))])).size = 14 := by
    rw [textD_app, ByteArray.size_append, z1, ba_size, cl98]
  have ok1 : DOk ([] ++ [Chg.mk 0 false (ba (closeL (bl (ByteArray.mk #[97]))))]) := DOk.nil.snoc (.inl rfl) (by show (textD 0 _).size ≤ _; rw [z1]; decide)
  have ok2 : DOk ([] ++ [Chg.mk 0 false (ba (closeL (bl (ByteArray.mk #[97]))))] ++ [Chg.mk 0 false (ba (closeL (bl (ByteArray.mk #[98]))))]) := ok1.snoc (.inl rfl) (by show (textD 0 _).size ≤ _; rw [z2]; decide)
  refine dnew_wp fun kD h2 E => walopen_wp (i := 0) E ⟨rfl, rfl⟩ (.inl rfl) DOk.nil fun kl h4 E1 => ⟨fun _ => ?_, fun e => absurd rfl e⟩
  refine walappend_wp (i := 0) (j := 2) E1 ⟨rfl, rfl⟩ rfl (by decide) (by decide) (Row.nil _ _) (Nat.le_refl _) DOk.nil (by decide) (by decide) (by decide +kernel) (.inl rfl) (fun hL => absurd hL (by decide)) (fun _ hT => by cases hT) (fun _ _ hF => absurd hF (by rw [t0, cl97]; decide)) fun _ _ _ v' r' h20 R' E2 => ⟨fun _ => ?_, fun e => absurd rfl e⟩
  refine walappend_wp (i := 0) (j := 2) E2 ⟨rfl, rfl⟩ rfl (by decide) (by decide) R' (by simp) ok1 (by simp) (by decide) (by rw [cl97]; decide +kernel) (.inl rfl) (fun hL => absurd hL (by decide)) (fun _ hT => by cases hT) (fun _ _ hF => absurd hF (by rw [z1, cl98]; decide)) fun _ _ _ v2 r2 h23 R2 E3 => ⟨fun _ => Fin.of ?_, fun e => absurd rfl e⟩
  unfold S_countermandlaw04_alive_J1
  refine dcrash_wp (i := 0) (keep := 1) (part := 0) E3 ⟨rfl, rfl⟩ R2 (by simp) ok2 (by simp) fun h9 E4 => walopen_wp (i := 0) E4 ⟨rfl, rfl⟩ (.inl rfl) (crashD_ok ok2 _ _ _) fun kl2 h10 E5 => ⟨fun _ => ?_, fun e => absurd rfl e⟩
  have hcr : bl (textD 0 (crashD ([] ++ [Chg.mk 0 false (ba (closeL (bl (ByteArray.mk #[97]))))] ++ [Chg.mk 0 false (ba (closeL (bl (ByteArray.mk #[98]))))]) 0 1 0)) = rowL [bl (ByteArray.mk #[97])] := by
    have e : crashD ([] ++ [Chg.mk 0 false (ba (closeL (bl (ByteArray.mk #[97]))))] ++ [Chg.mk 0 false (ba (closeL (bl (ByteArray.mk #[98]))))]) 0 1 0 = [Chg.mk 0 false (ba (closeL (bl (ByteArray.mk #[97]))))] ++ [Chg.mk 0 false (cutB 0 (ba (closeL (bl (ByteArray.mk #[98])))))] := rfl
    have t2 := t1 (ba (closeL (bl (ByteArray.mk #[97]))))
    rw [List.nil_append] at t2
    rw [e, textD_app, t2, bl_append, bl_append, cut_none, rowL_one, bl_ba, List.append_nil]
    rfl
  have hsh : Short [bl (ByteArray.mk #[97])] := fun l hl => by rw [List.mem_singleton] at hl; subst hl; decide
  have hw := whole_rows hsh
  have ht : tornOf (rowL [bl (ByteArray.mk #[97])]) = false := by unfold tornOf; rw [hw]; simp
  have hw7 : wholeL (rowL [bl (ByteArray.mk #[97])]) = 7 := by rw [hw, rowL_one, cl97]
  rw [hcr, ht, hw7] at E5
  refine walsize_wp (j := 3) E5 rfl ⟨fun _ => waltorn_wp (j := 3) E5 rfl (Fin.ent E5.back (Fin.of hQ)), fun e => absurd rfl e⟩
theorem great04_wp {a : Option Addr} {c : Nat} {list : List CallR} (hr : Reads B h a 4 CallR.cells list) (hQ : ∀ b, (b = false → list.length ≤ 50 ∧ ∀ x ∈ list, x.s.size ≤ 8192) → Q b h) : C_countermandlaw04_great B a list.length c h Q := by
  refine C_countermandlaw04_great.of ?_
  unfold S_countermandlaw04_great
  refine ⟨fun _ => Fin.of (hQ true fun e => by cases e), fun hlen => ?_⟩
  refine ⟨fun n i m h' => ∃ j : Nat, j ≤ list.length ∧ i = j ∧ m = list.length - j ∧ 0 ≤ n ∧ n ≤ 8192 ∧ (∀ x ∈ list.take j, x.s.size ≤ 8192) ∧ Keep B h [] h', list.length, Fin.of ⟨0, by omega, rfl, by omega, by omega, by omega, fun x hx => (by simp at hx), Keep.nil B h⟩, ?_⟩
  rintro n _ _ h7 ⟨j, hj, rfl, rfl, hn0, hn1, hs, E⟩
  refine ⟨fun hlt => ?_, fun _ => Fin.ent E.back (Fin.of (hQ false fun _ => ?_))⟩
  · have hj' : j < list.length := by omega
    have hw : IntKind.wrap .i64 ((j : Int) + 1) = ((j + 1 : Nat) : Int) := by rw [w64 (by omega) (by omega)]; omega
    obtain ⟨A, e1, e3, e4⟩ := (hr.over E.le E.nw) j list[j] (List.getElem?_eq_getElem hj')
    refine ⟨A, e1, by omega, hlt, list[j].kind, list[j].s, list[j].keep, list[j].part, e4, fun k19 a19 b19 h20 e20 => ?_⟩
    have E1 := E.made a19 b19 e20
    refine ⟨_, stores_whole (E1.at 0 rfl) rfl (by simp) (by simp [isOne]) (by simp), ?_⟩
    have E2 := E1.put (o' := .vec TY.countermandlaw04_Call (plains list[j].cells) 4) 0 rfl
    refine ⟨_, E2.cell 0 rfl rfl, fun _ => Fin.ent E2.back (Fin.of (hQ true fun e => by cases e)), fun hz => ⟨_, E2.cell 0 rfl rfl, ?_⟩⟩
    have hw2 : IntKind.wrap .i64 (n + ((list[j].s.size : Nat) : Int)) = n + ((list[j].s.size : Nat) : Int) := w64 (by omega) (by omega)
    rw [hw2]
    refine ⟨fun _ => Fin.ent E2.back (Fin.of (hQ true fun e => by cases e)), fun hz2 => Fin.of ⟨list.length - (j + 1), by omega, j + 1, by omega, hw, rfl, by omega, by omega, fun x hx => ?_, E2.take 0⟩⟩
    rw [List.take_succ_eq_append_getElem hj', List.mem_append, List.mem_singleton] at hx
    rcases hx with hx | rfl
    · exact hs x hx
    · omega
  · have : j = list.length := by omega
    subst this
    rw [List.take_length] at hs
    exact ⟨by omega, hs⟩
theorem WalDoes_J1 {area : Int} {a : Option Addr} {c : Nat} {list : List CallR} {i17 : Int} (E0 : Keep B h0 [] h) (hr : Reads B h0 a 4 CallR.cells list) (hl : list.length ≤ 50) (hs : ∀ x ∈ list, x.s.size ≤ 8192) (hf : ((area = 0 ∨ area = 1) ∧ i17 = 0) ∨ i17 = 1) (hQ : Q true h0) : S_countermandlaw04_WalDoes_J1 B area a list.length c i17 h Q := by
  unfold S_countermandlaw04_WalDoes_J1
  refine ⟨fun h17 => ?_, fun h17 => ?_⟩
  · have ha : area = 0 ∨ area = 1 := by
      rcases hf with ⟨h, _⟩ | h
      · exact h
      · omega
    refine start_wp ha fun x h23 O E => ?_
    have E := E0.append E
    refine ⟨fun i m h' => ∃ (j : Nat) (x' : WX) (cs : List Chg) (k : Nat), j ≤ list.length ∧ i = j ∧ m = list.length - j ∧ x'.Ok cs k ∧ x'.kb = x.kb ∧ cs.length ≤ j ∧ Keep B h0 (x'.e area cs k) h', list.length, Fin.of ⟨0, x, [], 0, by omega, rfl, by omega, O, rfl, by simp, E⟩, ?_⟩
    clear E E0 O
    rintro _ _ h26 ⟨j, x1, cs, k, hj, rfl, rfl, O, hb, hcl, E⟩
    refine ⟨fun hlt => ?_, fun _ => Fin.ent E.back (Fin.of hQ)⟩
    have hj' : j < list.length := by omega
    have hw : IntKind.wrap .i64 ((j : Int) + 1) = ((j + 1 : Nat) : Int) := by rw [w64 (by omega) (by omega)]; omega
    obtain ⟨A, e1, e3, e4⟩ := (hr.over E.le E.nw) j list[j] (List.getElem?_eq_getElem hj')
    have hsz := hs list[j] (List.getElem_mem hj')
    generalize list[j] = cl at e4 hsz
    refine ⟨A, e1, by omega, hlt, cl.kind, cl.s, cl.keep, cl.part, e4, fun k38 a38 b38 h39 e39 => ?_⟩
    have E1 := E.made a38 b38 e39
    refine ⟨_, stores_whole (E1.at 7 rfl) rfl (by simp) (by simp [isOne]) (by simp), ?_⟩
    have E2 := E1.put (o' := callO cl) 7 rfl
    refine ⟨cl.kind, cl.s, cl.keep, cl.part, ⟨E2.cell 7 rfl rfl, E2.cell 7 rfl rfl, E2.cell 7 rfl rfl, E2.cell 7 rfl rfl, trivial⟩, ?_⟩
    have E3 : Keep B h0 (x1.e area cs k) _ := E2.take 7
    have hdl := doesS_len area cl cs k
    rw [← hb]
    refine does_wp E3 O ha (by omega) (by omega) fun x2 h45 O2 hb2 E => ⟨fun _ => ?_, fun e => by cases e⟩
    clear E3 E2 E1 e39 a38
    rw [← hb2]
    generalize hd : doesS area cl cs k = D at O2 E hdl
    obtain ⟨cs2, k2⟩ := D
    simp only at O2 E hdl
    have f1 : ∀ {M : List (Option (Nat × AObj))} {h : Heap}, Keep B h0 (x2.e area cs2 k2 ++ M) h → cellH B h (Addr.add ⟨x2.kb, 0, none⟩ 1) = some (.pointer (some ⟨x2.kl, 0, none⟩)) := fun E => E.cellA 6 (m := 0) rfl rfl
    have f2 : ∀ {M : List (Option (Nat × AObj))} {h : Heap}, Keep B h0 (x2.e area cs2 k2 ++ M) h → cellH B h (Addr.add ⟨x2.kb, 0, none⟩ 2) = some (.pointer (some ⟨x2.kg, 0, none⟩)) := fun E => E.cellA 6 (m := 0) rfl rfl
    have E : Keep B h0 (x2.e area cs2 k2 ++ []) h45 := by rw [List.append_nil]; exact E
    refine ⟨_, rfl, _, f2 E, rltext_wp (i := 3) (j := 5) E ⟨rfl, rfl⟩ rfl O2.d O2.ok (by omega) ?_⟩
    refine ⟨_, rfl, _, f2 E, _, rfl, _, E.cell 5 rfl rfl, _, rfl, _, f2 E, _, rfl, _, E.cell 5 rfl rfl, _, rfl, k2, E.cellA 3 (m := 0) rfl rfl, ?_⟩
    refine rtext_wp (i := 3) E ⟨rfl, rfl⟩ O2.d O2.hk O2.ok (by omega) ⟨f2 E, E.cell 5 rfl rfl, f2 E, E.cell 5 rfl rfl, E.cellA 3 (m := 0) rfl rfl, ?_⟩
    have hz1 := O2.ok.size area
    have hz2 := O2.ok.sz area k2
    have hle1 := allL_le (bl (textD area cs2))
    rw [bl_length] at hle1
    refine rall_wp (by omega) fun a93 c95 r93 h92 R93 E4 => ?_
    have E5 : Keep B h0 (x2.e area cs2 k2 ++ [r93]) h92 := by
      have := E.append E4
      rwa [List.append_nil] at this
    refine ⟨f2 E5, E5.cell 5 rfl rfl, f2 E5, E5.cell 5 rfl rfl, E5.cellA 3 (m := 0) rfl rfl, _, rfl, _, f1 E5, ?_⟩
    refine loads_wp (i := 0) (j := 2) E5 ⟨rfl, rfl⟩ rfl O2.ok ha fun a113 c115 r113 h112 R113 E6 => ⟨f1 E6, ?_⟩
    refine rall_wp (by omega) fun a118 c120 r118 h117 R118 E7' => ?_
    have E7 : Keep B h0 (x2.e area cs2 k2 ++ [r93, r113, r118]) h117 := E6.append E7'
    refine ⟨f1 E7, same04_wp (SRow.reads R113 fun b o e => E7.at 8 (by rw [← e]; rfl)) (SRow.reads R118 fun b o e => E7.at 9 (by rw [← e]; rfl)) (by omega) ⟨fun _ => ⟨f1 E7, ?_⟩, fun e => by simp at e⟩⟩
    clear E6 E7' E5 E4 E
    have fin : ∀ {M : List (Option (Nat × AObj))} {h : Heap}, Keep B h0 (x2.e area cs2 k2 ++ M) h → Fin B h (fun h' => S_countermandlaw04_WalDoes_J2 B area a list.length c (some ⟨x2.kb, 0, none⟩) j (list.length - j) (fun i m h' => ∃ (j : Nat) (x' : WX) (cs : List Chg) (k : Nat), j ≤ list.length ∧ i = j ∧ m = list.length - j ∧ x'.Ok cs k ∧ x'.kb = x2.kb ∧ cs.length ≤ j ∧ Keep B h0 (x'.e area cs k) h') false h' Q) := fun E => by
      refine Fin.of ⟨fun e => (by cases e), fun _ => Fin.of ⟨list.length - (j + 1), by omega, j + 1, x2, cs2, k2, by omega, hw, rfl, O2, rfl, by omega, ?_⟩⟩
      exact E.take 7
    have J6 : ∀ {h : Heap} (b : Bool) (p : Option Addr) (a93 : Option Addr) (c95 : Nat) (A105 : Addr), A105 = ⟨x2.kb, 0, none⟩ → p = some ⟨x2.kl, 0, none⟩ → Keep B h0 (x2.e area cs2 k2 ++ [r93, r113, r118]) h → S_countermandlaw04_WalDoes_J6 B area a list.length c (some ⟨x2.kb, 0, none⟩) j (list.length - j) (fun i m h' => ∃ (j : Nat) (x' : WX) (cs : List Chg) (k : Nat), j ≤ list.length ∧ i = j ∧ m = list.length - j ∧ x'.Ok cs k ∧ x'.kb = x2.kb ∧ cs.length ≤ j ∧ Keep B h0 (x'.e area cs k) h') a93 (allL (bl (textD area (cs2.take k2)))).length c95 A105 p b b h Q := by
      rintro h b p a93 c95 A105 rfl rfl E
      unfold S_countermandlaw04_WalDoes_J6
      refine ⟨fun _ => ⟨_, rfl, _, f1 E, lasting_wp (i := 0) (j := 2) E ⟨rfl, rfl⟩ rfl O2.ok ha fun h208 E8 => ⟨f1 E8, fun _ => ⟨_, rfl, _, f1 E8, walarea_wp (j := 2) E8 rfl ⟨f1 E8, fun _ => fin E8, fun n => absurd rfl n⟩⟩, fun n => absurd rfl n⟩⟩, fun n => absurd rfl n⟩
    have J5 : ∀ {h : Heap} (i151 : Int) (a93 : Option Addr) (c95 : Nat), i151 = ((wholeL (bl (textD area cs2)) : Nat) : Int) → Keep B h0 (x2.e area cs2 k2 ++ [r93, r113, r118]) h → S_countermandlaw04_WalDoes_J5 B area a list.length c (some ⟨x2.kb, 0, none⟩) j (list.length - j) (fun i m h' => ∃ (j : Nat) (x' : WX) (cs : List Chg) (k : Nat), j ≤ list.length ∧ i = j ∧ m = list.length - j ∧ x'.Ok cs k ∧ x'.kb = x2.kb ∧ cs.length ≤ j ∧ Keep B h0 (x'.e area cs k) h') a93 (allL (bl (textD area (cs2.take k2)))).length c95 ⟨x2.kb, 0, none⟩ (some ⟨x2.kl, 0, none⟩) i151 (some ⟨x2.kg, 0, none⟩) h Q := by
      rintro h _ a93 c95 rfl E
      unfold S_countermandlaw04_WalDoes_J5
      have g : cellH B h (Addr.add ⟨x2.kg, 0, none⟩ 2) = some (.bool (tornOf (bl (textD area cs2)))) := E.cellA 5 (m := 0) rfl rfl
      have tw : ∀ {Q' : Bool → Heap → Prop}, Q' (tornOf (bl (textD area cs2))) h → C_wal_Log_Torn B (some ⟨x2.kl, 0, none⟩) h Q' := fun hq => waltorn_wp (j := 2) E rfl hq
      have j6 := J6 (tornOf (bl (textD area cs2))) _ a93 c95 _ rfl rfl E
      refine rlwhole_wp (i := 3) (j := 5) E ⟨rfl, rfl⟩ rfl O2.d O2.ok (by omega) ⟨f1 E, fun _ => ⟨_, rfl, _, rfl, ⟨_, f1 E, tw ⟨f1 E, _, f2 E, _, rfl, _, g, j6⟩, _, f2 E, _, rfl, tw ⟨f1 E, _, g, j6⟩, _, g, tw ⟨f1 E, j6⟩⟩, _, f2 E, _, rfl, ⟨_, f1 E, tw ⟨f1 E, _, g, j6⟩, _, g, tw ⟨f1 E, j6⟩⟩, _, g, _, f1 E, tw ⟨f1 E, j6⟩⟩, fun n => absurd rfl n⟩
    have sw : ∀ {Q' : Int → Heap → Prop}, Q' ((wholeL (bl (textD area cs2)) : Nat) : Int) h117 → C_wal_Log_Size B (some ⟨x2.kl, 0, none⟩) h117 Q' := fun hq => walsize_wp (j := 2) E7 rfl hq
    have j5 := fun a93 c95 => J5 _ a93 c95 rfl E7
    exact ⟨_, rfl, _, rfl, ⟨_, f1 E7, sw ⟨f1 E7, _, f2 E7, j5 _ _⟩, _, f2 E7, sw ⟨f1 E7, j5 _ _⟩⟩, _, f2 E7, _, f1 E7, sw ⟨f1 E7, j5 _ _⟩⟩
  · have : i17 = 1 := by
      rcases hf with ⟨_, h⟩ | h
      · exact absurd h h17
      · exact h
    subst this
    exact Fin.ent E0.back (Fin.of hQ)
theorem WalDoes_wp {area : Int} {a : Option Addr} {c : Nat} {list : List CallR} (hr : Reads B h a 4 CallR.cells list) (hQ : Q true h) : C_countermandlaw04_WalDoes B area a list.length c h Q := by
  refine C_countermandlaw04_WalDoes.of ?_
  unfold S_countermandlaw04_WalDoes
  refine alive04_wp ⟨fun _ => great04_wp hr fun b hb => ⟨fun _ => Fin.of hQ, fun e => ?_⟩, fun e => by cases e⟩
  obtain ⟨hl, hs⟩ := hb e
  refine walopen_nil (dnew_wp fun kD h13 E => ?_)
  by_cases ha : area = 0 ∨ area = 1
  · refine walopen_wp (i := 0) E ⟨rfl, rfl⟩ ha DOk.nil fun kl h15 E1 => walforce_nil (walclear_nil ⟨fun _ => ?_, fun n => absurd rfl n⟩)
    have J := WalDoes_J1 (area := area) (c := c) (i17 := 0) (E1.take 0) hr hl hs (.inl ⟨ha, rfl⟩) hQ
    refine ⟨fun _ => ⟨fun _ => walappend_nil ⟨fun _ => loads_nil ⟨fun _ => lasting_nil (walsize_nil (walarea_nil ⟨fun _ => waltorn_nil ⟨fun e => (by cases e), fun _ => Fin.of J⟩, fun n => absurd (by decide) n⟩)), fun n => absurd rfl n⟩, fun n => absurd rfl n⟩, fun n => absurd rfl n⟩, fun n0 => ⟨fun _ => walappend_nil ⟨fun _ => loads_nil ⟨fun _ => lasting_nil (walsize_nil (walarea_nil ⟨fun _ => waltorn_nil ⟨fun e => (by cases e), fun _ => Fin.of J⟩, fun n => absurd (by decide) n⟩)), fun n => absurd rfl n⟩, fun n => absurd rfl n⟩, fun n => absurd ?_ n⟩⟩
    have : area = 1 := ha.resolve_left n0
    subst this; rfl
  · refine walopen_bad ha (walforce_nil (walclear_nil ⟨fun _ => ?_, fun n => absurd rfl n⟩))
    have J := WalDoes_J1 (area := area) (c := c) (i17 := 1) (E.take 0) hr hl hs (.inr rfl) hQ
    refine ⟨fun e => absurd (.inl e) ha, fun n0 => ⟨fun _ => walappend_nil ⟨fun _ => loads_nil ⟨fun _ => lasting_nil (walsize_nil (walarea_nil ⟨fun _ => waltorn_nil ⟨fun e => (by cases e), fun _ => Fin.of J⟩, fun n => absurd (by decide) n⟩)), fun n => absurd rfl n⟩, fun n => absurd rfl n⟩, fun n => absurd ?_ n⟩⟩
    have : (area == 1) = false := by simpa using fun e => ha (.inr e)
    rw [this]; rfl
end
theorem WalDoes_calls {H : Type} {enc : TypeId × Value → H} (W : World) (area : Int) (wa : (Lit.int .i64 area).wf = true) {a : Option Addr} {len cap : Nat} {d : DataW H} {p : List MemPlace} (k : DataW.Trod enc PG W 0 (fun _ => true) true TY.s_countermandlaw04_Call (.slice a len cap) d p) :
    Calls PG FN.countermandlaw04_WalDoes #[.int .i64 area, .slice a len cap] W fun e w' => e = .returned (.bool true) ∧ Below W.heap.size W w' := by
  obtain ⟨l, rfl, hr, hok⟩ := CallR_arg k
  refine Spec.calls (Spec.mono (WalDoes_wp (Q := fun b _ => b = true) hr rfl) ?_)
  rintro v h' ⟨b, rfl, rfl⟩
  rfl
end Go.Proofs.Ythloobpjkeodgaa.H
