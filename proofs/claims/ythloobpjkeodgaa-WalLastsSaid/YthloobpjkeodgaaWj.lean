/- The law WalClears; a log alone. No condition. -/
import Derived.Test.YthloobpjkeodgaaWi
namespace Go.Proofs.Ythloobpjkeodgaa.H
open Go Go.RowKit
set_option linter.unusedVariables false
set_option maxRecDepth 100000

theorem crashD_all (cs : List Chg) (keep part : Int) : crashD cs cs.length keep part = cs := by
  unfold crashD
  simp
theorem SRow.single {k : Nat} (s : ByteArray) : SRow (some (k, .vec TY.string (plains [.string s]) 1)) (.slice (some ⟨k, 0, none⟩) 1 1) [bl s] := by
  refine .inr ⟨k, 1, 1, 1, [], ?_, rfl, rfl, Nat.le_refl _, by omega⟩
  simp [strC, ba_bl]
theorem allL_one {l : List UInt8} (h : l.length ≤ 1024) : allL (closeL l) = [l] := by
  have : Short [l] := fun x hx => by rw [List.mem_singleton] at hx; subst hx; exact h
  rw [← rowL_one, allL_rows this]

section
variable {B : RO} {h0 h h' : Heap} {Q : Bool → Heap → Prop} {x : WX} {cs : List Chg} {k : Nat} {s : ByteArray}
theorem WalClears_J2 (E : Keep B h0 (x.e 0 cs k) h) (O : x.Ok cs k) (hl : cs.length ≤ 100) (hs : s.size ≤ 1024) (hQ : Q true h0) : S_countermandlaw04_WalClears_J2 B s (some ⟨x.kb, 0, none⟩) h Q := by
  unfold S_countermandlaw04_WalClears_J2
  refine ⟨_, rfl, _, E.cellA 6 (m := 0) rfl rfl, walclear_wp (i := 0) (j := 2) E ⟨rfl, rfl⟩ rfl (by decide) (by decide) O.c O.hk (by omega) (.inl rfl) fun v' r' h17 R' E2 => ?_⟩
  have et : textD 0 (cs ++ [Chg.mk 0 true ByteArray.empty]) = ByteArray.mk #[] := textD_reset 0 cs _
  have hok : DOk (cs ++ [Chg.mk 0 true ByteArray.empty]) := O.ok.snoc (.inl rfl) (by
    show (textD 0 (cs ++ [Chg.mk 0 true ByteArray.empty])).size ≤ 16384
    rw [et]; decide)
  have hal : (allL (bl (textD 0 (cs ++ [Chg.mk 0 true ByteArray.empty])))).length = 0 := by
    rw [et]; exact congrArg List.length (allL_none openL_nil)
  have hcl : (closeL (bl s)).length = s.size + 6 := by rw [closeL_len (by rw [bl_length]; omega), bl_length]
  have hz : (textD 0 (cs ++ [Chg.mk 0 true ByteArray.empty])).size = 0 := by rw [et]; rfl
  refine ⟨_, rfl, _, E2.cellA 6 (m := 0) rfl rfl, walsize_wp (j := 2) E2 rfl ⟨fun _ => ⟨_, rfl, _, E2.cellA 6 (m := 0) rfl rfl, waltorn_wp (j := 2) E2 rfl ⟨fun e => (by cases e), fun _ => ⟨_, rfl, _, E2.cellA 6 (m := 0) rfl rfl, ?_⟩⟩⟩, fun n => absurd rfl n⟩⟩
  refine loads_wp (i := 0) (j := 2) E2 ⟨rfl, rfl⟩ rfl hok (.inl rfl) fun a c r h58 R E3 => ⟨fun _ => ?_, fun n => absurd (by rw [hal]; rfl) n⟩
  have hlen : (cs ++ [Chg.mk 0 true ByteArray.empty]).length = cs.length + 1 := by simp
  have hk := O.hk
  refine ⟨_, rfl, _, E3.cellA 6 (m := 0) rfl rfl, walappend_wp (i := 0) (j := 2) E3 ⟨rfl, rfl⟩ rfl (by decide) (by decide) R' (by omega) hok (by omega) (by omega) (by decide) (.inl rfl) (fun q => absurd q (by omega)) (fun _ q => by cases q) (fun _ _ q => absurd q (by omega)) fun _ _ _ v2 r2 h66 R2 E4 => ⟨fun _ => Fin.of ?_, fun n => absurd rfl n⟩⟩
  unfold S_countermandlaw04_WalClears_J3
  have et2 : bl (textD 0 (cs ++ [Chg.mk 0 true ByteArray.empty] ++ [Chg.mk 0 false (ba (closeL (bl s)))])) = closeL (bl s) := by
    rw [textD_app, et, bl_append, bl_ba]; rfl
  have hok2 : DOk (cs ++ [Chg.mk 0 true ByteArray.empty] ++ [Chg.mk 0 false (ba (closeL (bl s)))]) := hok.snoc (.inl rfl) (by
    show (textD 0 _).size ≤ 16384
    rw [← bl_length, et2, hcl]; omega)
  have hlen2 : (cs ++ [Chg.mk 0 true ByteArray.empty] ++ [Chg.mk 0 false (ba (closeL (bl s)))]).length = cs.length + 2 := by simp
  have hal2 : allL (bl (textD 0 (cs ++ [Chg.mk 0 true ByteArray.empty] ++ [Chg.mk 0 false (ba (closeL (bl s)))]))) = [bl s] := by
    rw [et2]; exact allL_one (by rw [bl_length]; omega)
  generalize cs ++ [Chg.mk 0 true ByteArray.empty] ++ [Chg.mk 0 false (ba (closeL (bl s)))] = cs2 at *
  refine ⟨_, rfl, _, E4.cellA 6 (m := 0) rfl rfl, walforce_wp (i := 0) (j := 2) E4 ⟨rfl, rfl⟩ rfl R2 (by omega) hok2 (by omega) fun h23 E5 => ⟨_, rfl, _, E5.cell 6 rfl rfl, ?_⟩⟩
  refine dcrash_wp (i := 0) (cs := cs2) (k := cs2.length) (keep := 0) (part := 0) E5 ⟨rfl, rfl⟩ (by rw [List.drop_length]; exact Row.nil _ _) (Nat.le_refl _) hok2 (by omega) fun h27 E6 => ⟨_, rfl, _, E6.cell 6 rfl rfl, ?_⟩
  rw [crashD_all] at E6
  refine walopen_wp (i := 0) (cs := cs2) (k := cs2.length) E6 ⟨rfl, rfl⟩ (.inl rfl) hok2 fun kl h31 E7 => ?_
  refine loads_wp (i := 0) (j := 8) (cs := cs2) (k := cs2.length) E7 ⟨rfl, rfl⟩ rfl hok2 (.inl rfl) fun a c r h34 R3 E8 => ?_
  intro k38 a38 b38 h39 e39
  have E9 := E8.made a38 b38 e39
  rw [hal2] at R3 ⊢
  refine same04_wp (lb := [bl s]) (SRow.reads R3 fun b o e => E9.at 9 (by rw [← e]; rfl)) (SRow.reads (SRow.single (k := k38) s) fun b o e => by cases e; exact E9.last) (by simp) ⟨fun _ => ?_, fun e => by simp at e⟩
  refine lasting_wp (i := 0) (j := 8) (cs := cs2) (k := cs2.length) E9 ⟨rfl, rfl⟩ rfl hok2 (.inl rfl) fun h42 E10 => ?_
  rw [List.take_length, hal2]
  exact Fin.ent E10.back (Fin.of hQ)
theorem WalClears_wp {a : Option Addr} {c : Nat} {list : List CallR} (hr : Reads B h a 4 CallR.cells list) (hQ : Q true h) : C_countermandlaw04_WalClears B a list.length c s h Q := by
  refine C_countermandlaw04_WalClears.of ?_
  unfold S_countermandlaw04_WalClears
  refine alive04_wp ⟨fun _ => great04_wp hr fun b hb => ⟨fun _ => Fin.of hQ, fun e => ⟨fun _ => Fin.of hQ, fun hsz => Fin.of ?_⟩⟩, fun e => by cases e⟩
  obtain ⟨hl, hs⟩ := hb e
  unfold S_countermandlaw04_WalClears_J1
  refine start_wp (.inl rfl) fun x h23 O E => ?_
  refine ⟨fun i m h' => ∃ (j : Nat) (x' : WX) (cs : List Chg) (k : Nat), j ≤ list.length ∧ i = j ∧ m = list.length - j ∧ x'.Ok cs k ∧ x'.kb = x.kb ∧ cs.length ≤ j ∧ Keep B h (x'.e 0 cs k) h', list.length, Fin.of ⟨0, x, [], 0, by omega, rfl, by omega, O, rfl, by simp, E⟩, ?_⟩
  clear E O
  rintro _ _ h26 ⟨j, x1, cs, k, hj, rfl, rfl, O, hb, hcl, E⟩
  rw [← hb]
  refine ⟨fun hlt => ?_, fun _ => Fin.of (WalClears_J2 E O (by omega) (by omega) hQ)⟩
  have hj' : j < list.length := by omega
  have hw : IntKind.wrap .i64 ((j : Int) + 1) = ((j + 1 : Nat) : Int) := by rw [w64 (by omega) (by omega)]; omega
  obtain ⟨A, e1, e3, e4⟩ := (hr.over E.le E.nw) j list[j] (List.getElem?_eq_getElem hj')
  have hsz := hs list[j] (List.getElem_mem hj')
  generalize list[j] = cl at e4 hsz
  refine ⟨A, e1, by omega, hlt, cl.kind, cl.s, cl.keep, cl.part, e4, fun k38 a38 b38 h39 e39 => ?_⟩
  have E1 := E.made a38 b38 e39
  refine ⟨_, stores_whole (E1.at 7 rfl) rfl (by simp) (by simp [isOne]) (by simp), ?_⟩
  have E2 := E1.put (o' := callO cl) 7 rfl
  refine ⟨cl.kind, cl.s, cl.keep, cl.part, ⟨E2.cell 7 rfl rfl, E2.cell 7 rfl rfl, E2.cell 7 rfl rfl, E2.cell 7 rfl rfl, trivial⟩, ?_⟩
  have E3 : Keep B h (x1.e 0 cs k) _ := E2.take 7
  have hdl := doesS_len 0 cl cs k
  exact does_wp E3 O (.inl rfl) (by omega) (by omega) fun x2 h45 O2 hb2 E => Fin.of ⟨list.length - (j + 1), by omega, j + 1, x2, _, _, by omega, hw, rfl, O2, by rw [hb2], by omega, E⟩
end
theorem WalClears_calls {H : Type} {enc : TypeId × Value → H} (W : World) {a : Option Addr} {len cap : Nat} {d : DataW H} {p : List MemPlace} (k : DataW.Trod enc PG W 0 (fun _ => true) true TY.s_countermandlaw04_Call (.slice a len cap) d p) (s : ByteArray) (ws : s.size ≤ 140737488351232) :
    Calls PG FN.countermandlaw04_WalClears #[.slice a len cap, .string s] W fun e w' => e = .returned (.bool true) ∧ Below W.heap.size W w' := by
  obtain ⟨l, rfl, hr, hok⟩ := CallR_arg k
  refine Spec.calls (Spec.mono (WalClears_wp (Q := fun b _ => b = true) hr rfl) ?_)
  rintro v h' ⟨b, rfl, rfl⟩
  rfl
end Go.Proofs.Ythloobpjkeodgaa.H
