/- The laws of tomes: the sets; TomeApart. No condition. -/
import Derived.Test.YtoajfmmomgpjcaaTc
import Derived.Test.YtoajfmmomgpjcaaHl
namespace Go.Proofs.Ytoajfmmomgpjcaa.H
open Go Go.RowKit
set_option linter.unusedVariables false
set_option maxRecDepth 100000

structure FSetR where
  i : Int
  b : Bool
  s : ByteArray
  v : Int
def FSetR.cells (x : FSetR) : List Value := [.int .i64 x.i, .bool x.b, .string x.s, .int .i64 x.v]
theorem TK.fsets_sl : PG.underlying TY.s_countermandlaw10_Set = some (.slice TY.countermandlaw10_Set) := by kernel_rfl
theorem TK.fset_kd : leafB PG 5 TY.countermandlaw10_Set = some [.int .i64, .bool, .str, .int .i64] := by kernel_rfl
theorem FSetR_arg {H : Type} {enc : TypeId × Value → H} {w : World} {base : Nat} {spare : Nat → Bool} {held : Bool} {a : Option Addr} {len cap : Nat} {d : DataW H} {p : List MemPlace} (h : DataW.Trod enc PG w base spare held TY.s_countermandlaw10_Set (.slice a len cap) d p) :
    ∃ l : List FSetR, len = l.length ∧ Reads (roOf w) noHeap a 4 FSetR.cells l ∧ ∀ x ∈ l, x.s.size ≤ maxLen :=
  arg_rows FSetR.cells (fun x => x.s.size ≤ maxLen) TK.fsets_sl TK.fset_kd rfl (by omega) (fun vs h => by
    obtain ⟨z1, v1, rfl, _, h1⟩ := h.int
    obtain ⟨b, v2, rfl, h2⟩ := h1.bool
    obtain ⟨s, v3, rfl, hs, h3⟩ := h2.str
    obtain ⟨z2, v4, rfl, _, h4⟩ := h3.int
    obtain rfl := h4.nil
    exact ⟨⟨z1, b, s, z2⟩, rfl, hs⟩) h
theorem arg_cap {H : Type} {enc : TypeId × Value → H} {P : Program} {w : World} {base : Nat} {spare : Nat → Bool} {held : Bool} {t e : TypeId} {m : Nat} {ks : List Kd} {a : Option Addr} {len cap : Nat} {d : DataW H} {p : List MemPlace} (ht : P.underlying t = some (.slice e)) (hk : leafB P m e = some ks) (h : DataW.Trod enc P w base spare held t (.slice a len cap) d p) : len ≤ cap := by
  obtain ⟨n, hn⟩ := h
  exact (trod_rows ht hk (show DataW.trod enc P w base spare held n t [.slice a len cap] = some (d, p) from hn)).1

/-! The plain law. -/
abbrev FL := List (FileS × Int)
def zF : FL := List.replicate 6 ((false, ByteArray.empty), 0)
def apF (l : FL) (x : FSetR) : FL := setF l x.i x.b x.s x.v
theorem TomeOk.foldl {l : FL} (k : TomeOk l) (sets : List FSetR) : TomeOk (sets.foldl apF l) := by
  induction sets generalizing l with
  | nil => exact k
  | cons x t ih => exact ih (k.set x.i x.b x.s x.v)
theorem setB_len {l l' : FL} (h : l.length = l'.length) (n : Int) (b : Bool) (s : ByteArray) : setB l n b s = setB l' n b s := by unfold setB; rw [h]
theorem setF_comm (l : FL) {n m : Int} (hn : n ≠ m) (b c : Bool) (s t : ByteArray) (v w : Int) : setF (setF l n b s v) m c t w = setF (setF l m c t w) n b s v := by
  have e1 : setB (setF l n b s v) m c t = setB l m c t := setB_len (setF_len l n b s v) m c t
  have e2 : setB (setF l m c t w) n b s = setB l n b s := setB_len (setF_len l m c t w) n b s
  rw [setF, e1, setF, setF, e2, setF]
  split <;> split <;> try rfl
  rename_i h1 h2
  unfold setB at h1 h2
  simp only [Bool.and_eq_true, decide_eq_true_eq] at h1 h2
  exact List.set_comm _ _ (by omega)
theorem apF_comm {list : List FSetR} (hd : ∀ x ∈ list, ∀ y ∈ list, x.i = y.i → x = y) : ∀ x ∈ list, ∀ y ∈ list, ∀ z, apF (apF z x) y = apF (apF z y) x := fun x hx y hy z => by
  by_cases h : x.i = y.i
  · rw [hd x hx y hy h]
  · exact setF_comm z h _ _ _ _ _ _
/-- A list, begun elsewhere. -/
def rotL {α : Type} (l : List α) (p : Nat) : List α := l.drop p ++ l.take p
theorem rotL_len {α : Type} (l : List α) (p : Nat) : (rotL l p).length = l.length := by unfold rotL; rw [List.length_append, List.length_drop, List.length_take]; omega
theorem rotL_perm {α : Type} (l : List α) (p : Nat) : (rotL l p).Perm l := by
  have := List.perm_append_comm (l₁ := l.drop p) (l₂ := l.take p)
  rw [List.take_append_drop] at this
  exact this
theorem rotL_get {α : Type} (l : List α) (p j : Nat) (hp : p ≤ l.length) (hj : j < l.length) : (rotL l p)[j]? = l[(j + p) % l.length]? := by
  unfold rotL
  by_cases h : j + p < l.length
  · rw [List.getElem?_append_left (by rw [List.length_drop]; omega), List.getElem?_drop, Nat.mod_eq_of_lt h, Nat.add_comm]
  · rw [List.getElem?_append_right (by rw [List.length_drop]; omega), List.length_drop, Nat.mod_eq_sub_mod (by omega), Nat.mod_eq_of_lt (by omega), List.getElem?_take_of_lt (by omega)]
    congr 1; omega
theorem rot_fold {list : List FSetR} (hd : ∀ x ∈ list, ∀ y ∈ list, x.i = y.i → x = y) (p : Nat) (z : FL) : (rotL list p).foldl apF z = list.foldl apF z :=
  (rotL_perm list p).foldl_eq' (fun x hx y hy z => apF_comm hd x ((rotL_perm list p).mem_iff.1 hx) y ((rotL_perm list p).mem_iff.1 hy) z) z
theorem fold_take {l : List FSetR} {z : FL} (j : Nat) (x : FSetR) (h : l[j]? = some x) : apF ((l.take j).foldl apF z) x = (l.take (j + 1)).foldl apF z := by
  obtain ⟨hq, rfl⟩ := List.getElem?_eq_some_iff.1 h
  rw [List.take_succ_eq_append_getElem hq, List.foldl_append]; rfl
def DistF (list : List FSetR) (n : Nat) : Prop := ∀ p q x y, p < n → q < p → list[p]? = some x → list[q]? = some y → x.i ≠ y.i
theorem DistF.mem {list : List FSetR} (d : DistF list list.length) : ∀ x ∈ list, ∀ y ∈ list, x.i = y.i → x = y := fun x hx y hy e => by
  obtain ⟨p, hp⟩ := List.getElem?_of_mem hx
  obtain ⟨q, hq⟩ := List.getElem?_of_mem hy
  have lp := (List.getElem?_eq_some_iff.1 hp).1
  have lq := (List.getElem?_eq_some_iff.1 hq).1
  rcases Nat.lt_trichotomy p q with h | h | h
  · exact absurd e.symm (d q p y x lq h hq hp)
  · subst h; rw [hp] at hq; exact Option.some.inj hq
  · exact absurd e (d p q x y lp h hp hq)

section
variable {B : RO} {h0 h h' : Heap} {a : Option Addr} {c : Nat} {list : List FSetR} {Q : Bool → Heap → Prop} {kA kA' kB kB' : Nat} {va vb : Value} {ra rb : Option (Nat × AObj)}
theorem great10_wp (hr : Reads B h a 4 FSetR.cells list) (hQ : ∀ b, (b = false → list.length ≤ 40 ∧ ∀ x ∈ list, x.s.size ≤ 100) → Q b h) : C_countermandlaw10_great B a list.length c h Q := by
  refine C_countermandlaw10_great.of ?_
  unfold S_countermandlaw10_great
  refine ⟨fun _ => Fin.of (hQ true fun e => by cases e), fun hlen => ?_⟩
  refine ⟨fun i m h' => ∃ j : Nat, j ≤ list.length ∧ i = j ∧ m = list.length - j ∧ (∀ x ∈ list.take j, x.s.size ≤ 100) ∧ Keep B h [] h', list.length, Fin.of ⟨0, by omega, rfl, by omega, fun x hx => (by simp at hx), Keep.nil B h⟩, ?_⟩
  rintro _ _ h7 ⟨j, hj, rfl, rfl, hs, E⟩
  refine ⟨fun hlt => ?_, fun _ => Fin.ent E.back (Fin.of (hQ false fun _ => ?_))⟩
  · have hj' : j < list.length := by omega
    have hw : IntKind.wrap .i64 ((j : Int) + 1) = ((j + 1 : Nat) : Int) := by rw [w64 (by omega) (by omega)]; omega
    obtain ⟨A, e1, e3, e4⟩ := (hr.over E.le E.nw) j list[j] (List.getElem?_eq_getElem hj')
    refine ⟨A, e1, by omega, hlt, list[j].i, list[j].b, list[j].s, list[j].v, e4, fun k19 a19 b19 h20 e20 => ?_⟩
    have E1 := E.made a19 b19 e20
    refine ⟨_, stores_whole (E1.at 0 rfl) rfl (by simp) (by simp [isOne]) (by simp), ?_⟩
    have E2 := E1.put (o' := .vec TY.countermandlaw10_Set (plains list[j].cells) 4) 0 rfl
    refine ⟨_, E2.cell 0 rfl rfl, fun _ => Fin.ent E2.back (Fin.of (hQ true fun e => by cases e)), fun hz => Fin.of ⟨list.length - (j + 1), by omega, j + 1, by omega, hw, rfl, fun x hx => ?_, E2.take 0⟩⟩
    rw [List.take_succ_eq_append_getElem hj', List.mem_append, List.mem_singleton] at hx
    rcases hx with hx | rfl
    · exact hs x hx
    · omega
  · have : j = list.length := by omega
    subst this
    rw [List.take_length] at hs
    exact ⟨by omega, hs⟩
theorem TomeApart_J3 (E : Keep B h0 (tomE kA kA' va ra ++ tomE kB kB' vb rb) h) {la lb : FL} (Ra : FRow ra va la) (Rb : FRow rb vb lb) (ka : TomeOk la) (e : la = lb) (hQ : Q true h0) : S_countermandlaw10_TomeApart_J3 B (some ⟨kA, 0, none⟩) (some ⟨kB, 0, none⟩) h Q := by
  subst e
  unfold S_countermandlaw10_TomeApart_J3
  have Aa : TomeAt (tomE kA kA' va ra ++ tomE kB kB' vb rb) 0 kA kA' va ra := ⟨rfl, rfl, rfl⟩
  have Ab : TomeAt (tomE kA kA' va ra ++ tomE kB kB' vb rb) 3 kB kB' vb rb := ⟨rfl, rfl, rfl⟩
  refine tsame_wp E Aa Ra ka Ab Rb ka fun h1 E1 => ⟨fun _ => tbytes_wp E1 Aa Ra ka fun h2 E2 => tbytes_wp E2 Ab Rb ka fun h3 E3 => Fin.ent E3.back (Fin.of ?_), fun e => by simp at e⟩
  simp only [decide_true]; exact hQ
theorem tome_cases {L : List (Option (Nat × AObj))} {r' : Option (Nat × AObj)} : (tomE kA kA' va ra ++ L).set 2 r' = tomE kA kA' va r' ++ L := rfl
theorem TomeApart_J2 {p : Nat} (E : Keep B h0 [] h) (hr : Reads B h0 a 4 FSetR.cells list) (hl : list.length ≤ 40) (hp : p ≤ list.length) (hd : ∀ x ∈ list, ∀ y ∈ list, x.i = y.i → x = y) (hQ : Q true h0) : S_countermandlaw10_TomeApart_J2 B a list.length c (p : Int) h Q := by
  unfold S_countermandlaw10_TomeApart_J2
  refine tnew_wp fun kA kA' va ra h12 Ra E1 => tnew_wp fun kB kB' vb rb h14 Rb E2 => ?_
  have E3 : Keep B h0 (tomE kA kA' va ra ++ tomE kB kB' vb rb) h14 := (E.append E1).append E2
  refine ⟨fun i m h' => ∃ (j : Nat) (ra rb : Option (Nat × AObj)), j ≤ list.length ∧ i = j ∧ m = list.length - j ∧ FRow ra va ((list.take j).foldl apF zF) ∧ FRow rb vb (((rotL list p).take j).foldl apF zF) ∧ Keep B h0 (tomE kA kA' va ra ++ tomE kB kB' vb rb) h', list.length, Fin.of ⟨0, ra, rb, by omega, rfl, by omega, Ra, Rb, E3⟩, ?_⟩
  clear E3 E2 E1 E Ra Rb
  rintro _ _ h25 ⟨j, ra, rb, hj, rfl, rfl, Ra, Rb, E⟩
  refine ⟨fun hlt => ?_, fun _ => Fin.of ?_⟩
  · have hj' : j < list.length := by omega
    have hw : IntKind.wrap .i64 ((j : Int) + 1) = ((j + 1 : Nat) : Int) := by rw [w64 (by omega) (by omega)]; omega
    obtain ⟨A, e1, e3, e4⟩ := (hr.over E.le E.nw) j list[j] (List.getElem?_eq_getElem hj')
    refine ⟨A, e1, by omega, hlt, list[j].i, list[j].b, list[j].s, list[j].v, e4, fun k37 a37 b37 h38 e38 => ?_⟩
    have E1 := E.made a37 b37 e38
    refine ⟨_, stores_whole (E1.at 6 rfl) rfl (by simp) (by simp [isOne]) (by simp), ?_⟩
    have E2 := E1.put (o' := .vec TY.countermandlaw10_Set (plains list[j].cells) 4) 6 rfl
    refine ⟨_, E2.cell 6 rfl rfl, _, _, ⟨E2.cell 6 rfl rfl, E2.cell 6 rfl rfl, trivial⟩, _, E2.cell 6 rfl rfl, ?_⟩
    refine tset_wp (i := 0) E2 ⟨rfl, rfl, rfl⟩ Ra fun ra' h44 Ra' E3 => ?_
    have E4 : Keep B h0 (tomE kA kA' va ra' ++ tomE kB kB' vb rb) h44 := E3.take 6
    have hm : Int.tmod (IntKind.wrap .i64 ((j : Int) + (p : Int))) ((list.length : Nat) : Int) = (((j + p) % list.length : Nat) : Int) := by
      rw [w64 (by omega) (by omega)]; rfl
    rw [hm]
    have hml : (j + p) % list.length < list.length := Nat.mod_lt _ (by omega)
    have hg : list[(j + p) % list.length]? = some list[(j + p) % list.length] := List.getElem?_eq_getElem hml
    have hg2 := rotL_get list p j hp hj'
    rw [hg] at hg2
    generalize list[(j + p) % list.length] = x at hg hg2
    generalize (j + p) % list.length = q at hml hg
    obtain ⟨A', e1', e3', e4'⟩ := (hr.over E4.le E4.nw) q x hg
    refine ⟨by omega, A', e1', by omega, by omega, x.i, x.b, x.s, x.v, e4', fun k52 a52 b52 h53 e53 => ?_⟩
    have F1 := E4.made a52 b52 e53
    refine ⟨_, stores_whole (F1.at 6 rfl) rfl (by simp) (by simp [isOne]) (by simp), ?_⟩
    have F2 := F1.put (o' := .vec TY.countermandlaw10_Set (plains x.cells) 4) 6 rfl
    refine ⟨_, F2.cell 6 rfl rfl, _, _, ⟨F2.cell 6 rfl rfl, F2.cell 6 rfl rfl, trivial⟩, _, F2.cell 6 rfl rfl, ?_⟩
    refine tset_wp (i := 3) F2 ⟨rfl, rfl, rfl⟩ Rb fun rb' h59 Rb' F3 => ?_
    have F4 : Keep B h0 (tomE kA kA' va ra' ++ tomE kB kB' vb rb') h59 := F3.take 6
    refine Fin.of ⟨list.length - (j + 1), by omega, j + 1, ra', rb', by omega, hw, rfl, ?_, ?_, F4⟩
    · have := fold_take (z := zF) j list[j] (List.getElem?_eq_getElem hj')
      rw [← this]; exact Ra'
    · have := fold_take (z := zF) j x hg2
      rw [← this]; exact Rb'
  · have : j = list.length := by omega
    subst this
    rw [List.take_length] at Ra
    have e := rotL_len list p
    rw [← e, List.take_length, rot_fold hd] at Rb
    exact TomeApart_J3 E Ra Rb (TomeOk.zero.foldl list) rfl hQ
theorem TomeApart_J1 {p : Nat} (hr : Reads B h a 4 FSetR.cells list) (hl : list.length ≤ 40) (hc : list.length ≤ c) (hp : p ≤ list.length) (hQ : Q true h) : S_countermandlaw10_TomeApart_J1 B a list.length c (p : Int) h Q := by
  unfold S_countermandlaw10_TomeApart_J1
  refine ⟨fun i m h' => ∃ j : Nat, j ≤ list.length ∧ i = j ∧ m = list.length - j ∧ DistF list j ∧ Keep B h [] h', list.length, Fin.of ⟨0, by omega, rfl, by omega, fun p q x y hp => by omega, Keep.nil B h⟩, ?_⟩
  rintro _ _ h62 ⟨j, hj, rfl, rfl, hd, E⟩
  refine ⟨fun hlt => ?_, fun _ => Fin.of ?_⟩
  · have hj' : j < list.length := by omega
    have hw : IntKind.wrap .i64 ((j : Int) + 1) = ((j + 1 : Nat) : Int) := by rw [w64 (by omega) (by omega)]; omega
    obtain ⟨A, e1, e3, e4⟩ := (hr.over E.le E.nw) j list[j] (List.getElem?_eq_getElem hj')
    refine ⟨A, e1, by omega, hlt, list[j].i, list[j].b, list[j].s, list[j].v, e4, fun k74 a74 b74 h75 e75 => ?_⟩
    have E1 := E.made a74 b74 e75
    refine ⟨_, stores_whole (E1.at 0 rfl) rfl (by simp) (by simp [isOne]) (by simp), by omega, by omega, by omega, ?_⟩
    have E2 : Keep B h [some (k74, .vec TY.countermandlaw10_Set (plains list[j].cells) 4)] _ := E1.put (o' := .vec TY.countermandlaw10_Set (plains list[j].cells) 4) 0 rfl
    refine ⟨fun i m h' => ∃ q : Nat, q ≤ j ∧ i = q ∧ m = j - q ∧ (∀ q' y, q' < q → list[q']? = some y → list[j].i ≠ y.i) ∧ Keep B h [some (k74, .vec TY.countermandlaw10_Set (plains list[j].cells) 4)] h', j, Fin.of ⟨0, by omega, rfl, by omega, fun q' y hq => by omega, E2⟩, ?_⟩
    clear E2 E1 E
    rintro _ _ h78 ⟨q, hq, rfl, rfl, hn, E⟩
    refine ⟨fun hlt2 => ?_, fun hge => Fin.of ⟨list.length - (j + 1), by omega, j + 1, by omega, hw, rfl, ?_, E.take 0⟩⟩
    · have hq' : q < j := by simp at hlt2; omega
      have hwq : IntKind.wrap .i64 ((q : Int) + 1) = ((q + 1 : Nat) : Int) := by rw [w64 (by omega) (by omega)]; omega
      obtain ⟨A', e1', e3', e4'⟩ := (hr.over E.le E.nw) q list[q] (List.getElem?_eq_getElem (by omega))
      refine ⟨A', by rw [optAdd0]; exact e1', by omega, hlt2, list[q].i, list[q].b, list[q].s, list[q].v, e4', fun k90 a90 b90 h91 e91 => ?_⟩
      have E1 := E.made a90 b90 e91
      refine ⟨_, stores_whole (E1.at 1 rfl) rfl (by simp) (by simp [isOne]) (by simp), ?_⟩
      have E2 := E1.put (o' := .vec TY.countermandlaw10_Set (plains list[q].cells) 4) 1 rfl
      refine ⟨_, E2.cell 0 rfl rfl, _, E2.cell 1 rfl rfl, fun _ => Fin.ent E2.back (Fin.of hQ), fun hne => Fin.of ⟨j - (q + 1), by omega, q + 1, by omega, hwq, rfl, fun q' y hq2 hy => ?_, E2.take 1⟩⟩
      by_cases h : q' < q
      · exact hn q' y h hy
      · have : q' = q := by omega
        subst this
        rw [List.getElem?_eq_getElem (by omega)] at hy
        cases hy; exact hne
    · have : q = j := by simp at hge; omega
      subst this
      intro p' q' x y h1 h2 hx hy
      by_cases h : p' < q
      · exact hd p' q' x y h h2 hx hy
      · have : p' = q := by omega
        subst this
        rw [List.getElem?_eq_getElem hj'] at hx
        cases hx
        exact hn q' y h2 hy
  · have : j = list.length := by omega
    subst this
    exact TomeApart_J2 E hr hl hp hd.mem hQ
theorem TomeApart_wp {n : Int} (hr : Reads B h a 4 FSetR.cells list) (hc : list.length ≤ c) (hQ : Q true h) : C_countermandlaw10_TomeApart B a list.length c n h Q := by
  refine C_countermandlaw10_TomeApart.of ?_
  unfold S_countermandlaw10_TomeApart
  refine alive10_wp ⟨fun _ => great10_wp hr fun b hb => ⟨fun _ => Fin.of hQ, fun e => ⟨fun _ => Fin.of hQ, fun h1 => ⟨fun _ => Fin.of hQ, fun h2 => Fin.of ?_⟩⟩⟩, fun e => by cases e⟩
  obtain ⟨p, rfl⟩ : ∃ p : Nat, n = p := ⟨n.toNat, by omega⟩
  exact TomeApart_J1 hr (hb e).1 hc (by omega) hQ
end
theorem TomeApart_calls {H : Type} {enc : TypeId × Value → H} (W : World) {a : Option Addr} {len cap : Nat} {d : DataW H} {p : List MemPlace} (k : DataW.Trod enc PG W 0 (fun _ => true) true TY.s_countermandlaw10_Set (.slice a len cap) d p) (n : Int) (wn : (Lit.int .i64 n).wf = true) :
    Calls PG FN.countermandlaw10_TomeApart #[.slice a len cap, .int .i64 n] W fun e w' => e = .returned (.bool true) ∧ Below W.heap.size W w' := by
  obtain ⟨l, rfl, hr, hok⟩ := FSetR_arg k
  refine Spec.calls (Spec.mono (TomeApart_wp (Q := fun b _ => b = true) hr (arg_cap TK.fsets_sl TK.fset_kd k) rfl) ?_)
  rintro v h' ⟨b, rfl, rfl⟩
  rfl
end Go.Proofs.Ytoajfmmomgpjcaa.H
