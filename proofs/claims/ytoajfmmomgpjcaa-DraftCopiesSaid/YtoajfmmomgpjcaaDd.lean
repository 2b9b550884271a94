/- The laws of drafts: DraftPuts, DraftOrder, DraftCopies. No condition. -/
import Derived.Test.YtoajfmmomgpjcaaDc
namespace Go.Proofs.Ytoajfmmomgpjcaa.H
open Go Go.RowKit
set_option linter.unusedVariables false
set_option maxRecDepth 100000

theorem TK.puts_sl : PG.underlying TY.s_countermandref13_Put = some (.slice TY.countermandref13_Put) := by kernel_rfl
theorem TK.put_kd : leafB PG 5 TY.countermandref13_Put = some [.int .i64, .int .i64] := by kernel_rfl
theorem Put_arg {H : Type} {enc : TypeId × Value → H} {w : World} {base : Nat} {spare : Nat → Bool} {held : Bool} {a : Option Addr} {len cap : Nat} {d : DataW H} {p : List MemPlace} (h : DataW.Trod enc PG w base spare held TY.s_countermandref13_Put (.slice a len cap) d p) :
    ∃ l : List (Int × Int), len = l.length ∧ Reads (roOf w) noHeap a 2 entC_int l ∧ ∀ x ∈ l, True :=
  arg_rows entC_int (fun _ => True) TK.puts_sl TK.put_kd rfl (by omega) (fun vs h => by
    obtain ⟨z1, v1, rfl, _, h1⟩ := h.int
    obtain ⟨z2, v2, rfl, _, h2⟩ := h1.int
    obtain rfl := h2.nil
    exact ⟨(z1, z2), rfl, trivial⟩) h
theorem arg_capD {H : Type} {enc : TypeId × Value → H} {P : Program} {w : World} {base : Nat} {spare : Nat → Bool} {held : Bool} {t e : TypeId} {m : Nat} {ks : List Kd} {a : Option Addr} {len cap : Nat} {d : DataW H} {p : List MemPlace} (ht : P.underlying t = some (.slice e)) (hk : leafB P m e = some ks) (h : DataW.Trod enc P w base spare held t (.slice a len cap) d p) : len ≤ cap := by
  obtain ⟨n, hn⟩ := h
  exact (trod_rows ht hk (show DataW.trod enc P w base spare held n t [.slice a len cap] = some (d, p) from hn)).1
theorem Reads.take {B : RO} {h : Heap} {a : Option Addr} {n : Nat} {α : Type} {cells : α → List Value} {l : List α} (r : Reads B h a n cells l) (j : Nat) : Reads B h a n cells (l.take j) := fun i x hx => r i x (by
  have hl := (List.getElem?_eq_some_iff.1 hx).1
  rw [List.length_take] at hl
  rw [List.getElem?_take_of_lt (by omega)] at hx; exact hx)
theorem posD_at {l : List (Int × Int)} (s : SortD l) {q : Nat} {x : Int × Int} (h : l[q]? = some x) : PosD l x.1 q :=
  ⟨Nat.le_of_lt (List.getElem?_eq_some_iff.1 h).1, fun p y hp hy => s.get hp hy h, fun p y hp hy => by
    by_cases e : p = q
    · subst e; rw [h] at hy; cases hy; exact Int.le_refl _
    · exact Int.le_of_lt (s.get (show q < p by omega) h hy)⟩
theorem atD_get {l : List (Int × Int)} (s : SortD l) {q : Nat} {x : Int × Int} (h : l[q]? = some x) : atD l x.1 = some x.2 := atD_old (posD_at s h) h rfl
theorem dOf_mem {e : List (Int × Int)} (hd : ∀ x ∈ e, ∀ y ∈ e, x.1 = y.1 → x = y) (i v : Int) : atD (dOf e) i = some v ↔ (i, v) ∈ e := by
  by_cases hx : ∃ x ∈ e, x.1 = i
  · obtain ⟨x, hx, rfl⟩ := hx
    have : atD (dOf e) x.1 = some x.2 := by
      have key : ∀ (t d : List (Int × Int)), (∀ y ∈ t, y.1 = x.1 → y.2 = x.2) → (x ∈ t ∨ atD d x.1 = some x.2) → atD (t.foldl (fun d x => insD d x.1 x.2) d) x.1 = some x.2 := by
        intro t
        induction t with
        | nil =>
          intro d _ h
          rcases h with h | h
          · simp at h
          · exact h
        | cons y t ih =>
          intro d hs h
          rw [List.foldl_cons]
          refine ih _ (fun z hz => hs z (by simp [hz])) ?_
          by_cases e1 : x.1 = y.1
          · right
            rw [atD_ins, if_pos e1, hs y (by simp) e1.symm]
          · rcases h with h | h
            · left
              rcases List.mem_cons.1 h with h | h
              · exact absurd (by rw [h]) e1
              · exact h
            · right
              rw [atD_ins, if_neg e1]; exact h
      exact key e [] (fun y hy e1 => by rw [hd y hy x hx e1]) (.inl hx)
    rw [this]
    constructor
    · intro h; cases h; exact hx
    · intro h; rw [hd x hx (x.1, v) h rfl]
  · rw [dOf_none (fun q y hy e1 => hx ⟨y, List.mem_of_getElem? hy, e1⟩)]
    constructor
    · intro h; cases h
    · intro h; exact absurd ⟨_, h, rfl⟩ hx
theorem dOf_perm {e f : List (Int × Int)} (hd : ∀ x ∈ e, ∀ y ∈ e, x.1 = y.1 → x = y) (hp : ∀ x, x ∈ e ↔ x ∈ f) : dOf e = dOf f := by
  have hd2 : ∀ x ∈ f, ∀ y ∈ f, x.1 = y.1 → x = y := fun x hx y hy => hd x ((hp x).2 hx) y ((hp y).2 hy)
  refine sortD_ext (dOf_sort e) (dOf_sort f) fun i => ?_
  apply Option.ext
  intro v
  rw [dOf_mem hd, dOf_mem hd2, hp]
theorem sortD_inj {l : List (Int × Int)} (s : SortD l) : ∀ x ∈ l, ∀ y ∈ l, x.1 = y.1 → x = y := fun x hx y hy e => by
  obtain ⟨p, hp⟩ := List.getElem?_of_mem hx
  obtain ⟨q, hq⟩ := List.getElem?_of_mem hy
  rcases Nat.lt_trichotomy p q with h | h | h
  · have := s.get h hp hq; omega
  · subst h; rw [hp] at hq; exact Option.some.inj hq
  · have := s.get h hq hp; omega

section
variable {B : RO} {h0 h h' : Heap} {L : List (Option (Nat × AObj))} {r ra rb r1 : Option (Nat × AObj)} {k6 k8 k10 k12 k14 k16 k18 k21 k23 : Nat} {a a1 : Option Addr} {m c c1 : Nat} {v va vb : Value} {l : List (Int × Int)} {n p : Int} {Q : Bool → Heap → Prop}
theorem retD {k8 : Nat} {w : Bool} {u : Value} (p8 : PF h k8 0 u) (le : Le h0 h) (z : h0 k8 = none) (hQ : Q w h0) :
    ∃ h', storeH h ⟨k8, 0, none⟩ (Value.bool w) = some h' ∧ ∃ b : Bool, cellH B h' ⟨k8, 0, none⟩ = some (Value.bool b) ∧ Fin B h' (Q b) := by
  obtain ⟨t, fs, n, hb, hi⟩ := p8
  have hl := (List.getElem?_eq_some_iff.1 hi).1
  exact ⟨_, storeH_vec hb hi, w, cellH_vec (Heap.set_same _ _ _) (by simp [hl]), Fin.ent (Ent.forget (le.set z)) (Fin.of hQ)⟩
theorem alive13_wp (hQ : Q true h) : C_countermandlaw13_alive B h Q := by
  refine C_countermandlaw13_alive.of ?_
  unfold S_countermandlaw13_alive
  intro k2 a2 b2 h3 e3
  obtain ⟨E, R⟩ := new_string (Keep.nil B h) a2 b2 e3
  have s0 : SortD ([] : List (Int × ByteArray)) := List.Pairwise.nil
  refine get_string_wp (i := 0) E ⟨rfl, rfl⟩ R s0 (by simp) ?_
  refine put_string_wp (i := 0) E ⟨rfl, rfl⟩ R s0 (by simp) fun v1 r1 h7 R1 E1 => ⟨fun _ => ?_, fun e => by cases e⟩
  have E1 : Keep B h (drE_string k2 v1 r1) h7 := E1
  refine put_string_wp (i := 0) E1 ⟨rfl, rfl⟩ R1 s0.ins (by simp [insD]) fun v2 r2 h9 R2 E2 => ⟨fun _ => ?_, fun e => by cases e⟩
  have E2 : Keep B h (drE_string k2 v2 r2) h9 := E2
  refine len_string_wp (i := 0) E2 ⟨rfl, rfl⟩ R2 ⟨fun _ => ⟨fun _ => Fin.ent E2.back (Fin.of ?_), fun hn => absurd rfl hn⟩, fun hn => absurd ?_ hn⟩
  · exact hQ
  · simp [insD]
/-! DraftPuts -/
def dpL (k6 k8 k21 : Nat) (a1 : Option Addr) (n c1 : Nat) (v : Value) (r : Option (Nat × AObj)) : List (Option (Nat × AObj)) :=
  [some (k6, .vec TY.s_countermandref13_Put [.plain (.slice a1 n c1)] 1), some (k8, .vec TY.bool (plains [.bool false]) 1), some (k21, drO_int v), r]
theorem DraftPuts_J3 {k33 k36 : Nat} {a3 : Option Addr} {c3 : Nat} {d : List (Int × Int)} (E : Keep B h0 (dpL k6 k8 k21 a1 l.length c1 v r ++ [r1] ++ [some (k33, .vec TY.s_int (plains [.slice a3 d.length c3]) 1)] ++ [some (k36, .vec TY.int (plains [.int .i64 (d.length : Nat)]) 1)]) h) (R : DRow_int r v d) (hQ : Q true h0) : S_countermandlaw13_DraftPuts_J3 B k8 k21 k33 k36 h Q := by
  unfold S_countermandlaw13_DraftPuts_J3
  refine dget_nil ⟨fun e => (by cases e), fun _ => ⟨_, E.cell 6 rfl rfl, _, _, _, E.cell 5 rfl rfl, fun _ => ⟨_, E.cell 6 rfl rfl, len_int_wp (i := 2) E ⟨rfl, rfl⟩ R ⟨E.cell 6 rfl rfl, E.cell 5 rfl rfl, E.cell 6 rfl rfl, fun _ => ?_, fun hn => absurd rfl hn⟩⟩, fun hn => absurd rfl hn⟩⟩
  refine dput_nil ⟨fun e => (by cases e), fun _ => ⟨E.cell 6 rfl rfl, E.cell 5 rfl rfl, E.cell 6 rfl rfl, dlen_nil ⟨E.cell 6 rfl rfl, E.cell 5 rfl rfl, E.cell 6 rfl rfl, fun _ => dcopy_nil ⟨E.cell 6 rfl rfl, E.cell 5 rfl rfl, E.cell 6 rfl rfl, retD (E.pf 1 rfl rfl) E.le (E.zero 1 rfl) ?_⟩, fun hn => absurd rfl hn⟩⟩⟩
  simp only [decide_true]; exact hQ
theorem DraftPuts_J1 (E : Keep B h0 (dpL k6 k8 k21 a1 l.length c1 v r) h) (R : DRow_int r v (dOf l)) (hr : Reads B h0 a1 2 entC_int l) (hl : l.length ≤ 80) (hQ : Q true h0) : S_countermandlaw13_DraftPuts_J1 B k6 k8 k21 h Q := by
  unfold S_countermandlaw13_DraftPuts_J1
  refine .inl ⟨_, _, _, E.cell 0 rfl rfl, ?_⟩
  refine ref13_numbers_wp (hr.over E.le E.nw) (by omega) fun a3 c3 r1 h29 R1 E1 => ?_
  intro k33 a33 b33 h34 e34
  have E2 := (E.append E1).made a33 b33 e34
  obtain ⟨e5, E3⟩ := E2.store 5 0 (.slice a3 (dOf l).length c3) rfl rfl
  refine ⟨_, e5, fun k36 a36 b36 h37 e37 => ?_⟩
  have E4 := E3.made a36 b36 e37
  obtain ⟨e6, E5⟩ := E4.store 6 0 (.int .i64 0) rfl rfl
  refine ⟨_, e6, dall_wp fun kc ac bc => ?_⟩
  have E6 := E5.new (o := .vec TY.p_draft_Draft_int [.plain (.pointer (some ⟨k21, 0, none⟩))] 1) ac bc
  have hds := dOf_sort l
  have hdl := dOf_len l
  have hnl := numsD_len (dOf l)
  obtain ⟨-, hrd⟩ := Row.rd (B := B) R1 intC_len (by omega)
  generalize hd : dOf l = d at R R1 E6 hds hdl hnl hrd
  clear E5 e6 E4 E3 e5 E2 E1 e34 e37
  have E6 : Keep B h0 (dpL k6 k8 k21 a1 l.length c1 v r ++ [r1] ++ [some (k33, .vec TY.s_int (plains [.slice a3 d.length c3]) 1)] ++ [some (k36, .vec TY.int (plains [.int .i64 ((0 : Nat) : Int)]) 1)] ++ [some (kc, .vec TY.p_draft_Draft_int [.plain (.pointer (some ⟨k21, 0, none⟩))] 1)]) _ := E6
  refine ⟨d, dG kc k21 v r, fun q h' => Keep B h0 (dpL k6 k8 k21 a1 l.length c1 v r ++ [r1] ++ [some (k33, .vec TY.s_int (plains [.slice a3 d.length c3]) 1)] ++ [some (k36, .vec TY.int (plains [.int .i64 (q : Nat)]) 1)] ++ [some (kc, .vec TY.p_draft_Draft_int [.plain (.pointer (some ⟨k21, 0, none⟩))] 1)]) h', dall_iter (B := B) R (by omega), dG_ins, ?_, Fin.of E6, ?_, ?_⟩
  · intro q h' E
    exact ⟨E.last, E.at 2 rfl, fun k o e => E.at 3 (by rw [← e]; rfl)⟩
  · intro q h149 i146 i147 hg E
    have hq := (List.getElem?_eq_some_iff.1 hg).1
    refine .inl ⟨_, _, _, E.cell 0 rfl rfl, ref13_get_wp (hr.over E.le E.nw) (by omega) ?_⟩
    rw [hd]
    have hat : atD d i146 = some i147 := atD_get hds hg
    rw [hat]
    refine ⟨_, E.cell 6 rfl rfl, .inl ⟨_, _, _, E.cell 5 rfl rfl, fun hge => absurd hge (by omega), fun _ => .inl ⟨_, _, _, E.cell 5 rfl rfl, _, E.cell 6 rfl rfl, ?_⟩⟩⟩
    obtain ⟨A, e1, _, q1, _⟩ := hrd h149 (fun k o e => E.at 4 (by rw [← e]; rfl)) q i146 (by simp [numsD, hg])
    refine ⟨A, e1, by omega, by omega, i146, q1, fun _ => ⟨fun _ => ⟨_, E.cell 6 rfl rfl, ?_⟩, fun hn => absurd rfl hn⟩, fun hn => absurd rfl hn⟩
    have hw : IntKind.wrap .i64 ((q : Int) + 1) = ((q + 1 : Nat) : Int) := by rw [w64 (by omega) (by omega)]; omega
    rw [hw]
    obtain ⟨e7, E7⟩ := E.store 6 0 (.int .i64 ((q + 1 : Nat) : Int)) rfl rfl
    exact ⟨_, e7, Fin.of E7⟩
  · intro h149 E
    refine Fin.of ?_
    unfold S_countermandlaw13_DraftPuts_J2
    have E7 := E.pop
    refine dall_wp fun kd ad bd => ?_
    have E8 := E7.new (o := .vec TY.p_draft_Draft_int [.plain (.pointer none)] 1) ad bd
    exact ⟨[], dN kd, fun q h' => Keep B h0 (dpL k6 k8 k21 a1 l.length c1 v r ++ [r1] ++ [some (k33, .vec TY.s_int (plains [.slice a3 d.length c3]) 1)] ++ [some (k36, .vec TY.int (plains [.int .i64 (d.length : Nat)]) 1)] ++ [some (kd, .vec TY.p_draft_Draft_int [.plain (.pointer none)] 1)]) h', dall_nil, dN_ins, fun q h' E => (show h' kd = _ from E.last), Fin.of E8, fun q h' i b hq => by simp at hq, fun h14 E => Fin.of (DraftPuts_J3 E.pop R hQ)⟩
theorem DraftPuts_wp (hr : Reads B h a1 2 entC_int l) (hc : l.length ≤ c1) (hQ : Q true h) : C_countermandlaw13_DraftPuts B a1 l.length c1 n h Q := by
  refine C_countermandlaw13_DraftPuts.of ?_
  unfold S_countermandlaw13_DraftPuts
  intro k6 a6 b6 h7 e7 k8 a8 b8 h9 e9
  have E0 := ((Keep.nil B h).made a6 b6 e7).made a8 b8 e9
  refine alive13_wp ⟨fun _ => .inl ⟨_, _, _, E0.cell 0 rfl rfl, fun _ => retD (E0.pf 1 rfl rfl) E0.le (E0.zero 1 rfl) hQ, fun hl => ?_⟩, fun e => by cases e⟩
  intro k21 a21 b21 h22 e22
  obtain ⟨E1, R⟩ := new_int E0 a21 b21 e22
  have E1 : Keep B h (dpL k6 k8 k21 a1 l.length c1 (.slice none 0 0) none) h22 := E1
  refine .inl ⟨_, _, _, E1.cell 0 rfl rfl, ?_⟩
  refine ⟨fun i m h' => ∃ (j : Nat) (v : Value) (r : Option (Nat × AObj)), j ≤ l.length ∧ i = j ∧ m = l.length - j ∧ DRow_int r v (dOf (l.take j)) ∧ Keep B h (dpL k6 k8 k21 a1 l.length c1 v r) h', l.length, Fin.of ⟨0, _, none, by omega, rfl, by omega, R, E1⟩, ?_⟩
  clear E1 E0 e22 e9 e7 R
  rintro _ _ h189 ⟨j, v, r, hj, rfl, rfl, R, E⟩
  refine ⟨fun hlt => ?_, fun _ => Fin.of ?_⟩
  · have hj' : j < l.length := by omega
    have hw : IntKind.wrap .i64 ((j : Int) + 1) = ((j + 1 : Nat) : Int) := by rw [w64 (by omega) (by omega)]; omega
    have hx := List.getElem?_eq_getElem hj'
    generalize l[j] = x at hx
    have hdl := dOf_len (l.take j)
    rw [List.length_take] at hdl
    have hdt := dOf_take hx
    obtain ⟨A, e1, e3, e4⟩ := (hr.over E.le E.nw) j x hx
    refine ⟨A, e1, by omega, hlt, x.1, x.2, e4, fun k199 a199 b199 h200 e200 => ?_⟩
    have E1 := E.made a199 b199 e200
    refine ⟨_, stores_whole E1.last rfl (by simp) (by simp [isOne]) (by simp), ?_⟩
    have E2 := E1.putLast (.vec TY.countermandref13_Put (plains [.int .i64 x.1, .int .i64 x.2]) 2)
    refine ⟨_, cellH_vec E2.last rfl, _, cellH_vec E2.last rfl, ?_⟩
    refine put_int_wp (i := 2) E2 ⟨rfl, rfl⟩ R (dOf_sort _) (by omega) fun v' r' h204 R' E3 => ⟨fun _ => ?_, fun e => by cases e⟩
    have E3 : Keep B h (dpL k6 k8 k21 a1 l.length c1 v' r' ++ [some (k199, .vec TY.countermandref13_Put (plains [.int .i64 x.1, .int .i64 x.2]) 2)]) h204 := E3
    rw [← hdt] at R'
    have hdl2 := dOf_len (l.take (j + 1))
    rw [List.length_take] at hdl2
    refine get_int_wp (i := 2) E3 ⟨rfl, rfl⟩ R' (dOf_sort _) (by omega) ?_
    refine .inl ⟨_, _, _, E3.cell 0 rfl rfl, ?_⟩
    dsimp only
    rw [hw, optAdd0, show Int.toNat ((j + 1 : Nat) : Int) - Int.toNat 0 = (l.take (j + 1)).length by simp; omega]
    refine ⟨by omega, by omega, by omega, ref13_get_wp ((hr.over E3.le E3.nw).take (j + 1)) (by rw [List.length_take]; omega) ⟨fun _ => ⟨fun _ => Fin.of ⟨l.length - (j + 1), by omega, j + 1, v', r', by omega, rfl, rfl, R', E3.pop⟩, fun hn => absurd rfl hn⟩, fun hn => absurd rfl hn⟩⟩
  · have : j = l.length := by omega
    subst this
    rw [List.take_length] at R
    exact DraftPuts_J1 E R hr (by omega) hQ
/-! DraftOrder -/
def doL (k6 k14 k16 k18 : Nat) (va vb : Value) (ra rb : Option (Nat × AObj)) : List (Option (Nat × AObj)) :=
  [some (k6, .vec TY.bool (plains [.bool false]) 1), some (k14, drO_int va), ra, some (k16, drO_int vb), rb, some (k18, .vec TY.p_draft_Draft_int (plains [.pointer (some ⟨k16, 0, none⟩)]) 1)]
theorem DraftOrder_J3 {d : List (Int × Int)} (E : Keep B h0 (doL k6 k14 k16 k18 va vb ra rb) h) (Ra : DRow_int ra va d) (Rb : DRow_int rb vb d) (s : SortD d) (hd : d.length ≤ 80) (hQ : Q true h0) : S_countermandlaw13_DraftOrder_J3 B k6 k14 k18 h Q := by
  unfold S_countermandlaw13_DraftOrder_J3
  refine ⟨_, E.cell 5 rfl rfl, len_int_wp (i := 1) E ⟨rfl, rfl⟩ Ra ⟨E.cell 5 rfl rfl, len_int_wp (i := 3) E ⟨rfl, rfl⟩ Rb ⟨E.cell 5 rfl rfl, fun _ => ?_, fun hn => absurd rfl hn⟩⟩⟩
  refine dall_wp fun kc ac bc => ?_
  have E1 := E.new (o := .vec TY.p_draft_Draft_int [.plain (.pointer (some ⟨k14, 0, none⟩))] 1) ac bc
  refine ⟨d, dG kc k14 va ra, fun q h' => Keep B h0 (doL k6 k14 k16 k18 va vb ra rb ++ [some (kc, .vec TY.p_draft_Draft_int [.plain (.pointer (some ⟨k14, 0, none⟩))] 1)]) h', dall_iter (B := B) Ra (by omega), dG_ins, ?_, Fin.of E1, ?_, ?_⟩
  · intro q h' E
    exact ⟨E.last, E.at 1 rfl, fun k o e => E.at 2 (by rw [← e]; rfl)⟩
  · intro q h44 i41 i42 hg E
    refine ⟨_, E.cell 5 rfl rfl, get_int_wp (i := 3) E ⟨rfl, rfl⟩ Rb s (by omega) ?_⟩
    have hat : atD d i41 = some i42 := atD_get s hg
    rw [hat]
    exact ⟨fun _ => ⟨fun _ => Fin.of E, fun hn => absurd rfl hn⟩, fun e => by cases e⟩
  · intro h44 E
    exact retD (E.pf 0 rfl rfl) E.le (E.zero 0 rfl) hQ
theorem DraftOrder_J2 {p : Nat} (E : Keep B h0 (doL k6 k14 k16 k18 va (.slice none 0 0) ra none) h) (Ra : DRow_int ra va (dOf (dOf l))) (hr : Reads B h0 a1 2 entC_int l) (hl : l.length ≤ 80) (hp : p ≤ l.length) (hQ : Q true h0) : S_countermandlaw13_DraftOrder_J2 B a1 l.length c1 (p : Int) k6 k14 k18 h Q := by
  unfold S_countermandlaw13_DraftOrder_J2
  refine ref13_numbers_wp (hr.over E.le E.nw) (by omega) fun a3 c3 r1 h23 R1 E1 => ?_
  have E2 := E.append E1
  have hds := dOf_sort l
  have hdl := dOf_len l
  obtain ⟨-, hrd⟩ := Row.rd (B := B) R1 intC_len (by omega)
  have hgen : ∀ (d : List (Int × Int)), d = dOf l → True := fun _ _ => trivial
  generalize hd : dOf l = d at Ra R1 hds hdl hrd
  refine ⟨fun i m h' => ∃ (j : Nat) (vb : Value) (rb : Option (Nat × AObj)), j ≤ d.length ∧ i = j ∧ m = d.length - j ∧ DRow_int rb vb (dOf (((rotL d (p % d.length)).reverse).take j)) ∧ Keep B h0 (doL k6 k14 k16 k18 va vb ra rb ++ [r1]) h', d.length, Fin.of ⟨0, _, none, by omega, rfl, by omega, Row.nil _ _, E2⟩, ?_⟩
  clear E2 E1 E
  rintro _ _ h62 ⟨j, vb, rb, hj, rfl, rfl, Rb, E⟩
  refine ⟨fun hlt => ?_, fun _ => Fin.of ?_⟩
  · have hj' : j < d.length := by omega
    have hw : IntKind.wrap .i64 ((j : Int) + 1) = ((j + 1 : Nat) : Int) := by rw [w64 (by omega) (by omega)]; omega
    have hm : Int.tmod (IntKind.wrap .i64 ((IntKind.wrap .i64 ((IntKind.wrap .i64 (((d.length : Nat) : Int) - 1)) - (j : Int))) + (p : Int))) ((d.length : Nat) : Int) = (((d.length - 1 - j + p) % d.length : Nat) : Int) := by
      rw [w64 (n := ((d.length : Nat) : Int) - 1) (by omega) (by omega), w64 (n := ((d.length : Nat) : Int) - 1 - (j : Int)) (by omega) (by omega), w64 (by omega) (by omega)]
      have : (((d.length : Nat) : Int) - 1 - (j : Int) + (p : Int)) = ((d.length - 1 - j + p : Nat) : Int) := by omega
      rw [this]; rfl
    rw [hm]
    have hml : (d.length - 1 - j + p) % d.length < d.length := Nat.mod_lt _ (by omega)
    have hx := List.getElem?_eq_getElem hml
    have hrot := rotL_get d (p % d.length) (d.length - 1 - j) (Nat.le_of_lt (Nat.mod_lt _ (by omega))) (by omega)
    rw [Nat.add_mod, Nat.mod_mod, ← Nat.add_mod] at hrot
    generalize (d.length - 1 - j + p) % d.length = q at hml hx hrot
    generalize d[q] = x at hx
    have hrl := rotL_len d (p % d.length)
    have hrev : ((rotL d (p % d.length)).reverse)[j]? = some x := by
      rw [List.getElem?_reverse (by omega), hrl, hrot, hx]
    have hdt := dOf_take hrev
    have hdl2 := dOf_len (((rotL d (p % d.length)).reverse).take j)
    rw [List.length_take] at hdl2
    obtain ⟨A, e1, _, q1, _⟩ := hrd h62 (fun k o e => E.at 6 (by rw [← e]; rfl)) q x.1 (by simp [numsD, hx])
    refine ⟨by omega, A, e1, by omega, by omega, x.1, q1, ref13_get_wp (hr.over E.le E.nw) (by omega) ?_⟩
    rw [hd]
    have hat : atD d x.1 = some x.2 := atD_get hds hx
    rw [hat]
    refine ⟨_, E.cell 5 rfl rfl, put_int_wp (i := 3) E ⟨rfl, rfl⟩ Rb (dOf_sort _) (by omega) fun v' r' h75 R' E3 => Fin.of ⟨d.length - (j + 1), by omega, j + 1, v', r', by omega, hw, rfl, ?_, E3⟩⟩
    rw [hdt]; exact R'
  · have : j = d.length := by omega
    subst this
    have hrl := rotL_len d (p % d.length)
    have e0 : ((rotL d (p % d.length)).reverse).take d.length = (rotL d (p % d.length)).reverse := List.take_of_length_le (by rw [List.length_reverse, hrl]; exact Nat.le_refl _)
    rw [e0] at Rb
    have hpm := rotL_perm d (p % d.length)
    have hinj := sortD_inj hds
    have e : dOf ((rotL d (p % d.length)).reverse) = dOf d := (dOf_perm hinj fun x => by rw [List.mem_reverse, hpm.mem_iff]).symm
    rw [e] at Rb
    have hdd := dOf_len d
    exact DraftOrder_J3 E.pop Ra Rb (dOf_sort d) (by omega) hQ
theorem DraftOrder_wp (hr : Reads B h a1 2 entC_int l) (hQ : Q true h) : C_countermandlaw13_DraftOrder B a1 l.length c1 n h Q := by
  refine C_countermandlaw13_DraftOrder.of ?_
  unfold S_countermandlaw13_DraftOrder
  intro k6 a6 b6 h7 e7
  have E0 := (Keep.nil B h).made a6 b6 e7
  refine alive13_wp ⟨fun _ => ⟨fun _ => retD (E0.pf 0 rfl rfl) E0.le (E0.zero 0 rfl) hQ, fun hl => ⟨fun _ => retD (E0.pf 0 rfl rfl) E0.le (E0.zero 0 rfl) hQ, fun h1 => ⟨fun _ => retD (E0.pf 0 rfl rfl) E0.le (E0.zero 0 rfl) hQ, fun h2 => Fin.of ?_⟩⟩⟩, fun e => by cases e⟩
  obtain ⟨p, rfl⟩ : ∃ p : Nat, n = p := ⟨n.toNat, by omega⟩
  unfold S_countermandlaw13_DraftOrder_J1
  intro k14 a14 b14 h15 e15 k16 a16 b16 h17 e17 k18 a18 b18 h19 e19
  have E1 := (((E0.made a14 b14 e15).gap.made a16 b16 e17).gap).made a18 b18 e19
  obtain ⟨e2, E2⟩ := E1.store 5 0 (.pointer (some ⟨k16, 0, none⟩)) rfl rfl
  have E2 : Keep B h (doL k6 k14 k16 k18 (.slice none 0 0) (.slice none 0 0) none none) _ := E2
  refine ⟨_, e2, ref13_numbers_wp (hr.over E2.le E2.nw) (by omega) fun a3 c3 r1 h23 R1 E3 => ?_⟩
  have E4 := E2.append E3
  have hds := dOf_sort l
  have hdl := dOf_len l
  obtain ⟨-, hrd⟩ := Row.rd (B := B) R1 intC_len (by omega)
  generalize hd : dOf l = d at R1 hds hdl hrd
  refine ⟨fun i m h' => ∃ (j : Nat) (va : Value) (ra : Option (Nat × AObj)), j ≤ d.length ∧ i = j ∧ m = d.length - j ∧ DRow_int ra va (dOf (d.take j)) ∧ Keep B h (doL k6 k14 k16 k18 va (.slice none 0 0) ra none ++ [r1]) h', d.length, Fin.of ⟨0, _, none, by omega, rfl, by omega, Row.nil _ _, E4⟩, ?_⟩
  clear E4 E3 E2 e2 E1 E0 e19 e17 e15 e7
  rintro _ _ h82 ⟨j, va, ra, hj, rfl, rfl, Ra, E⟩
  refine ⟨fun hlt => ?_, fun _ => Fin.of ?_⟩
  · have hj' : j < d.length := by omega
    have hw : IntKind.wrap .i64 ((j : Int) + 1) = ((j + 1 : Nat) : Int) := by rw [w64 (by omega) (by omega)]; omega
    have hx := List.getElem?_eq_getElem hj'
    generalize d[j] = x at hx
    have hdt := dOf_take hx
    have hdl2 := dOf_len (d.take j)
    rw [List.length_take] at hdl2
    obtain ⟨A, e1, _, q1, _⟩ := hrd h82 (fun k o e => E.at 6 (by rw [← e]; rfl)) j x.1 (by simp [numsD, hx])
    refine ⟨A, e1, by omega, by omega, x.1, q1, ref13_get_wp (hr.over E.le E.nw) (by omega) ?_⟩
    rw [hd]
    have hat : atD d x.1 = some x.2 := atD_get hds hx
    rw [hat]
    refine put_int_wp (i := 1) E ⟨rfl, rfl⟩ Ra (dOf_sort _) (by omega) fun v' r' h75 R' E3 => Fin.of ⟨d.length - (j + 1), by omega, j + 1, v', r', by omega, hw, rfl, ?_, E3⟩
    rw [hdt]; exact R'
  · have : j = d.length := by omega
    subst this
    rw [List.take_length] at Ra
    rw [← hd] at Ra
    exact DraftOrder_J2 E.pop Ra hr (by omega) (by omega) hQ
end
theorem DraftPuts_calls {H : Type} {enc : TypeId × Value → H} (W : World) {a : Option Addr} {len cap : Nat} {d : DataW H} {p : List MemPlace} (k : DataW.Trod enc PG W 0 (fun _ => true) true TY.s_countermandref13_Put (.slice a len cap) d p) (n : Int) (wn : (Lit.int .i64 n).wf = true) :
    Calls PG FN.countermandlaw13_DraftPuts #[.slice a len cap, .int .i64 n] W fun e w' => e = .returned (.bool true) ∧ Below W.heap.size W w' := by
  obtain ⟨l, rfl, hr, hok⟩ := Put_arg k
  refine Spec.calls (Spec.mono (DraftPuts_wp (Q := fun b _ => b = true) hr (arg_capD TK.puts_sl TK.put_kd k) rfl) ?_)
  rintro v h' ⟨b, rfl, rfl⟩
  rfl
theorem DraftOrder_calls {H : Type} {enc : TypeId × Value → H} (W : World) {a : Option Addr} {len cap : Nat} {d : DataW H} {p : List MemPlace} (k : DataW.Trod enc PG W 0 (fun _ => true) true TY.s_countermandref13_Put (.slice a len cap) d p) (n : Int) (wn : (Lit.int .i64 n).wf = true) :
    Calls PG FN.countermandlaw13_DraftOrder #[.slice a len cap, .int .i64 n] W fun e w' => e = .returned (.bool true) ∧ Below W.heap.size W w' := by
  obtain ⟨l, rfl, hr, hok⟩ := Put_arg k
  refine Spec.calls (Spec.mono (DraftOrder_wp (Q := fun b _ => b = true) hr rfl) ?_)
  rintro v h' ⟨b, rfl, rfl⟩
  rfl
end Go.Proofs.Ytoajfmmomgpjcaa.H
