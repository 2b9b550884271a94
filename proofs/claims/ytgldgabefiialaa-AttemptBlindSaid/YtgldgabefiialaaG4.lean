/- What the law's proof stands on, part 4. No condition. -/
import Derived.Test.YtgldgabefiialaaG3
namespace Go.Proofs.Ytgldgabefiialaa.H
open Go Go.RowKit
set_option linter.unusedVariables false
set_option maxRecDepth 100000
def intC (n : Int) : List Value := [.int .i64 n]
def dallF (k3 : Nat) : Value := Value.func (.func FN.draft_Draft_int_All_1) #[] #[(Value.pointer (some ⟨k3, 0, none⟩))]
def encD (x : Int × Int) : List Value := [.int .i64 x.1, .int .i64 x.2]
def dG (k3 k : Nat) (v : Value) (r : Option (Nat × AObj)) (h : Heap) : Prop :=
  h k3 = some (.vec TY.p_draft_Draft_int [.plain (.pointer (some ⟨k, 0, none⟩))] 1) ∧ h k = some (drO_int v) ∧ ∀ k o, r = some (k, o) → h k = some o
theorem dG_ins {k3 kk : Nat} {v : Value} {r : Option (Nat × AObj)} : Ins (dG k3 kk v r) := by
  rintro h k o hk ⟨g1, g2, g3⟩
  exact ⟨Heap.get_new hk g1, Heap.get_new hk g2, fun k' o' e => Heap.get_new hk (g3 k' o' e)⟩
section
variable {B : RO} {h0 h h' : Heap} {L : List (Option (Nat × AObj))} {r : Option (Nat × AObj)} {i k k3 : Nat} {a : Option Addr} {m c : Nat} {v : Value} {l : List (Int × Int)} {n : Int}
theorem dall_wp {p : Option Addr} {Q : Value → Heap → Prop} (hQ : ∀ k, h k = none → B k = none → Q (dallF k) (h.set k (.vec TY.p_draft_Draft_int [.plain (.pointer p)] 1))) : C_draft_Draft_int_All B p h Q := by
  refine C_draft_Draft_int_All.of ?_
  unfold S_draft_Draft_int_All
  intro k a1 b1 h4 e4
  subst e4
  exact Fin.of (hQ k a1 b1)
theorem dall_iter (R : DRow_int r v l) (hlen : l.length ≤ 100000) : Iter PG B (dallF k3) (l.map encD) (dG k3 k v r) := by
  refine ⟨_, _, _, rfl, TG.draft_Draft_int_All_1, fun y J X h hy hG h0 hcall => ?_⟩
  have main : C_draft_Draft_int_All_1 B y ⟨k3, 0, none⟩ h (fun h' => Fin B h' (fun h'' => J (l.map encD).length h'' ∨ X h'')) := by
    refine C_draft_Draft_int_All_1.of ?_
    unfold S_draft_Draft_int_All_1
    obtain ⟨a, m, c, rfl⟩ := Row.slice R
    obtain ⟨rfl, hrd⟩ := Row.rd (B := B) R entC_int_len (by omega)
    obtain ⟨g1, g2, g3⟩ := hG 0 h h0
    refine ⟨_, cellH_vec g1 rfl, fun e => (by cases e), fun _ => ⟨_, cellH_vec g1 rfl, _, rfl, .inl ⟨a, _, c, cellH_vec g2 rfl, ?_⟩⟩⟩
    refine ⟨fun i m' h' => ∃ j : Nat, j ≤ l.length ∧ i = j ∧ m' = l.length - j ∧ J j h', l.length, Fin.of ⟨0, by omega, rfl, by omega, h0⟩, ?_⟩
    rintro _ _ h13 ⟨j, hj, rfl, rfl, hJ⟩
    obtain ⟨g1, g2, g3⟩ := hG j h13 hJ
    refine ⟨fun hlt => ?_, fun hge => Fin.of ?_⟩
    · have hj' : j < l.length := by omega
      have hx := List.getElem?_eq_getElem hj'
      generalize l[j] = x at hx
      obtain ⟨A, e, _, q⟩ := hrd h13 g3 j _ hx
      refine ⟨A, e, by omega, hlt, x.1, x.2, q, fun k24 a24 b24 h25 e25 => ?_⟩
      obtain ⟨g25, l25, -⟩ := Heap.made a24 e25
      refine ⟨_, stores_whole g25 rfl (by simp) (by simp [isOne]) (by simp), ?_⟩
      generalize e26 : h25.set k24 _ = h26
      obtain ⟨g26, -, -⟩ := Heap.put e26
      refine ⟨_, cellH_vec g26 rfl, _, cellH_vec g26 rfl, ?_⟩
      have w : Wk B h13 h26 := by
        rw [← e26, e25, Heap.set_set]; exact Wk.new a24 b24
      have hc := hcall j h13 (encD x) (by rw [List.getElem?_map, hx]; rfl) hJ
      refine CallV.mono ?_ (hc.weaken w)
      rintro v h27 ⟨h28, t1, h29, t2, hor⟩
      rcases hor with ⟨rfl, hJ'⟩ | ⟨rfl, hX⟩
      · refine ⟨true, rfl, fun _ => ⟨h29, t1.trans t2, l.length - (j + 1), by omega, j + 1, by omega, ?_, rfl, hJ'⟩, fun e => by cases e⟩
        rw [w64 (by omega) (by omega)]; omega
      · exact ⟨false, rfl, fun e => (by cases e), fun _ => ⟨h29, t1.trans t2, Fin.of (.inr hX)⟩⟩
    · have : j = l.length := by omega
      subst this
      refine Fin.of (.inl ?_)
      rw [List.length_map]
      exact hJ
  exact Spec.mono main fun v h' q => q.2
end
end Go.Proofs.Ytgldgabefiialaa.H
namespace Go.Proofs.Ytgldgabefiialaa.H
open Go Go.RowKit
set_option linter.unusedVariables false
set_option maxRecDepth 100000
structure VI where
  kV : Nat
  kC : Nat
  kT : Nat
  kR : Nat
  vt : Value
  rt : Option (Nat × AObj)
  kF : Nat
  kP : Nat
structure VV where
  c : List (Int × Int)
  f : FL
  ts : List ByteArray
  l : List (Int × Int)
  t : Int
def viewO (x : VI) (t : Int) : AObj := .vec TY.attempt_View (plains [.pointer (some ⟨x.kC, 0, none⟩), .pointer (some ⟨x.kT, 0, none⟩), .pointer (some ⟨x.kF, 0, none⟩), .int .i64 t]) 4
def VI.e (x : VI) (v : VV) : List (Option (Nat × AObj)) := [some (x.kV, viewO x v.t), some (x.kC, rowO_int v.c), some (x.kT, tomO x.kR), some (x.kR, frO x.vt), x.rt, some (x.kF, feedO v.ts x.kP), some (x.kP, rowO_int v.l)]
structure VOk (x : VI) (v : VV) : Prop where
  r : FRow x.rt x.vt v.f
  c8 : v.c.length = 8
  f : TomeOk v.f
  k : FeedOk v.ts v.l
def VAt (L : List (Option (Nat × AObj))) (i : Nat) (x : VI) (v : VV) : Prop := ∀ j, j < 7 → L[i + j]? = (x.e v)[j]?
theorem VAt.mk {L R : List (Option (Nat × AObj))} {x : VI} {v : VV} : VAt (L ++ (x.e v ++ R)) L.length x v := fun j hj => by
  rw [List.getElem?_append_right (by omega), Nat.add_sub_cancel_left, List.getElem?_append_left (by exact hj)]
theorem VAt.app {L M : List (Option (Nat × AObj))} {i : Nat} {x : VI} {v : VV} (A : VAt L i x v) : VAt (L ++ M) i x v := fun j hj => by
  have h1 : (x.e v)[j]? = some ((x.e v)[j]'hj) := List.getElem?_eq_getElem hj
  rw [h1]
  exact up_app _ ((A j hj).trans h1)
def vz : VV := ⟨List.replicate 8 (0, 0), List.replicate 6 ((false, ByteArray.empty), 0), ts0, fl0, 0⟩
def verOf (v : VV) (k i : Int) : Int := if k = 0 then (cellAt_int v.c i).2 else if k = 1 then (fileAt v.f i).2 else if k = 2 then (cellAt_int v.l i).2 else 0
def cV (v : VV) (i : Int) : Value := .int .i64 (cellAt_int v.c i).2
def fV (v : VV) (i : Int) : Value := .int .i64 (fileAt v.f i).2
def lV (v : VV) (i : Int) : Value := .int .i64 (cellAt_int v.l i).2
def nowF (v : VV) : List Value := [cV v 0, cV v 1, cV v 2, cV v 3, cV v 4, cV v 5, cV v 6, cV v 7, fV v 0, fV v 1, fV v 2, fV v 3, fV v 4, fV v 5, .int .i64 0, .int .i64 0, lV v 0, lV v 1, lV v 2, .int .i64 0, .int .i64 0, .int .i64 0, .int .i64 0, .int .i64 0, .int .i64 v.t]
def nowZ (t : Int) : List Value := List.replicate 24 (.int .i64 0) ++ [.int .i64 t]
theorem now_c {v : VV} {j : Nat} (h : j < 8) : (nowF v)[j]? = some (.int .i64 (cellAt_int v.c (j : Nat)).2) := match j, h with
  | 0, _ | 1, _ | 2, _ | 3, _ | 4, _ | 5, _ | 6, _ | 7, _ => rfl
  | n + 8, h => absurd h (by omega)
theorem now_f {v : VV} {j : Nat} (h : j < 6) : (nowF v)[8 + j]? = some (.int .i64 (fileAt v.f (j : Nat)).2) := match j, h with
  | 0, _ | 1, _ | 2, _ | 3, _ | 4, _ | 5, _ => rfl
  | n + 6, h => absurd h (by omega)
theorem now_l {v : VV} {j : Nat} (h : j < 3) : (nowF v)[16 + j]? = some (.int .i64 (cellAt_int v.l (j : Nat)).2) := match j, h with
  | 0, _ | 1, _ | 2, _ => rfl
  | n + 3, h => absurd h (by omega)
def part (F Z : List Value) (m : Nat) : List Value := F.take m ++ Z.drop m
theorem wrapS {j : Nat} (h : j < 1000000000) : IntKind.wrap .i64 ((j : Int) + 1) = ((j + 1 : Nat) : Int) := by rw [w64 (by omega) (by omega)]; omega
section
variable {B : RO} {h0 h h' : Heap} {L M : List (Option (Nat × AObj))} {i k n : Nat} {t : TypeId} {x : VI} {v : VV}
theorem Keep.fillN {F Z : List Value} {m : Nat} (E : Keep B h0 (L ++ M) h) (p : Nat) (hp : M[p]? = some (some (k, .vec t (plains (part F Z m)) n))) (hl : F.length = Z.length) (ys : List Value) (hy : (F.drop m).take ys.length = ys) (hm : m + ys.length ≤ F.length) (hn : F.length ≤ n) (ho : ∀ y ∈ ys, isOne y = true) {a : Addr} (ha : a = ⟨k, m, none⟩) :
    ∃ h', StoresAt a h 0 ys h' ∧ Keep B h0 (L ++ M.set p (some (k, .vec t (plains (part F Z (m + ys.length))) n))) h' := by
  subst ha
  obtain ⟨h', s1, E1⟩ := E.vM (fs := F.take m) (gs := Z.drop m) p hp ys ho m (by rw [List.length_take]; omega) (by omega)
  refine ⟨h', s1, ?_⟩
  have e1 : F.take m ++ ys ++ (Z.drop m).drop ys.length = part F Z (m + ys.length) := by
    unfold part
    rw [List.drop_drop, List.take_add, hy]
  rw [e1] at E1
  exact E1
theorem Keep.fill1 {F Z : List Value} {m : Nat} {y : Value} (E : Keep B h0 (L ++ M) h) (p : Nat) (hp : M[p]? = some (some (k, .vec t (plains (part F Z m)) n))) (hl : F.length = Z.length) (hF : F[m]? = some y) (hn : F.length ≤ n) (ho : isOne y = true) {a : Addr} (ha : a = ⟨k, m, none⟩) :
    ∃ h', storeH h a y = some h' ∧ Keep B h0 (L ++ M.set p (some (k, .vec t (plains (part F Z (m + 1))) n))) h' := by
  obtain ⟨hm, hg⟩ := List.getElem?_eq_some_iff.1 hF
  obtain ⟨h', ⟨_, w, e1, e2⟩, E1⟩ := E.fillN p hp hl [y] (by rw [List.drop_eq_getElem_cons hm, hg]; rfl) (by simp; omega) hn (by simpa using ho) ha
  obtain rfl : h' = w := e2
  exact ⟨h', e1, E1⟩
theorem Keep.allM {F : List Value} (E : Keep B h0 (L ++ M) h) (p : Nat) (hp : M[p]? = some (some (k, .vec t (plains F) n))) : CellsAt B h ⟨k, 0, none⟩ 0 F :=
  CellsAt.of_vec F 0 (E.gM p hp) fun j y hj => by rw [plains_get, show 0 + 0 + j = j by omega, hj]; rfl
theorem VAt.at {k : Nat} {o : AObj} (A : VAt L i x v) (E : Keep B h0 L h) (j : Nat) (hj : j < 7) (e : (x.e v)[j]? = some (some (k, o))) : h k = some o := E.at (i + j) ((A j hj).trans e)
theorem VAt.tome (A : VAt L i x v) : TomeAt L (i + 2) x.kT x.kR x.vt x.rt := ⟨A 2 (by decide), ⟨A 3 (by decide), A 4 (by decide)⟩⟩
theorem now_wp {Q : List Value → Heap → Prop} (E : Keep B h0 L h) (A : VAt L i x v) (o : VOk x v) (hQ : ∀ h', Keep B h0 L h' → Q (nowF v) h') : C_attempt_View_Now B (some ⟨x.kV, 0, none⟩) h Q := by
  refine C_attempt_View_Now.of ?_
  unfold S_attempt_View_Now
  intro k3 a3 b3 h4 e4
  have E1 := E.start.nM a3 b3 e4
  refine ⟨fun e => (by cases e), fun _ => ⟨_, rfl, v.t, cellH_vec (A.app.at E1 0 (by decide) rfl) rfl, ?_⟩⟩
  intro k11 a11 b11 h12 e12
  have E2 := E1.nM a11 b11 e12
  refine ⟨_, stores_whole (E2.gM 1 rfl) rfl (by simp) (by simp [isOne]) (by simp), ?_⟩
  have E3 := E2.pM (o' := .vec TY.reads_Now (plains (part (nowF v) (nowZ v.t) 0)) 25) 1 rfl
  let J (b : Nat) (j : Nat) (h : Heap) : Prop := Keep B h0 (L ++ [some (k3, .vec TY.reads_Now (plains (List.replicate 25 (.int .i64 0))) 25), some (k11, .vec TY.reads_Now (plains (part (nowF v) (nowZ v.t) (b + j))) 25)]) h
  refine ⟨fun q m h' => ∃ j : Nat, j ≤ 8 ∧ q = j ∧ m = 8 - j ∧ J 0 j h', 8, Fin.of ⟨0, by omega, rfl, rfl, E3⟩, ?_⟩
  clear E1 E2 E3 e4 e12
  rintro _ _ h14 ⟨j, hj, rfl, rfl, E4⟩
  have E4 : Keep B h0 (L ++ [some (k3, .vec TY.reads_Now (plains (List.replicate 25 (.int .i64 0))) 25), some (k11, .vec TY.reads_Now (plains (part (nowF v) (nowZ v.t) (0 + j))) 25)]) h14 := E4
  rw [Nat.zero_add] at E4
  refine ⟨fun hlt => ⟨_, rfl, _, cellH_vec (A.app.at E4 0 (by decide) rfl) rfl, version_wp_int (rowO_int_v (A.app.at E4 1 (by decide) rfl)) ⟨by decide, by decide, by omega, by omega, ?_⟩⟩, fun hge => Fin.of ?_⟩
  · obtain ⟨h5, s, E5⟩ := E4.fill1 1 rfl rfl (now_c (by omega : j < 8)) (Nat.le_refl _) rfl (a := Addr.add ⟨k11, 0, none⟩ (Int.toNat (j : Int) * 1)) (by rw [addr_more]; simp)
    exact ⟨h5, s, Fin.of ⟨8 - (j + 1), by omega, j + 1, by omega, wrapS (by omega), rfl, by show Keep _ _ _ _; rw [Nat.zero_add]; exact E5⟩⟩
  have hj8 : j = 8 := by omega
  subst hj8
  unfold S_attempt_View_Now_J1
  refine ⟨fun q m h' => ∃ j : Nat, j ≤ 6 ∧ q = j ∧ m = 6 - j ∧ J 8 j h', 6, Fin.of ⟨0, by omega, rfl, rfl, E4⟩, ?_⟩
  clear E4
  rintro _ _ h14 ⟨j, hj, rfl, rfl, E4⟩
  have E4 : Keep B h0 (L ++ [some (k3, .vec TY.reads_Now (plains (List.replicate 25 (.int .i64 0))) 25), some (k11, .vec TY.reads_Now (plains (part (nowF v) (nowZ v.t) (8 + j))) 25)]) h14 := E4
  refine ⟨fun hlt => ⟨_, rfl, _, cellH_vec (A.app.at E4 0 (by decide) rfl) rfl, tget_wp E4 A.app.tome o.r ?_⟩, fun hge => Fin.of ?_⟩
  · intro h43 E5
    refine ⟨by decide, by decide, by omega, by omega, ?_⟩
    obtain ⟨h5, s, E6⟩ := E5.fill1 1 rfl rfl (now_f (by omega : j < 6)) (Nat.le_refl _) rfl (a := Addr.add ⟨k11, 8, none⟩ (Int.toNat (j : Int) * 1)) (by rw [addr_more]; simp)
    exact ⟨h5, s, Fin.of ⟨6 - (j + 1), by omega, j + 1, by omega, wrapS (by omega), rfl, E6⟩⟩
  have hj8 : j = 6 := by omega
  subst hj8
  unfold S_attempt_View_Now_J2
  refine ⟨fun q m h' => ∃ j : Nat, j ≤ 3 ∧ q = j ∧ m = 3 - j ∧ J 16 j h', 3, Fin.of ⟨0, by omega, rfl, rfl, E4⟩, ?_⟩
  clear E4
  rintro _ _ h14 ⟨j, hj, rfl, rfl, E4⟩
  have E4 : Keep B h0 (L ++ [some (k3, .vec TY.reads_Now (plains (List.replicate 25 (.int .i64 0))) 25), some (k11, .vec TY.reads_Now (plains (part (nowF v) (nowZ v.t) (16 + j))) 25)]) h14 := E4
  refine ⟨fun hlt => ⟨_, rfl, _, cellH_vec (A.app.at E4 0 (by decide) rfl) rfl, feed_place_wp o.k.t3 (A.app.at E4 5 (by decide) rfl) (A.app.at E4 6 (by decide) rfl) ?_⟩, fun hge => ?_⟩
  · refine ⟨by decide, by decide, by omega, by omega, ?_⟩
    obtain ⟨h5, s, E6⟩ := E4.fill1 1 rfl rfl (now_l (by omega : j < 3)) (Nat.le_refl _) rfl (a := Addr.add ⟨k11, 16, none⟩ (Int.toNat (j : Int) * 1)) (by rw [addr_more]; simp)
    exact ⟨h5, s, Fin.of ⟨3 - (j + 1), by omega, j + 1, by omega, wrapS (by omega), rfl, E6⟩⟩
  have hj8 : j = 3 := by omega
  subst hj8
  have E5 : Keep B h0 (L ++ [some (k3, .vec TY.reads_Now (plains (List.replicate 25 (.int .i64 0))) 25), some (k11, .vec TY.reads_Now (plains (nowF v)) 25)]) h14 := E4
  refine ⟨nowF v, rfl, E5.allM 1 rfl, rfl, _, stores_whole (E5.gM 0 rfl) rfl (Nat.le_refl _) (by simp [nowF, isOne, cV, fV, lV]) (by simp [nowF]), ?_⟩
  have E6 := E5.pM (o' := .vec TY.reads_Now (plains (nowF v)) 25) 0 rfl
  exact ⟨nowF v, rfl, E6.allM 0 rfl, Fin.of (hQ _ E6.zM)⟩
theorem newview_wp {Q : Option Addr → Heap → Prop} (hQ : ∀ x h', VOk x vz → Keep B h (x.e vz) h' → Q (some ⟨x.kV, 0, none⟩) h') : C_attempt_NewView B h Q := by
  refine C_attempt_NewView.of ?_
  unfold S_attempt_NewView
  refine new_wp_int (by decide) fun kC a b => ?_
  have E := (Keep.nil B h).new (o := rowO_int (List.replicate 8 (0, 0))) a b
  refine tnew_wp fun kT kR v r h4 R E1 => ?_
  have E2 := E.append E1
  refine feed_new_wp fun kP kF h1 h2 aP bP e1 aF bF e2 => ?_
  have E3 := (E2.made aP bP e1).made aF bF e2
  intro k8 a8 b8 h9 e9
  have E4 := E3.made a8 b8 e9
  exact Fin.of (hQ ⟨k8, kC, kT, kR, v, r, kF, kP⟩ _ ⟨R, rfl, TomeOk.zero, FeedOk.zero⟩ (E4.picks [6, 0, 1, 2, 3, 5, 4] (by decide)))
end
end Go.Proofs.Ytgldgabefiialaa.H
namespace Go.Proofs.Ytgldgabefiialaa.H
open Go Go.RowKit
set_option linter.unusedVariables false
set_option maxRecDepth 100000
abbrev RE := Int × Int × Int
def enR (e : RE) : List Value := [.int .i64 e.1, .int .i64 e.2.1, .int .i64 e.2.2]
theorem enR_len (e : RE) : (enR e).length = 3 := rfl
theorem enR_one (e : RE) : ∀ y ∈ enR e, isOne y = true := fun y hy => by simp [enR] at hy; rcases hy with rfl | rfl | rfl <;> rfl
theorem TK.slc_re : slcB PG TY.s_reads_Entry = some (TY.reads_Entry, 3, 24) := by kernel_rfl
theorem TK.zero_re : zeroB PG TY.reads_Entry = some [.int .i64 0, .int .i64 0, .int .i64 0] := by kernel_rfl
theorem TK.sl_re : slT PG TY.s_reads_Entry = true := by kernel_rfl
def ERow (r : Option (Nat × AObj)) (v : Value) (l : List RE) : Prop := Row r v TY.reads_Entry 3 (l.flatMap enR)
def rsO (v : Value) (st : Int) : AObj := .vec TY.reads_Set (plains [v, .int .i64 st]) 2
structure RdAt (L : List (Option (Nat × AObj))) (i k : Nat) (v : Value) (st : Int) (r : Option (Nat × AObj)) : Prop where
  p : L[i]? = some (some (k, rsO v st))
  q : L[i + 1]? = some r
structure V3 (v : VV) : Prop where
  c8 : v.c.length = 8
  f6 : v.f.length = 6
  l3 : v.l.length = 3
theorem VOk.v3 {x : VI} {v : VV} (o : VOk x v) : V3 v := ⟨o.c8, o.f.n6, o.k.l3⟩
def vld (v : VV) (rs : List RE) : Bool := rs.all fun e => decide (verOf v e.1 e.2.1 = e.2.2)
def fE (rs : List RE) (k i : Int) : Option Int := (rs.find? fun e => decide (e.1 = k ∧ e.2.1 = i)).map fun e => e.2.2
def noteA (v : VV) (rs : List RE) (st k i : Int) : Bool × List RE × Int := match fE rs k i with
  | some w => (w == verOf v k i, rs, st)
  | none => if verOf v k i > st then (if vld v rs = true then (true, rs ++ [(k, i, verOf v k i)], v.t) else (false, rs, st)) else (true, rs ++ [(k, i, verOf v k i)], st)
theorem verOf_out {v : VV} (o : V3 v) {k i : Int} (h : ¬ (0 ≤ k ∧ k ≤ 2 ∧ 0 ≤ i ∧ i < 8)) : verOf v k i = 0 := by
  unfold verOf
  split
  · rw [cellAt_int_out (by rw [o.c8]; omega)]
  · split
    · rw [fileAt_out (by rw [o.f6]; omega)]
    · split
      · rw [cellAt_int_out (by rw [o.l3]; omega)]
      · rfl
theorem now_ver {v : VV} (o : V3 v) {k i : Nat} (hk : k ≤ 2) (hi : i < 8) : (nowF v)[k * 8 + i]? = some (.int .i64 (verOf v (k : Int) (i : Int))) := by
  have hc : k = 0 ∨ k = 1 ∨ k = 2 := by omega
  rcases hc with rfl | rfl | rfl
  · rw [Nat.zero_mul, Nat.zero_add, now_c hi]; rfl
  · by_cases h6 : i < 6
    · rw [Nat.one_mul, now_f h6]; rfl
    · have : verOf v ((1 : Nat) : Int) (i : Int) = 0 := by
        show (fileAt v.f (i : Int)).2 = 0
        rw [fileAt_out (by rw [o.f6]; omega)]
      rw [this]
      have h2 : i = 6 ∨ i = 7 := by omega
      rcases h2 with rfl | rfl <;> rfl
  · by_cases h3 : i < 3
    · rw [show 2 * 8 + i = 16 + i by omega, now_l h3]; rfl
    · have : verOf v ((2 : Nat) : Int) (i : Int) = 0 := by
        show (cellAt_int v.l (i : Int)).2 = 0
        rw [cellAt_int_out (by rw [o.l3]; omega)]
      rw [this]
      have h2 : i = 3 ∨ i = 4 ∨ i = 5 ∨ i = 6 ∨ i = 7 := by omega
      rcases h2 with rfl | rfl | rfl | rfl | rfl <;> rfl
section
variable {B : RO} {h0 h h' : Heap} {L M : List (Option (Nat × AObj))} {j kS : Nat} {vS : Value} {st : Int} {r : Option (Nat × AObj)} {rs : List RE} {v : VV} {k i : Int}
theorem nof_wp {Q : Int → Heap → Prop} (o : V3 v) (hQ : Q (verOf v k i) h) : C_reads_Now_Of B (nowF v) k i h Q := by
  refine C_reads_Now_Of.of ?_
  unfold S_reads_Now_Of
  intro k5 a5 b5 h6 e6
  have E := (Keep.nil B h).made a5 b5 e6
  have out : ¬ (0 ≤ k ∧ k ≤ 2 ∧ 0 ≤ i ∧ i < 8) → Fin B h6 (Q 0) := fun hn => by
    rw [verOf_out o hn] at hQ
    exact Fin.ent E.back (Fin.of hQ)
  refine ⟨fun h1 => out (by omega), fun h1 => ⟨fun h2 => out (by omega), fun h2 => ⟨fun h3 => out (by omega), fun h3 => ⟨fun h4 => out (by omega), fun h4 => Fin.of ?_⟩⟩⟩⟩
  unfold S_reads_Now_Of_J1
  obtain ⟨k, rfl⟩ := Int.eq_ofNat_of_zero_le (by omega : 0 ≤ k)
  obtain ⟨i, rfl⟩ := Int.eq_ofNat_of_zero_le (by omega : 0 ≤ i)
  refine ⟨by omega, by omega, by omega, by omega, _, ?_, Fin.ent E.back (Fin.of hQ)⟩
  rw [addr_more, addr_more]
  refine cellH_vec (E.at 0 rfl) ?_
  rw [plains_get, show 0 + Int.toNat (k : Int) * 8 + Int.toNat (i : Int) * 1 = k * 8 + i by simp, now_ver o (by omega) (by omega)]; rfl
theorem ERow.len {a : Option Addr} {m c : Nat} (R : ERow r (.slice a m c) rs) : m = rs.length := (Row.rd (B := fun _ => none) R enR_len (by omega)).1
theorem valid_wp {Q : Bool → Heap → Prop} (E : Keep B h0 L h) (A : RdAt L j kS vS st r) (R : ERow r vS rs) (hl : rs.length ≤ 100000) (o : V3 v) (hQ : ∀ h', Keep B h0 L h' → Q (vld v rs) h') : C_reads_Set_Valid B (some ⟨kS, 0, none⟩) (nowF v) h Q := by
  refine C_reads_Set_Valid.of ?_
  unfold S_reads_Set_Valid
  intro k4 a4 b4 h5 e5
  have E1 := E.start.nM a4 b4 e5
  obtain ⟨a, m, c, rfl⟩ := Row.slice R
  obtain rfl := ERow.len R
  obtain ⟨_, rd⟩ := Row.rd (B := B) R enR_len (by omega)
  refine ⟨fun e => (by cases e), fun _ => ⟨_, rfl, .inl ⟨a, _, c, E1.cell j (up_app _ A.p) rfl, ?_⟩⟩⟩
  refine ⟨fun q m h' => ∃ p : Nat, p ≤ rs.length ∧ q = p ∧ m = rs.length - p ∧ vld v (rs.take p) = true ∧ Keep B h0 (L ++ [some (k4, .vec TY.reads_Now (plains (nowF v)) 25)]) h', rs.length, Fin.of ⟨0, by omega, rfl, rfl, rfl, E1⟩, ?_⟩
  clear E1 e5
  rintro _ _ h14 ⟨p, hp, rfl, rfl, hv, E2⟩
  refine ⟨fun hlt => ?_, fun hge => Fin.of ?_⟩
  · have hpl : p < rs.length := by omega
    have hx := List.getElem?_eq_getElem hpl
    have htk : vld v (rs.take (p + 1)) = (vld v (rs.take p) && decide (verOf v rs[p].1 rs[p].2.1 = rs[p].2.2)) := by
      unfold vld; rw [List.take_succ_eq_append_getElem hpl, List.all_append]; simp
    have hall : ¬ verOf v rs[p].1 rs[p].2.1 = rs[p].2.2 → vld v rs = false := fun hn => by
      unfold vld; rw [List.all_eq_false]; exact ⟨rs[p], List.getElem_mem _, by simp [hn]⟩
    generalize rs[p] = x at hx htk hall
    obtain ⟨A', f1, _, f2⟩ := rd h14 (fun k o e => E2.at (j + 1) (by rw [up_app _ A.q, e])) p x hx
    refine ⟨A', f1, by omega, by omega, x.1, x.2.1, x.2.2, f2, fun k24 a24 b24 h25 e25 => ?_⟩
    have E3 := E2.nM a24 b24 e25
    refine ⟨_, stores_whole (E3.gM 1 rfl) rfl (by simp) (by simp [isOne]) (by simp), ?_⟩
    have E4 := E3.pM (o' := .vec TY.reads_Entry (plains [.int .i64 x.1, .int .i64 x.2.1, .int .i64 x.2.2]) 3) 1 rfl
    refine ⟨nowF v, rfl, E4.allM 0 rfl, _, E4.cM 1 rfl (i := 0) rfl, _, E4.cM 1 rfl (i := 1) rfl, _, E4.cM 1 rfl (i := 2) rfl, nof_wp o ⟨E4.allM 0 rfl, E4.cM 1 rfl (i := 0) rfl, E4.cM 1 rfl (i := 1) rfl, E4.cM 1 rfl (i := 2) rfl, fun he => Fin.of ?_, fun hn => Fin.of ?_⟩⟩
    · exact ⟨rs.length - (p + 1), by omega, p + 1, by omega, wrapS (by omega), rfl, by rw [htk, hv, he]; simp, E4.tM 1⟩
    · rw [← hall hn]; exact hQ _ E4.zM
  · have : p = rs.length := by omega
    subst this
    rw [List.take_length] at hv
    rw [← hv]; exact hQ _ E2.zM
theorem fE_none : fE rs k i = none ↔ ∀ e ∈ rs, ¬ (e.1 = k ∧ e.2.1 = i) := by
  unfold fE; rw [Option.map_eq_none_iff, List.find?_eq_none]; simp
theorem fE_at {p : Nat} {e : RE} (hp : rs[p]? = some e) (hm : e.1 = k ∧ e.2.1 = i) (hn : ∀ q e', q < p → rs[q]? = some e' → ¬ (e'.1 = k ∧ e'.2.1 = i)) : fE rs k i = some e.2.2 := by
  obtain ⟨hl, rfl⟩ := List.getElem?_eq_some_iff.1 hp
  have hs : rs = rs.take p ++ rs[p] :: rs.drop (p + 1) := by rw [← List.drop_eq_getElem_cons hl, List.take_append_drop]
  unfold fE
  generalize rs[p] = x at *
  rw [hs, List.find?_append, List.find?_eq_none.2 (fun e' he' => by
    obtain ⟨q, hq, rfl⟩ := List.mem_iff_getElem.1 he'
    rw [List.length_take] at hq
    rw [List.getElem_take]
    have := hn q rs[q] (by omega) (List.getElem?_eq_getElem (by omega))
    simpa using this)]
  rw [Option.none_or, List.find?_cons_of_pos (by simpa using hm)]; rfl
theorem place1_wp {e : RE} {a b : Addr} {Q : Bool → Heap → Prop} (c1 : cellH B h a = some (.int .i64 k)) (c2 : cellH B h b = some (.int .i64 i)) (hQ : ∀ h', Keep B h [] h' → Q (decide (e.1 = k ∧ e.2.1 = i)) h') : C_reads_Set_place_1 B e.1 e.2.1 e.2.2 a b h Q := by
  refine C_reads_Set_place_1.of ?_
  unfold S_reads_Set_place_1
  intro k7 a7 b7 h8 e8
  have E := (Keep.nil B h).made a7 b7 e8
  have w := E.w
  refine ⟨_, E.cell 0 rfl rfl, k, w.cell c1, fun he => ⟨_, E.cell 0 rfl rfl, i, w.cell c2, Fin.of ?_⟩, fun hn => Fin.of ?_⟩
  · have : (e.2.1 == i) = decide (e.1 = k ∧ e.2.1 = i) := by
      rw [Bool.eq_iff_iff]; simp [he]
    rw [this]; exact hQ _ E.pop
  · have := hQ _ E.pop
    rw [decide_eq_false (by simp [hn])] at this; exact this
theorem place_wp {Q : Int → Heap → Prop} (E : Keep B h0 L h) (A : RdAt L j kS vS st r) (R : ERow r vS rs) (hl : rs.length ≤ 100000) (hS : ∀ p e h', rs[p]? = some e → fE rs k i = some e.2.2 → Keep B h0 L h' → Q (p : Nat) h') (hN : fE rs k i = none → ∀ h', Keep B h0 L h' → Q (-1) h') : C_reads_Set_place B (some ⟨kS, 0, none⟩) k i h Q := by
  refine C_reads_Set_place.of ?_
  unfold S_reads_Set_place
  intro k5 a5 b5 h6 e6 k7 a7 b7 h8 e8
  have E1 := (E.start.nM a5 b5 e6).nM a7 b7 e8
  obtain ⟨a, m, c, rfl⟩ := Row.slice R
  obtain rfl := ERow.len R
  obtain ⟨_, rd⟩ := Row.rd (B := B) R enR_len (by omega)
  refine ⟨_, rfl, .inl ⟨a, _, c, E1.cell j (up_app _ A.p) rfl, ?_⟩⟩
  refine C_slices_IndexFunc_s_reads_Entry_reads_Entry.of ?_
  unfold S_slices_IndexFunc_s_reads_Entry_reads_Entry
  refine ⟨fun q m h' => ∃ p : Nat, p ≤ rs.length ∧ q = p ∧ m = rs.length - p ∧ (∀ q e, q < p → rs[q]? = some e → ¬ (e.1 = k ∧ e.2.1 = i)) ∧ Keep B h0 (L ++ [some (k5, .vec TY.reads_Kind (plains [.int .i64 k]) 1), some (k7, .vec TY.int (plains [.int .i64 i]) 1)]) h', rs.length, Fin.of ⟨0, by omega, rfl, rfl, fun q e hq => by omega, E1⟩, ?_⟩
  clear E1 e6 e8
  rintro _ _ h14 ⟨p, hp, rfl, rfl, hv, E2⟩
  refine ⟨fun hlt => ?_, fun hge => Fin.of (Fin.of ?_)⟩
  · have hpl : p < rs.length := by omega
    have hx := List.getElem?_eq_getElem hpl
    generalize rs[p] = x at hx
    obtain ⟨A', f1, _, f2⟩ := rd h14 (fun k o e => E2.at (j + 1) (by rw [up_app _ A.q, e])) p x hx
    refine ⟨A', f1, by omega, by omega, x.1, x.2.1, x.2.2, f2, CallV.func TG.reads_Set_place_1 (place1_wp (e := x) (E2.cM 0 rfl (i := 0) rfl) (E2.cM 1 rfl (i := 0) rfl) fun h17 E3 => ⟨fun hT => Fin.of (Fin.of ?_), fun hF => Fin.of ?_⟩)⟩
    · rw [decide_eq_true_eq] at hT
      exact hS p x h17 hx (fE_at hx hT hv) (E2.wk E3.w).zM
    · rw [decide_eq_false_iff_not] at hF
      refine ⟨rs.length - (p + 1), by omega, p + 1, by omega, wrapS (by omega), rfl, fun q e hq hg => ?_, E2.wk E3.w⟩
      by_cases he : q = p
      · subst he; rw [hx] at hg; cases hg; exact hF
      · exact hv q e (by omega) hg
  · refine hN (fE_none.2 fun e he => ?_) _ E2.zM
    obtain ⟨q, hq, rfl⟩ := List.mem_iff_getElem.1 he
    exact hv q _ (by omega) (List.getElem?_eq_getElem hq)
theorem set_self {q : Nat} {y : Option (Nat × AObj)} (h : L[q]? = some y) : L.set q y = L := by
  obtain ⟨_, h2⟩ := List.getElem?_eq_some_iff.1 h
  rw [← h2, List.set_getElem_self]
theorem Note_J1 {Q : Bool → Heap → Prop} (E : Keep B h0 L h) (A : RdAt L j kS vS st r) (R : ERow r vS rs) (hl : rs.length ≤ 100000) {w : Int} (hQ : ∀ vS' r' h', ERow r' vS' (rs ++ [(k, i, w)]) → Keep B h0 ((L.set j (some (kS, rsO vS' st))).set (j + 1) r') h' → Q true h') : S_reads_Set_Note_J1 B (some ⟨kS, 0, none⟩) k i w h Q := by
  unfold S_reads_Set_Note_J1
  obtain ⟨a, m, c, rfl⟩ := Row.slice R
  obtain rfl := ERow.len R
  have hj := (List.getElem?_eq_some_iff.1 A.p).1
  have hj1 := (List.getElem?_eq_some_iff.1 A.q).1
  have hfl := flatMap_length enR_len rs
  refine ⟨_, rfl, .inl ⟨a, _, c, E.cell j A.p rfl, fun k31 a31 b31 h32 e32 => ?_⟩⟩
  have E1 := E.made a31 b31 e32
  have g := E1.last
  refine E1.pushS (j + 1) (n := 1) (ys := enR (k, i, w)) (up_app _ A.q) R TK.slc_re TK.zero_re rfl (by omega) (by omega) TK.sl_re ⟨rfl, enR_one _, .inl ⟨_, _, rfl, CellsAt.of_vec (enR (k, i, w)) 0 g fun q y hy => by rw [show 0 + 0 + q = q by omega]; exact plains_get_some hy⟩⟩ (by rw [hfl, enR_len]; omega) fun a' m' c' r' h61 R' E2 => ?_
  rw [List.set_append_left _ _ hj1] at E2
  have hp : (L.set (j + 1) r' ++ [some (k31, AObj.vec TY.reads_Entry (plains (enR (k, i, w))) 3)])[j]? = some (some (kS, rsO (.slice a rs.length c) st)) := up_app _ (by rw [List.getElem?_set_ne (by omega)]; exact A.p)
  obtain ⟨es, E3⟩ := E2.store j 0 (.slice a' m' c') hp rfl
  refine ⟨a', m', c', rfl, _, rfl, _, es, Fin.of (hQ (.slice a' m' c') r' _ ?_ ?_)⟩
  · unfold ERow; rw [List.flatMap_append]; simpa using R'
  · rw [List.set_append_left _ _ (by rw [List.length_set]; omega), List.set_comm _ _ (by omega)] at E3
    exact E3.popL
theorem note_wp {Q : Bool → Heap → Prop} (E : Keep B h0 L h) (A : RdAt L j kS vS st r) (R : ERow r vS rs) (hl : rs.length ≤ 90000) (o : V3 v)
    (hQ : ∀ vS' r' h', ERow r' vS' (noteA v rs st k i).2.1 → Keep B h0 ((L.set j (some (kS, rsO vS' (noteA v rs st k i).2.2))).set (j + 1) r') h' → Q (noteA v rs st k i).1 h') : C_reads_Set_Note B (some ⟨kS, 0, none⟩) (nowF v) k i h Q := by
  refine C_reads_Set_Note.of ?_
  unfold S_reads_Set_Note
  have hj := (List.getElem?_eq_some_iff.1 A.p).1
  have hj1 := (List.getElem?_eq_some_iff.1 A.q).1
  intro k6 a6 b6 h7 e7
  have E1 := E.start.nM a6 b6 e7
  refine ⟨fun e => (by cases e), fun _ => ⟨nowF v, rfl, E1.allM 0 rfl, nof_wp o ?_⟩⟩
  have A1 : ∀ {y : Option (Nat × AObj)}, RdAt (L ++ [y]) j kS vS st r := ⟨up_app _ A.p, up_app _ A.q⟩
  have same : ∀ h', Keep B h0 L h' → Keep B h0 ((L.set j (some (kS, rsO vS st))).set (j + 1) r) h' := fun h' E => by
    rw [set_self A.p, set_self A.q]; exact E
  obtain ⟨_, rd⟩ : ∃ u : Unit, ∀ a m c, vS = .slice a m c → m = rs.length ∧ RowRd B r a 3 enR rs := ⟨(), fun a m c e => by subst e; exact Row.rd (B := B) R enR_len (by omega)⟩
  refine place_wp E1 A1 R (by omega) (fun p e h12 hp hf E2 => ⟨fun _ => ?_, fun hn => by omega⟩) (fun hf h12 E2 => ⟨fun hn => by omega, fun _ => ?_⟩)
  · obtain ⟨a, m, c, rfl⟩ := Row.slice R
    obtain ⟨hm, rd⟩ := rd a m c rfl
    obtain ⟨A', f1, _, f2⟩ := rd h12 (fun k o e => E2.at (j + 1) (by rw [up_app _ A.q, e])) p e hp
    have hpl := (List.getElem?_eq_some_iff.1 hp).1
    have hc : cellH B h12 (Addr.add (Addr.add A' (Int.toNat (p : Int) * 3)) 2) = some (.int .i64 e.2.2) := by rw [Int.toNat_natCast]; exact f2.2.2.1
    refine ⟨_, rfl, .inl ⟨a, m, c, E2.cell j (up_app _ A.p) rfl, A', f1, by omega, by omega, _, hc, Fin.of ?_⟩⟩
    have h1 : noteA v rs st k i = (e.2.2 == verOf v k i, rs, st) := by unfold noteA; rw [hf]
    rw [h1] at hQ
    exact hQ _ r _ R (same _ E2.zM)
  · refine ⟨_, rfl, st, E2.cell j (up_app _ A.p) rfl, fun hgt => ⟨nowF v, rfl, E2.allM 0 rfl, valid_wp E2 A1 R (by omega) o fun h44 E3 => ⟨fun hT => ?_, fun hF => Fin.of ?_⟩⟩, fun hle => Fin.of ?_⟩
    · have h1 : noteA v rs st k i = (true, rs ++ [(k, i, verOf v k i)], v.t) := by unfold noteA; rw [hf]; simp only; rw [if_pos hgt, if_pos hT]
      rw [h1] at hQ
      obtain ⟨es, E4⟩ := E3.store j 1 (.int .i64 v.t) (up_app _ A.p) rfl
      refine ⟨v.t, cellH_vec (E3.gM 0 rfl) rfl, _, rfl, _, es, Fin.of ?_⟩
      rw [List.set_append_left _ _ hj] at E4
      refine Note_J1 (E4.zM) (st := v.t) ⟨List.getElem?_set_self hj, by rw [List.getElem?_set_ne (by omega)]; exact A.q⟩ R (by omega) fun vS' r' h' R' E5 => hQ vS' r' h' R' (by rw [List.set_set] at E5; exact E5)
    · have h1 : noteA v rs st k i = (false, rs, st) := by unfold noteA; rw [hf]; simp only; rw [if_pos hgt, if_neg (by rw [hF]; simp)]
      rw [h1] at hQ
      exact hQ _ r _ R (same _ E3.zM)
    · have h1 : noteA v rs st k i = (true, rs ++ [(k, i, verOf v k i)], st) := by unfold noteA; rw [hf]; simp only; rw [if_neg (fun h => hle h)]
      rw [h1] at hQ
      exact Note_J1 E2.zM A R (by omega) hQ
end
end Go.Proofs.Ytgldgabefiialaa.H
namespace Go.Proofs.Ytgldgabefiialaa.H
open Go Go.RowKit
set_option linter.unusedVariables false
set_option maxRecDepth 100000
def StV.cr (s : StV) (i : Int) : Int := if i = 0 then s.c0 else if i = 1 then s.c1 else if i = 2 then s.c2 else 0
structure AK where
  kA : Nat
  kS : Nat
  kX : Nat
  kK : Nat
structure AU where
  vS : Value
  rS : Option (Nat × AObj)
  x : StI
structure AV where
  rs : List RE
  st : Int
  s : StV
  g : Reg4
def attO (V : VI) (K : AK) (x : StI) (g : Reg4) : AObj := .vec TY.attempt_Attempt (plains [.pointer (some ⟨V.kV, 0, none⟩), .pointer (some ⟨K.kS, 0, none⟩), .pointer (some ⟨x.kd, 0, none⟩), .pointer (some ⟨x.ks, 0, none⟩), .pointer (some ⟨x.kc, 0, none⟩), .int .i64 g.a, .int .i64 g.b, .int .i64 g.c, .int .i64 g.d, .pointer (some ⟨K.kX, 0, none⟩), .pointer (some ⟨K.kK, 0, none⟩)]) 11
def AE (V : VI) (K : AK) (U : AU) (s : AV) : List (Option (Nat × AObj)) := [some (K.kA, attO V K U.x s.g), some (K.kS, rsO U.vS s.st), U.rS, some (U.x.kd, drO_int U.x.vd), U.x.rd, some (U.x.ks, shtO U.x.kf), some (U.x.kf, drO_file_File U.x.vf), U.x.rf, some (U.x.kc, curO s.s)]
structure AOk (v : VV) (s : AV) : Prop where
  so : SOk v.f s.s.f
  sd : SortD s.s.d
  dk : ∀ x ∈ s.s.d, 0 ≤ x.1 ∧ x.1 < 8
  cr : ∀ i, 0 ≤ s.s.cr i ∧ s.s.cr i ≤ 64
theorem sort_lenN {W : Type} (n : Nat) : ∀ (d : List (Int × W)) (a : Nat), SortD d → (∀ x ∈ d, (a : Int) ≤ x.1 ∧ x.1 < n) → d.length ≤ n - a := by
  intro d
  induction d with
  | nil => intro a _ _; simp
  | cons x d ih =>
    intro a s h
    obtain ⟨h1, h2⟩ := h x (by simp)
    obtain ⟨s1, s2⟩ := List.pairwise_cons.1 s
    have := ih (a + 1) s2 (fun y hy => ⟨by have := s1 y hy; omega, (h y (by simp [hy])).2⟩)
    simp only [List.length_cons]; omega
theorem AOk.dlen {v : VV} {s : AV} (o : AOk v s) : s.s.d.length ≤ 8 := sort_lenN 8 s.s.d 0 o.sd fun x hx => o.dk x hx
structure SS (B : RO) (h0 : Heap) (L : List (Option (Nat × AObj))) (h : Heap) (V : VI) (v : VV) (K : AK) (U : AU) (s : AV) : Prop where
  E : Keep B h0 (L ++ (V.e v ++ AE V K U s)) h
  o : VOk V v
  R : ERow U.rS U.vS s.rs
  O : U.x.Ok s.s
  a : AOk v s
def s0 (v : VV) (g : Reg4) : AV := ⟨[], v.t, StV.z, g⟩
theorem SOk.nil {l : FL} (k : TomeOk l) : SOk l [] := ⟨List.Pairwise.nil, fun x hx => (by cases hx), k.n6, k.good⟩
theorem AOk.zero {v : VV} {V : VI} (o : VOk V v) {g : Reg4} : AOk v (s0 v g) := ⟨SOk.nil o.f, List.Pairwise.nil, fun x hx => (by cases hx), fun i => by simp only [s0, StV.z, StV.cr]; (repeat' split) <;> omega⟩
section
variable {B : RO} {h0 h h' : Heap} {L M : List (Option (Nat × AObj))} {V : VI} {v : VV} {K : AK} {U : AU} {s : AV} {k : Nat} {i j : Int} {c : StV} {g : Reg4}
theorem cur_cell (hk : h k = some (curO c)) (hi : 0 ≤ i ∧ i < 3) : cellH B h (Addr.add ⟨k, 0, none⟩ (Int.toNat i * 1)) = some (.int .i64 (c.cr i)) := by
  rw [addr_more]
  have hc : i = 0 ∨ i = 1 ∨ i = 2 := by omega
  rcases hc with rfl | rfl | rfl <;> exact cellH_vec hk rfl
theorem pis_wp {n : Int} {Q : Bool → Heap → Prop} (hQ : Q (decide (0 ≤ n ∧ n < 3)) h) : C_cursor_is B n h Q := by
  refine C_cursor_is.of ?_
  unfold S_cursor_is
  refine ⟨fun h1 => Fin.of ?_, fun h1 => Fin.of ?_⟩
  · have : decide (0 ≤ n ∧ n < 3) = decide (n < 3) := by simp; omega
    rw [this] at hQ; exact hQ
  · rw [decide_eq_false (by omega)] at hQ; exact hQ
theorem cread_wp {Q : Int → Heap → Prop} (hk : h k = some (curO c)) (hi : 0 ≤ i ∧ i < 3) (hQ : Q (c.cr i) h) : C_cursor_Cursor_Read B (some ⟨k, 0, none⟩) i h Q := by
  refine C_cursor_Cursor_Read.of ?_
  unfold S_cursor_Cursor_Read
  refine ⟨fun e => (by cases e), fun _ => pis_wp ⟨fun _ => Fin.of ?_, fun e => absurd e (by simp; omega)⟩⟩
  unfold S_cursor_Cursor_Read_J1
  exact ⟨_, rfl, by omega, by omega, _, cur_cell hk hi, Fin.of hQ⟩
theorem rnew_wp {st : Int} {Q : Option Addr → Heap → Prop} (hQ : ∀ k, h k = none → B k = none → Q (some ⟨k, 0, none⟩) (h.set k (rsO (.slice none 0 0) st))) : C_reads_New B st h Q := by
  refine C_reads_New.of ?_
  unfold S_reads_New
  intro k a b h1 e
  subst e
  exact Fin.of (hQ k a b)
theorem Keep.apM {M' : List (Option (Nat × AObj))} (E : Keep B h0 (L ++ M) h) (E' : Keep B h M' h') : Keep B h0 (L ++ (M ++ M')) h' := by
  rw [← List.append_assoc]; exact E.append E'
def acO0 : AObj := .vec TY.acts_Acts (plains [.slice none 0 0, .slice none 0 0, .slice none 0 0, .slice none 0 0]) 4
theorem new_J1 {k7 : Nat} {Q : Option Addr → Heap → Prop} (E0 : Keep B h0 ((L ++ V.e v) ++ [some (k7, .vec TY.api_Regs (plains [.int .i64 g.a, .int .i64 g.b, .int .i64 g.c, .int .i64 g.d]) 4)]) h) (o : VOk V v)
    (hQ : ∀ K U h', SS B h0 (L ++ [some (K.kX, acO0), some (K.kK, skO (.slice none 0 0))]) h' V v K U (s0 v g) → Q (some ⟨K.kA, 0, none⟩) h') : S_attempt_New_J1 B k7 (some ⟨V.kV, 0, none⟩) h Q := by
  have pr : ∀ {M : List (Option (Nat × AObj))} {h1 : Heap}, Keep B h0 ((L ++ V.e v) ++ (some (k7, .vec TY.api_Regs (plains [.int .i64 g.a, .int .i64 g.b, .int .i64 g.c, .int .i64 g.d]) 4) :: M)) h1 → cellH B h1 (Addr.add ⟨V.kV, 0, none⟩ 3) = some (.int .i64 v.t) ∧ CellsAt B h1 ⟨k7, 0, none⟩ 0 [.int .i64 g.a, .int .i64 g.b, .int .i64 g.c, .int .i64 g.d] := fun {M h1} E => by
    refine ⟨?_, E.cM 0 rfl (i := 0) rfl, E.cM 0 rfl (i := 1) rfl, E.cM 0 rfl (i := 2) rfl, E.cM 0 rfl (i := 3) rfl, trivial⟩
    rw [List.append_assoc] at E
    exact cellH_vec ((VAt.mk (L := L) (x := V) (v := v)).at E 0 (by decide) rfl) rfl
  have fin : ∀ {kS kX kK : Nat} {x : StI} {h1 : Heap}, StI.Ok x StV.z → Keep B h0 ((L ++ V.e v) ++ [some (k7, .vec TY.api_Regs (plains [.int .i64 g.a, .int .i64 g.b, .int .i64 g.c, .int .i64 g.d]) 4), some (kS, rsO (.slice none 0 0) v.t), some (x.kd, drO_int x.vd), x.rd, some (x.ks, shtO x.kf), some (x.kf, drO_file_File x.vf), x.rf, some (x.kc, curO StV.z), some (kX, acO0), some (kK, skO (.slice none 0 0))]) h1 → S_attempt_New_J2 B k7 (some ⟨V.kV, 0, none⟩) ⟨V.kV, 0, none⟩ v.t g.a g.b g.c g.d (some ⟨kS, 0, none⟩) (some ⟨x.kd, 0, none⟩) (some ⟨x.ks, 0, none⟩) (some ⟨x.kc, 0, none⟩) g.a g.b g.c g.d ⟨kX, 0, none⟩ ⟨kK, 0, none⟩ h1 Q := fun {kS kX kK x h1} O E => by
    unfold S_attempt_New_J2
    intro kA a b h2 e2
    have E1 := E.nM a b e2
    refine ⟨(pr E1).1, (pr E1).2, Fin.of (hQ ⟨kA, kS, kX, kK⟩ ⟨.slice none 0 0, none, x⟩ _ ⟨?_, o, Row.nil _ _, O, AOk.zero o⟩)⟩
    rw [List.append_assoc] at E1 ⊢
    exact E1.sM [15, 16, 0, 1, 2, 3, 4, 5, 6, 17, 8, 99, 9, 10, 11, 12, 13, 14] (by decide)
  unfold S_attempt_New_J1
  refine ⟨_, rfl, v.t, (pr E0).1, g.a, g.b, g.c, g.d, (pr E0).2, ?_⟩
  refine ⟨?_, ?_, ?_⟩
  · skip
    refine rnew_wp fun q1 a1 b1 => ?_
    have E1 := E0.nM (o := rsO (.slice none 0 0) v.t) a1 b1 rfl
    refine ⟨(pr E1).1, (pr E1).2, ?_⟩
    refine ⟨?_, ?_, ?_⟩
    · skip
      refine fresh_wp (g := g) fun x2 h2 O2 F2 => ?_
      have E2 := E1.apM F2
      refine ⟨(pr E2).1, (pr E2).2, ?_⟩
      refine ⟨?_, ?_⟩
      · skip
        intro q3 a3 b3 h3 e3
        have E3 := E2.nM a3 b3 e3
        refine ⟨(pr E3).1, (pr E3).2, ?_⟩
        intro q4 a4 b4 h4 e4
        have E4 := E3.nM a4 b4 e4
        refine ⟨(pr E4).1, (pr E4).2, ?_⟩
        exact fin (by assumption) (E4.sM [0, 1, 2, 3, 4, 5, 6, 7, 8, 9] (by decide))
      · skip
        intro q5 a5 b5 h5 e5
        have E5 := E2.nM a5 b5 e5
        refine ⟨(pr E5).1, (pr E5).2, ?_⟩
        intro q6 a6 b6 h6 e6
        have E6 := E5.nM a6 b6 e6
        refine ⟨(pr E6).1, (pr E6).2, ?_⟩
        exact fin (by assumption) (E6.sM [0, 1, 2, 3, 4, 5, 6, 7, 9, 8] (by decide))
    · skip
      intro q7 a7 b7 h7 e7
      have E7 := E1.nM a7 b7 e7
      refine ⟨(pr E7).1, (pr E7).2, ?_⟩
      refine ⟨?_, ?_⟩
      · skip
        refine fresh_wp (g := g) fun x8 h8 O8 F8 => ?_
        have E8 := E7.apM F8
        refine ⟨(pr E8).1, (pr E8).2, ?_⟩
        intro q9 a9 b9 h9 e9
        have E9 := E8.nM a9 b9 e9
        refine ⟨(pr E9).1, (pr E9).2, ?_⟩
        exact fin (by assumption) (E9.sM [0, 1, 3, 4, 5, 6, 7, 8, 2, 9] (by decide))
      · skip
        intro q10 a10 b10 h10 e10
        have E10 := E7.nM a10 b10 e10
        refine ⟨(pr E10).1, (pr E10).2, ?_⟩
        refine fresh_wp (g := g) fun x11 h11 O11 F11 => ?_
        have E11 := E10.apM F11
        refine ⟨(pr E11).1, (pr E11).2, ?_⟩
        exact fin (by assumption) (E11.sM [0, 1, 4, 5, 6, 7, 8, 9, 2, 3] (by decide))
    · skip
      intro q12 a12 b12 h12 e12
      have E12 := E1.nM a12 b12 e12
      refine ⟨(pr E12).1, (pr E12).2, ?_⟩
      refine ⟨?_, ?_⟩
      · skip
        refine fresh_wp (g := g) fun x13 h13 O13 F13 => ?_
        have E13 := E12.apM F13
        refine ⟨(pr E13).1, (pr E13).2, ?_⟩
        intro q14 a14 b14 h14 e14
        have E14 := E13.nM a14 b14 e14
        refine ⟨(pr E14).1, (pr E14).2, ?_⟩
        exact fin (by assumption) (E14.sM [0, 1, 3, 4, 5, 6, 7, 8, 9, 2] (by decide))
      · skip
        intro q15 a15 b15 h15 e15
        have E15 := E12.nM a15 b15 e15
        refine ⟨(pr E15).1, (pr E15).2, ?_⟩
        refine fresh_wp (g := g) fun x16 h16 O16 F16 => ?_
        have E16 := E15.apM F16
        refine ⟨(pr E16).1, (pr E16).2, ?_⟩
        exact fin (by assumption) (E16.sM [0, 1, 4, 5, 6, 7, 8, 9, 3, 2] (by decide))
  · skip
    intro q17 a17 b17 h17 e17
    have E17 := E0.nM a17 b17 e17
    refine ⟨(pr E17).1, (pr E17).2, ?_⟩
    refine ⟨?_, ?_⟩
    · skip
      refine rnew_wp fun q18 a18 b18 => ?_
      have E18 := E17.nM (o := rsO (.slice none 0 0) v.t) a18 b18 rfl
      refine ⟨(pr E18).1, (pr E18).2, ?_⟩
      refine ⟨?_, ?_⟩
      · skip
        refine fresh_wp (g := g) fun x19 h19 O19 F19 => ?_
        have E19 := E18.apM F19
        refine ⟨(pr E19).1, (pr E19).2, ?_⟩
        intro q20 a20 b20 h20 e20
        have E20 := E19.nM a20 b20 e20
        refine ⟨(pr E20).1, (pr E20).2, ?_⟩
        exact fin (by assumption) (E20.sM [0, 2, 3, 4, 5, 6, 7, 8, 1, 9] (by decide))
      · skip
        intro q21 a21 b21 h21 e21
        have E21 := E18.nM a21 b21 e21
        refine ⟨(pr E21).1, (pr E21).2, ?_⟩
        refine fresh_wp (g := g) fun x22 h22 O22 F22 => ?_
        have E22 := E21.apM F22
        refine ⟨(pr E22).1, (pr E22).2, ?_⟩
        exact fin (by assumption) (E22.sM [0, 2, 4, 5, 6, 7, 8, 9, 1, 3] (by decide))
    · skip
      intro q23 a23 b23 h23 e23
      have E23 := E17.nM a23 b23 e23
      refine ⟨(pr E23).1, (pr E23).2, ?_⟩
      refine rnew_wp fun q24 a24 b24 => ?_
      have E24 := E23.nM (o := rsO (.slice none 0 0) v.t) a24 b24 rfl
      refine ⟨(pr E24).1, (pr E24).2, ?_⟩
      refine fresh_wp (g := g) fun x25 h25 O25 F25 => ?_
      have E25 := E24.apM F25
      refine ⟨(pr E25).1, (pr E25).2, ?_⟩
      exact fin (by assumption) (E25.sM [0, 3, 4, 5, 6, 7, 8, 9, 1, 2] (by decide))
  · skip
    intro q26 a26 b26 h26 e26
    have E26 := E0.nM a26 b26 e26
    refine ⟨(pr E26).1, (pr E26).2, ?_⟩
    refine ⟨?_, ?_⟩
    · skip
      refine rnew_wp fun q27 a27 b27 => ?_
      have E27 := E26.nM (o := rsO (.slice none 0 0) v.t) a27 b27 rfl
      refine ⟨(pr E27).1, (pr E27).2, ?_⟩
      refine ⟨?_, ?_⟩
      · skip
        refine fresh_wp (g := g) fun x28 h28 O28 F28 => ?_
        have E28 := E27.apM F28
        refine ⟨(pr E28).1, (pr E28).2, ?_⟩
        intro q29 a29 b29 h29 e29
        have E29 := E28.nM a29 b29 e29
        refine ⟨(pr E29).1, (pr E29).2, ?_⟩
        exact fin (by assumption) (E29.sM [0, 2, 3, 4, 5, 6, 7, 8, 9, 1] (by decide))
      · skip
        intro q30 a30 b30 h30 e30
        have E30 := E27.nM a30 b30 e30
        refine ⟨(pr E30).1, (pr E30).2, ?_⟩
        refine fresh_wp (g := g) fun x31 h31 O31 F31 => ?_
        have E31 := E30.apM F31
        refine ⟨(pr E31).1, (pr E31).2, ?_⟩
        exact fin (by assumption) (E31.sM [0, 2, 4, 5, 6, 7, 8, 9, 3, 1] (by decide))
    · skip
      intro q32 a32 b32 h32 e32
      have E32 := E26.nM a32 b32 e32
      refine ⟨(pr E32).1, (pr E32).2, ?_⟩
      refine rnew_wp fun q33 a33 b33 => ?_
      have E33 := E32.nM (o := rsO (.slice none 0 0) v.t) a33 b33 rfl
      refine ⟨(pr E33).1, (pr E33).2, ?_⟩
      refine fresh_wp (g := g) fun x34 h34 O34 F34 => ?_
      have E34 := E33.apM F34
      refine ⟨(pr E34).1, (pr E34).2, ?_⟩
      exact fin (by assumption) (E34.sM [0, 3, 4, 5, 6, 7, 8, 9, 2, 1] (by decide))
theorem anew_wp {Q : Option Addr → Heap → Prop} (E : Keep B h0 (L ++ V.e v) h) (o : VOk V v)
    (hQ : ∀ K U h', SS B h0 (L ++ [some (K.kX, acO0), some (K.kK, skO (.slice none 0 0))]) h' V v K U (s0 v g) → Q (some ⟨K.kA, 0, none⟩) h') : C_attempt_New B (some ⟨V.kV, 0, none⟩) g.a g.b g.c g.d h Q := by
  refine C_attempt_New.of ?_
  unfold S_attempt_New
  intro k7 a7 b7 h8 e8
  exact ⟨fun e => (by cases e), fun _ => Fin.of (new_J1 (E.made a7 b7 e8) o hQ)⟩
theorem AOk.re {s' : AV} (a : AOk v s) (e : s'.s = s.s) : AOk v s' := ⟨by rw [e]; exact a.so, by rw [e]; exact a.sd, by rw [e]; exact a.dk, by rw [e]; exact a.cr⟩
def noteS (v : VV) (s : AV) (k i : Int) : AV := { s with rs := (noteA v s.rs s.st k i).2.1, st := (noteA v s.rs s.st k i).2.2 }
def noteE (v : VV) (s : AV) (k i : Int) : Int := if (noteA v s.rs s.st k i).1 = true then 0 else 9
theorem anote_wp {k i : Int} {Q : Int → Heap → Prop} (S : SS B h0 L h V v K U s) (hn : s.rs.length ≤ 90000) (hQ : ∀ U' h', U'.x = U.x → SS B h0 L h' V v K U' (noteS v s k i) → Q (noteE v s k i) h') : C_attempt_Attempt_note B (some ⟨K.kA, 0, none⟩) k i h Q := by
  refine C_attempt_Attempt_note.of ?_
  unfold S_attempt_Attempt_note
  refine ⟨_, rfl, _, S.E.cM 7 rfl (i := 1) rfl, _, rfl, _, S.E.cM 7 rfl (i := 0) rfl, now_wp S.E VAt.mk S.o fun h1 E1 => ⟨E1.cM 7 rfl (i := 1) rfl, E1.cM 7 rfl (i := 0) rfl, ?_⟩⟩
  refine note_wp (j := L.length + 8) (vS := U.vS) (st := s.st) (r := U.rS) E1 ⟨upM 8 rfl, upM 9 rfl⟩ S.R hn S.o.v3 fun vS' r' h2 R' E2 => ?_
  rw [setM, show L.length + 8 + 1 = L.length + 9 from rfl, setM] at E2
  have S2 : SS B h0 L h2 V v K ⟨vS', r', U.x⟩ (noteS v s k i) := ⟨E2, S.o, R', S.O, S.a.re rfl⟩
  have hq := hQ ⟨vS', r', U.x⟩ _ rfl S2
  unfold noteE at hq
  refine ⟨fun hT => ⟨S2.E.cM 7 rfl (i := 1) rfl, S2.E.cM 7 rfl (i := 0) rfl, Fin.of ?_⟩, fun hF => ⟨S2.E.cM 7 rfl (i := 1) rfl, S2.E.cM 7 rfl (i := 0) rfl, Fin.of ?_⟩⟩
  · rw [if_pos hT] at hq; exact hq
  · rw [if_neg (by rw [hF]; simp)] at hq; exact hq
theorem SS.dat (S : SS B h0 L h V v K U s) : DAt_int (L ++ (V.e v ++ AE V K U s)) (L.length + 10) U.x.kd U.x.vd U.x.rd := ⟨upM 10 rfl, upM 11 rfl⟩
def inC (i : Int) : Bool := decide (0 ≤ i ∧ i < 8)
def loadA (v : VV) (s : AV) (i : Int) : AV × Int × Int :=
  if inC i = true then (match atD s.s.d i with
    | some x => (s, x, 0)
    | none => (noteS v s 0 i, if noteE v s 0 i = 0 then (cellAt_int v.c i).1 else 0, noteE v s 0 i)) else (s, 0, 1)
theorem load_wp {i : Int} {Q : Int → Int → Heap → Prop} (S : SS B h0 L h V v K U s) (hn : s.rs.length ≤ 90000) (hQ : ∀ U' h', U'.x = U.x → SS B h0 L h' V v K U' (loadA v s i).1 → Q (loadA v s i).2.1 (loadA v s i).2.2 h') : C_attempt_Attempt_Load B (some ⟨K.kA, 0, none⟩) i h Q := by
  refine C_attempt_Attempt_Load.of ?_
  unfold S_attempt_Attempt_Load
  have out : inC i = false → Q 0 1 h := fun hn => by
    have e : loadA v s i = (s, 0, 1) := by unfold loadA; rw [hn]; rfl
    rw [e] at hQ; exact hQ U h rfl S
  refine ⟨fun e => (by cases e), fun _ => ⟨fun h1 => Fin.of (out (decide_eq_false (by omega))), fun h1 => ⟨fun h2 => Fin.of (out (decide_eq_false (by omega))), fun h2 => Fin.of ?_⟩⟩⟩
  have hi : inC i = true := decide_eq_true (by omega)
  unfold S_attempt_Attempt_Load_J1
  refine ⟨_, rfl, _, S.E.cM 7 rfl (i := 2) rfl, get_int_wp S.E S.dat S.O.d S.a.sd (by have := S.a.dlen; omega) ?_⟩
  cases hd : atD s.s.d i with
  | some y =>
    have e : loadA v s i = (s, y, 0) := by unfold loadA; rw [if_pos hi, hd]
    rw [e] at hQ
    exact ⟨fun _ => Fin.of (hQ U h rfl S), fun e => by cases e⟩
  | none =>
    have e : loadA v s i = (noteS v s 0 i, if noteE v s 0 i = 0 then (cellAt_int v.c i).1 else 0, noteE v s 0 i) := by unfold loadA; rw [if_pos hi, hd]
    rw [e] at hQ
    refine ⟨fun e => (by cases e), fun _ => anote_wp S hn fun U' h1 e1 S1 => ?_⟩
    have hq := hQ U' h1 e1 S1
    refine ⟨fun h0 => ⟨_, rfl, _, S1.E.cM 7 rfl (i := 0) rfl, _, rfl, _, S1.E.cM 0 rfl (i := 0) rfl, get_wp_int (rowO_int_v (S1.E.gM 1 rfl)) (Fin.of ?_)⟩, fun h0 => Fin.of ?_⟩
    · simp only [h0, if_true] at hq ⊢; exact hq
    · simp only [if_neg h0] at hq; exact hq
def storeA (s : AV) (i x : Int) : AV × Int := if inC i = true then ({ s with s := { s.s with d := insD s.s.d i x } }, 0) else (s, 1)
theorem AOk.store {i x : Int} (a : AOk v s) (hi : inC i = true) : AOk v { s with s := { s.s with d := insD s.s.d i x } } := ⟨a.so, a.sd.ins, fun y hy => by
  rcases insD_mem hy with rfl | hy
  · exact of_decide_eq_true hi
  · exact a.dk y hy, a.cr⟩
theorem store_wp {i x : Int} {Q : Int → Heap → Prop} (S : SS B h0 L h V v K U s) (hQ : ∀ U' h', SS B h0 L h' V v K U' (storeA s i x).1 → Q (storeA s i x).2 h') : C_attempt_Attempt_Store B (some ⟨K.kA, 0, none⟩) i x h Q := by
  refine C_attempt_Attempt_Store.of ?_
  unfold S_attempt_Attempt_Store
  have out : inC i = false → Q 1 h := fun hn => by
    have e : storeA s i x = (s, 1) := by unfold storeA; rw [hn]; rfl
    rw [e] at hQ; exact hQ U h S
  refine ⟨fun e => (by cases e), fun _ => ⟨fun h1 => Fin.of (out (decide_eq_false (by omega))), fun h1 => ⟨fun h2 => Fin.of (out (decide_eq_false (by omega))), fun h2 => Fin.of ?_⟩⟩⟩
  have hi : inC i = true := decide_eq_true (by omega)
  unfold S_attempt_Attempt_Store_J1
  have e : storeA s i x = ({ s with s := { s.s with d := insD s.s.d i x } }, 0) := by unfold storeA; rw [if_pos hi]
  rw [e] at hQ
  refine ⟨_, rfl, _, S.E.cM 7 rfl (i := 2) rfl, put_int_wp S.E S.dat S.O.d S.a.sd (by have := S.a.dlen; omega) fun v' r' h1 R1 E1 => Fin.of ?_⟩
  rw [setM, show L.length + 10 + 1 = L.length + 11 from rfl, setM] at E1
  exact hQ ⟨U.vS, U.rS, { U.x with vd := v', rd := r' }⟩ _ ⟨E1, S.o, S.R, ⟨R1, S.O.f⟩, S.a.store hi⟩
theorem avalid_wp {Q : Bool → Heap → Prop} (S : SS B h0 L h V v K U s) (hn : s.rs.length ≤ 90000) (hQ : ∀ h', SS B h0 L h' V v K U s → Q (vld v s.rs) h') : C_attempt_Attempt_Valid B (some ⟨K.kA, 0, none⟩) h Q := by
  refine C_attempt_Attempt_Valid.of ?_
  unfold S_attempt_Attempt_Valid
  refine ⟨fun e => (by cases e), fun _ => ⟨_, rfl, _, S.E.cM 7 rfl (i := 1) rfl, _, rfl, _, S.E.cM 7 rfl (i := 0) rfl, now_wp S.E VAt.mk S.o fun h1 E1 => ⟨E1.cM 7 rfl (i := 1) rfl, E1.cM 7 rfl (i := 0) rfl, ?_⟩⟩⟩
  refine valid_wp (j := L.length + 8) (vS := U.vS) (st := s.st) (r := U.rS) E1 ⟨upM 8 rfl, upM 9 rfl⟩ S.R (by omega) S.o.v3 fun h2 E2 => ⟨E2.cM 7 rfl (i := 1) rfl, E2.cM 7 rfl (i := 0) rfl, Fin.of (hQ _ ⟨E2, S.o, S.R, S.O, S.a⟩)⟩
theorem StI.Ok.of {x : StI} {a b : StV} (o : x.Ok a) (e1 : b.d = a.d) (e2 : b.f = a.f) : x.Ok b := ⟨by rw [e1]; exact o.d, by rw [e2]; exact o.f⟩
end
end Go.Proofs.Ytgldgabefiialaa.H
namespace Go.Proofs.Ytgldgabefiialaa.H
open Go Go.RowKit
set_option linter.unusedVariables false
set_option maxRecDepth 100000
def shI (V : VI) (U : AU) : ShI := ⟨V.kT, V.kR, V.vt, V.rt, U.x.ks, U.x.kf⟩
def restS (V : VI) (v : VV) (K : AK) (U : AU) (s : AV) : List (Option (Nat × AObj)) := [some (V.kV, viewO V v.t), some (V.kC, rowO_int v.c), some (V.kF, feedO v.ts V.kP), some (V.kP, rowO_int v.l), some (K.kA, attO V K U.x s.g), some (K.kS, rsO U.vS s.st), U.rS, some (U.x.kd, drO_int U.x.vd), U.x.rd, some (U.x.kc, curO s.s)]
def AU.w (U : AU) (vf : Value) (rf : Option (Nat × AObj)) : AU := { U with x := { U.x with vf := vf, rf := rf } }
def AV.wf (s : AV) (f : DFL) : AV := { s with s := { s.s with f := f } }
def VI.w (V : VI) (r : Option (Nat × AObj)) : VI := { V with rt := r }
section
variable {B : RO} {h0 h h' : Heap} {L M : List (Option (Nat × AObj))} {V : VI} {v : VV} {K : AK} {U : AU} {s : AV} {k : Nat} {i j : Int} {c : StV} {g : Reg4} {o o' : AObj} {y : Option (Nat × AObj)}
theorem toSh (E : Keep B h0 (L ++ (V.e v ++ AE V K U s)) h) : Keep B h0 ((L ++ restS V v K U s) ++ (shI V U).m U.x.vf U.x.rf) h := by
  rw [List.append_assoc]
  exact E.sM [0, 1, 5, 6, 7, 8, 9, 10, 11, 15, 2, 3, 4, 12, 13, 14] (by decide)
theorem ofSh {vd : Value} {rd : Option (Nat × AObj)} {f : DFL} (E : Keep B h0 ((L ++ restS V v K U s) ++ (shI V U).m vd rd) h) : Keep B h0 (L ++ (V.e v ++ AE V K (U.w vd rd) (s.wf f))) h := by
  rw [List.append_assoc] at E
  exact E.sM [0, 1, 10, 11, 12, 2, 3, 4, 5, 6, 7, 8, 13, 14, 15, 9] (by decide)
theorem atMid : ((L ++ [y]) ++ M)[L.length]? = some y := up_app _ (by rw [List.getElem?_append_right (Nat.le_refl _), Nat.sub_self]; rfl)
theorem setMid (z : Option (Nat × AObj)) : ((L ++ [y]) ++ M).set L.length z = (L ++ [z]) ++ M := by
  rw [List.append_assoc, List.set_append_right _ _ (Nat.le_refl _), Nat.sub_self, List.append_assoc]; rfl
theorem Keep.gP (E : Keep B h0 ((L ++ [some (k, o)]) ++ M) h) : h k = some o := E.at L.length atMid
theorem Keep.pP (E : Keep B h0 ((L ++ [some (k, o)]) ++ M) h) : Keep B h0 ((L ++ [some (k, o')]) ++ M) (h.set k o') := by
  have := E.put (o' := o') L.length atMid
  rwa [setMid] at this
theorem Keep.gP' (E : Keep B h0 ((L ++ [some (k, o)] ++ [y]) ++ M) h) : h k = some o := by
  rw [List.append_assoc (L ++ [some (k, o)])] at E
  exact E.gP
theorem SS.nP (S : SS B h0 L h V v K U s) (hk : h k = none) (hb : B k = none) (e : h' = h.set k o) : SS B h0 (L ++ [some (k, o)]) h' V v K U s := ⟨S.E.nP hk hb e, S.o, S.R, S.O, S.a⟩
theorem SS.dP (S : SS B h0 (L ++ [y]) h V v K U s) : SS B h0 L h V v K U s := ⟨S.E.dP, S.o, S.R, S.O, S.a⟩
theorem SS.pP (S : SS B h0 (L ++ [some (k, o)]) h V v K U s) : SS B h0 (L ++ [some (k, o')]) (h.set k o') V v K U s := ⟨S.E.pP, S.o, S.R, S.O, S.a⟩
theorem SS.gP (S : SS B h0 (L ++ [some (k, o)]) h V v K U s) : h k = some o := S.E.gP
theorem SS.gP' (S : SS B h0 (L ++ [some (k, o)] ++ [y]) h V v K U s) : h k = some o := S.E.gP'
theorem SS.f (S : SS B h0 L h V v K U s) {vd : Value} {rd : Option (Nat × AObj)} {f : DFL} {h1 : Heap} (E : Keep B h0 ((L ++ restS V v K U s) ++ (shI V U).m vd rd) h1) (R : DRow_file_File rd vd f) (a : SOk v.f f) : SS B h0 L h1 V v K (U.w vd rd) (s.wf f) :=
  ⟨ofSh E, S.o, S.R, ⟨S.O.d, R⟩, ⟨a, S.a.sd, S.a.dk, S.a.cr⟩⟩
end
end Go.Proofs.Ytgldgabefiialaa.H
namespace Go.Proofs.Ytgldgabefiialaa.H
open Go Go.RowKit
set_option linter.unusedVariables false
set_option maxRecDepth 100000
def apC (t : Int) (c : List (Int × Int)) (d : List (Int × Int)) : List (Int × Int) := d.foldl (fun c x => c.set x.1.toNat (x.2, t)) c
theorem apC_len (t : Int) : ∀ (d c : List (Int × Int)), (apC t c d).length = c.length := by
  intro d
  induction d with
  | nil => intro c; rfl
  | cons x d ih => intro c; exact (ih _).trans (List.length_set ..)
theorem apC_take {t : Int} {c d : List (Int × Int)} {q : Nat} {x : Int × Int} (h : d[q]? = some x) : apC t c (d.take (q + 1)) = (apC t c (d.take q)).set x.1.toNat (x.2, t) := by
  obtain ⟨h1, rfl⟩ := List.getElem?_eq_some_iff.1 h
  rw [List.take_succ_eq_append_getElem h1, apC, List.foldl_append]; rfl
def landN (t : Int) (ts : List ByteArray) (c : StV) (l : List (Int × Int)) : Nat → List (Int × Int)
  | 0 => l
  | j + 1 => if 0 < c.cr (j : Nat) then takeL ts (landN t ts c l j) (j : Nat) ((cellAt_int (landN t ts c l j) (j : Nat)).1 + c.cr (j : Nat)) t else landN t ts c l j
theorem FeedOk.land {t : Int} {ts : List ByteArray} {c : StV} {l : List (Int × Int)} (k : FeedOk ts l) : ∀ j, FeedOk ts (landN t ts c l j)
  | 0 => k
  | j + 1 => by
    unfold landN
    split
    · exact (FeedOk.land k j).take _ _ _
    · exact FeedOk.land k j
def landV (v : VV) (s : AV) : VV := ⟨apC (v.t + 1) v.c s.s.d, apD (v.t + 1) v.f s.s.f, v.ts, landN (v.t + 1) v.ts s.s v.l 3, v.t + 1⟩
theorem TomeOk.apD {t : Int} : ∀ (d : DFL) {l : FL}, TomeOk l → TomeOk (apD t l d) := by
  intro d
  induction d with
  | nil => intro l k; exact k
  | cons x d ih => intro l k; exact ih (k.set _ _ _ _)
section
variable {B : RO} {h0 h h' : Heap} {L M : List (Option (Nat × AObj))} {V : VI} {v : VV} {K : AK} {U : AU} {s : AV} {k : Nat} {i j : Int} {c : StV} {g : Reg4} {o o' : AObj} {y : Option (Nat × AObj)}
theorem AOk.view {v' : VV} (a : AOk v s) (k : TomeOk v'.f) : AOk v' s := ⟨⟨a.so.s, a.so.k, k.n6, k.good⟩, a.sd, a.dk, a.cr⟩
theorem land_wp {Q : Bool → Heap → Prop} (S : SS B h0 L h V v K U s) (hn : s.rs.length ≤ 90000) (ht : 0 ≤ v.t ∧ v.t < 1000000000)
    (hT : vld v s.rs = true → ∀ r' h', SS B h0 L h' (V.w r') (landV v s) K U s → Q true h') (hF : vld v s.rs = false → ∀ h', SS B h0 L h' V v K U s → Q false h') : C_attempt_Attempt_Land B (some ⟨K.kA, 0, none⟩) h Q := by
  refine C_attempt_Attempt_Land.of ?_
  unfold S_attempt_Attempt_Land
  refine avalid_wp S hn fun h3 S1 => ⟨fun hv => ?_, fun hv => Fin.of (hF hv _ S1)⟩
  refine ⟨_, rfl, _, S1.E.cM 7 rfl (i := 0) rfl, fun k8 a8 b8 h9 e9 => ?_⟩
  have S2 := S1.nP a8 b8 e9
  refine ⟨_, storeH_vec S2.gP rfl, ?_⟩
  have S3 := S2.pP (o' := .vec TY.p_attempt_View (plains [.pointer (some ⟨V.kV, 0, none⟩)]) 1)
  refine ⟨_, cellH_vec S3.gP rfl, _, rfl, v.t, S3.E.cM 0 rfl (i := 3) rfl, _, rfl, ?_⟩
  rw [w64 (by omega) (by omega)]
  refine ⟨_, storeH_vec (S3.E.gM 0 rfl) (show (plains [.pointer (some ⟨V.kC, 0, none⟩), .pointer (some ⟨V.kT, 0, none⟩), .pointer (some ⟨V.kF, 0, none⟩), .int .i64 v.t])[3]? = some (.plain (.int .i64 v.t)) from rfl), ?_⟩
  have E4 := S3.E.pM (o' := viewO V (v.t + 1)) 0 rfl
  refine ⟨_, rfl, _, Keep.cM E4 7 rfl (i := 2) rfl, dall_wp fun kc ac bc => ?_⟩
  have E5 := Keep.nP (o := .vec TY.p_draft_Draft_int [.plain (.pointer (some ⟨U.x.kd, 0, none⟩))] 1) E4 ac bc rfl
  have dl := S.a.dlen
  let LL := L ++ [some (k8, .vec TY.p_attempt_View (plains [.pointer (some ⟨V.kV, 0, none⟩)]) 1)] ++ [some (kc, .vec TY.p_draft_Draft_int [.plain (.pointer (some ⟨U.x.kd, 0, none⟩))] 1)]
  refine ⟨s.s.d, dG kc U.x.kd U.x.vd U.x.rd, fun q h' => Keep B h0 (LL ++ (V.e { v with c := apC (v.t + 1) v.c (s.s.d.take q), t := v.t + 1 } ++ AE V K U s)) h', dall_iter S.O.d (by omega), dG_ins, ?_, Fin.of E5, ?_, ?_⟩
  · intro q h' E
    exact ⟨Keep.gP E, E.gM 10 rfl, fun k o e => E.gM 11 (by show some U.x.rd = _; rw [e])⟩
  · clear E4 E5
    rintro q h69 i66 i67 hg E
    have hx := S.a.dk _ (List.mem_of_getElem? hg)
    simp only at hx
    refine ⟨_, cellH_vec (Keep.gP' E) rfl, _, rfl, _, E.cM 0 rfl (i := 0) rfl, _, cellH_vec (Keep.gP' E) rfl, _, rfl, _, E.cM 0 rfl (i := 3) rfl, set_wp_int (E.gM 1 rfl) (fun _ _ => Fin.of ?_) fun hn => ?_⟩
    · have E1 := E.pM (o' := rowO_int ((apC (v.t + 1) v.c (s.s.d.take q)).set i66.toNat (i67, v.t + 1))) 1 rfl
      rw [← apC_take (x := (i66, i67)) hg] at E1
      show Keep B h0 _ (h69.set V.kC (rowO_int ((apC (v.t + 1) v.c (s.s.d.take q)).set i66.toNat (i67, v.t + 1))))
      rw [← apC_take (x := (i66, i67)) hg]
      exact E1
    · rw [apC_len, S.o.c8] at hn; omega
  · clear E4 E5
    intro h69 E
    rw [List.take_length] at E
    refine Fin.of ?_
    unfold S_attempt_Attempt_Land_J1
    refine ⟨_, rfl, _, E.cM 7 rfl (i := 3) rfl, _, cellH_vec (Keep.gP' E) rfl, _, rfl, _, E.cM 0 rfl (i := 1) rfl, _, cellH_vec (Keep.gP' E) rfl, _, rfl, v.t + 1, E.cM 0 rfl (i := 3) rfl, ?_⟩
    refine sover_wp (x := shI V U) (toSh E) S.o.r S.O.f S.a.so fun r' h31 R' E1 => ?_
    have E2 := ofSh (V := V.w r') (v := ⟨apC (v.t + 1) v.c s.s.d, apD (v.t + 1) v.f s.s.f, v.ts, v.l, v.t + 1⟩) (K := K) (U := U) (s := s) (f := s.s.f) E1
    refine ⟨fun q m h' => ∃ j : Nat, j ≤ 3 ∧ q = j ∧ m = 3 - j ∧ Keep B h0 (LL ++ ((V.w r').e ⟨apC (v.t + 1) v.c s.s.d, apD (v.t + 1) v.f s.s.f, v.ts, landN (v.t + 1) v.ts s.s v.l j, v.t + 1⟩ ++ AE V K U s)) h', 3, Fin.of ⟨0, by omega, rfl, rfl, E2⟩, ?_⟩
    clear E1 E2 E
    rintro _ _ h34 ⟨j, hj, rfl, rfl, E⟩
    refine ⟨fun hlt => ⟨_, rfl, _, E.cM 7 rfl (i := 4) rfl, cread_wp (c := s.s) (E.gM 15 rfl) (by omega) ⟨fun hg => ?_, fun hg => Fin.of ?_⟩⟩, fun hge => Fin.of ?_⟩
    · have fk := S.o.k.land (t := v.t + 1) (c := s.s) j
      refine ⟨_, cellH_vec (Keep.gP' E) rfl, _, rfl, _, E.cM 0 rfl (i := 2) rfl, feed_place_wp (ts := v.ts) (l := landN (v.t + 1) v.ts s.s v.l j) fk.t3 (E.gM 5 rfl) (E.gM 6 rfl) ?_⟩
      refine ⟨_, cellH_vec (Keep.gP' E) rfl, _, rfl, _, E.cM 0 rfl (i := 2) rfl, _, cellH_vec (Keep.gP' E) rfl, _, rfl, v.t + 1, E.cM 0 rfl (i := 3) rfl, ?_⟩
      have hp := fk.place (j : Nat)
      have hs := fk.size (j : Nat)
      have hc := S.a.cr (j : Nat)
      rw [w64 (by omega) (by omega)]
      refine feed_take_wp fk (E.gM 5 rfl) (E.gM 6 rfl) (Fin.of ⟨3 - (j + 1), by omega, j + 1, by omega, wrapS (by omega), rfl, ?_⟩)
      have E3 := E.pM (o' := rowO_int (takeL v.ts (landN (v.t + 1) v.ts s.s v.l j) (j : Nat) ((cellAt_int (landN (v.t + 1) v.ts s.s v.l j) (j : Nat)).1 + s.s.cr (j : Nat)) (v.t + 1))) 6 rfl
      have e : landN (v.t + 1) v.ts s.s v.l (j + 1) = takeL v.ts (landN (v.t + 1) v.ts s.s v.l j) (j : Nat) ((cellAt_int (landN (v.t + 1) v.ts s.s v.l j) (j : Nat)).1 + s.s.cr (j : Nat)) (v.t + 1) := by rw [landN, if_pos hg]
      rw [e]
      exact E3
    · refine ⟨3 - (j + 1), by omega, j + 1, by omega, wrapS (by omega), rfl, ?_⟩
      have e : landN (v.t + 1) v.ts s.s v.l (j + 1) = landN (v.t + 1) v.ts s.s v.l j := by rw [landN, if_neg (by omega)]
      rw [e]
      exact E
    · have hj3 : j = 3 := by omega
      subst hj3
      have o' : VOk (V.w r') (landV v s) := ⟨R', by rw [← S.o.c8]; exact apC_len _ _ _, S.o.f.apD _, S.o.k.land 3⟩
      exact hT hv r' _ ⟨Keep.dP (Keep.dP E), o', S.R, S.O, S.a.view o'.f⟩
structure DeedR where
  k : Int
  a : Int
  b : Int
  c : UInt8
def DeedR.cells (d : DeedR) : List Value := [.int .i64 d.k, .int .i64 d.a, .int .i64 d.b, .int .u8 ((d.c.toNat : Nat) : Int)]
end
end Go.Proofs.Ytgldgabefiialaa.H
namespace Go.Proofs.Ytgldgabefiialaa.H
open Go Go.RowKit
set_option linter.unusedVariables false
set_option maxRecDepth 100000
structure Pas (v : VV) (U : AU) (s : AV) : Prop where
  R : ERow U.rS U.vS s.rs
  O : U.x.Ok s.s
  a : AOk v s
section
variable {B : RO} {h0 h h' : Heap} {L M : List (Option (Nat × AObj))} {V : VI} {v : VV} {K K1 K2 : AK} {U U1 U2 : AU} {s s1 s2 : AV} {k : Nat} {i j : Int} {c : StV} {g : Reg4} {o o' : AObj} {y : Option (Nat × AObj)}
theorem Keep.swap {A X : List (Option (Nat × AObj))} (E : Keep B h0 (L ++ (A ++ X)) h) : Keep B h0 ((L ++ X) ++ A) h := by
  refine E.remap (fun j => if j < L.length then j else if j < L.length + X.length then j + A.length else j - X.length) (fun j y hj => ?_) (fun i j hi hj e => ?_)
  · have hl := (List.getElem?_eq_some_iff.1 hj).1
    rw [List.length_append, List.length_append] at hl
    by_cases h1 : j < L.length
    · simp only [if_pos h1]
      rw [List.append_assoc, List.getElem?_append_left h1] at hj
      rw [List.getElem?_append_left h1]; exact hj
    · simp only [if_neg h1]
      by_cases h2 : j < L.length + X.length
      · simp only [if_pos h2]
        rw [List.append_assoc, List.getElem?_append_right (by omega), List.getElem?_append_left (by omega)] at hj
        rw [List.getElem?_append_right (by omega), List.getElem?_append_right (by omega), show j + A.length - L.length - A.length = j - L.length by omega]; exact hj
      · simp only [if_neg h2]
        rw [List.getElem?_append_right (by rw [List.length_append]; omega), List.length_append] at hj
        rw [List.getElem?_append_right (by omega), List.getElem?_append_left (by omega), show j - X.length - L.length = j - (L.length + X.length) by omega]; exact hj
  · rw [List.length_append, List.length_append] at hi hj
    have e : (if i < L.length then i else if i < L.length + X.length then i + A.length else i - X.length) = (if j < L.length then j else if j < L.length + X.length then j + A.length else j - X.length) := e
    split at e <;> split at e <;> (try split at e) <;> (try split at e) <;> omega
theorem Keep.unswap {A X : List (Option (Nat × AObj))} (E : Keep B h0 ((L ++ X) ++ A) h) : Keep B h0 (L ++ (A ++ X)) h := by
  rw [List.append_assoc] at E
  rw [← List.append_assoc]
  exact E.swap
theorem Pas.view {v' : VV} (P : Pas v U s) (k : TomeOk v'.f) : Pas v' U s := ⟨P.R, P.O, P.a.view k⟩
theorem SS.pas (S : SS B h0 L h V v K U s) : Pas v U s := ⟨S.R, S.O, S.a⟩
theorem SS.of (E : Keep B h0 (L ++ (V.e v ++ AE V K U s)) h) (o : VOk V v) (P : Pas v U s) : SS B h0 L h V v K U s := ⟨E, o, P.R, P.O, P.a⟩
theorem SS.out (S : SS B h0 L h V v K U s) : Keep B h0 ((L ++ AE V K U s) ++ V.e v) h := S.E.swap
theorem SS.flip (S : SS B h0 (L ++ AE V K1 U1 s1) h V v K2 U2 s2) (P : Pas v U1 s1) : SS B h0 (L ++ AE V K2 U2 s2) h V v K1 U1 s1 := by
  refine .of ?_ S.o P
  have E := S.E
  rw [List.append_assoc] at E ⊢
  exact E.sM [16, 17, 18, 19, 20, 21, 22, 23, 24, 9, 10, 11, 12, 13, 14, 15, 0, 1, 2, 3, 4, 5, 6, 7, 8] (by decide)
theorem SS.drop2 {X : List (Option (Nat × AObj))} (S : SS B h0 (L ++ X) h V v K U s) : SS B h0 L h V v K U s := by
  refine .of ?_ S.o S.pas
  have E := S.E
  rw [List.append_assoc] at E
  exact E.dropMid
theorem alive20_wp {Q : Bool → Heap → Prop} (hQ : ∀ h', Keep B h [] h' → Q true h') : C_countermandlaw20_alive B h Q := by
  refine C_countermandlaw20_alive.of ?_
  unfold S_countermandlaw20_alive
  refine newview_wp fun V h2 o E1 => ?_
  refine anew_wp (L := []) (g := ⟨0, 0, 0, 0⟩) E1 o fun Ka Ua h4 Sa => ?_
  have Sa := Sa.drop2
  refine anew_wp (g := ⟨0, 0, 0, 0⟩) Sa.out o fun Kb Ub h6 Sb => ?_
  have Pa := Sa.pas
  have Sb := Sb.drop2
  have Pb := Sb.pas
  refine store_wp (Sb.flip Pa) fun Ua1 h8 Sa1 => ⟨fun _ => ?_, fun hn => absurd rfl hn⟩
  refine load_wp Sa1 (by decide) fun Ua2 h10 e2 Sa2 => ?_
  have Pa2 := Sa2.pas
  refine load_wp (Sa2.flip Pb) (by decide) fun Ub2 h13 e3 Sb2 => ⟨fun _ => ⟨fun _ => ?_, fun hn => absurd rfl hn⟩, fun hn => absurd rfl hn⟩
  refine land_wp (Sb2.flip Pa2) (by decide) (by decide) (fun _ r' h16 S => ⟨fun _ => ⟨_, rfl, _, S.E.cM 0 rfl (i := 3) rfl, Fin.of ?_⟩, fun e => by cases e⟩) (fun hv => absurd hv (by decide))
  exact hQ _ (by have := S.E.take 0; simpa using this)
end
end Go.Proofs.Ytgldgabefiialaa.H
namespace Go.Proofs.Ytgldgabefiialaa.H
open Go Go.RowKit
set_option linter.unusedVariables false
set_option maxRecDepth 100000
theorem landN_z {t : Int} {ts : List ByteArray} {c : StV} {l : List (Int × Int)} (h : ∀ i, c.cr i = 0) : ∀ j, landN t ts c l j = l
  | 0 => rfl
  | j + 1 => by rw [landN, if_neg (by rw [h]; omega)]; exact landN_z h j
theorem cr_z (d : List (Int × Int)) (f : DFL) (i : Int) : (StV.mk d f 0 0 0).cr i = 0 := by
  unfold StV.cr; (repeat' split) <;> rfl
theorem land_one (v : VV) (rs : List RE) (st : Int) (i x : Int) (g : Reg4) : landV v ⟨rs, st, ⟨[(i, x)], [], 0, 0, 0⟩, g⟩ = ⟨v.c.set i.toNat (x, v.t + 1), v.f, v.ts, v.l, v.t + 1⟩ := by
  unfold landV
  rw [landN_z (cr_z _ _)]; rfl
theorem ver_set {v : VV} {i x t : Int} {f : FL} {ts : List ByteArray} {l : List (Int × Int)} {t' : Int} (h8 : v.c.length = 8) (hi : inC i = true) (k : Int) : cellAt_int (v.c.set i.toNat (x, t)) k = if k = i then (x, t) else cellAt_int v.c k := by
  have := of_decide_eq_true hi
  exact cellAt_int_set this.1 (by rw [h8]; omega) _ _
section
variable {B : RO} {h0 h h' : Heap} {L M : List (Option (Nat × AObj))} {V : VI} {v : VV} {K K1 K2 : AK} {U U1 U2 : AU} {s s1 s2 : AV} {k : Nat} {i j : Int} {c : StV} {g : Reg4} {o o' : AObj} {y z : Option (Nat × AObj)}
end
end Go.Proofs.Ytgldgabefiialaa.H
namespace Go.Proofs.Ytgldgabefiialaa.H
open Go Go.RowKit
set_option linter.unusedVariables false
set_option maxRecDepth 100000
theorem TK.bints_sl : PG.underlying TY.s_int = some (.slice TY.int) := by kernel_rfl
theorem TK.bint_kd : leafB PG 5 TY.int = some [.int .i64] := by kernel_rfl
theorem Ints_arg {H : Type} {enc : TypeId × Value → H} {w : World} {base : Nat} {spare : Nat → Bool} {held : Bool} {a : Option Addr} {len cap : Nat} {d : DataW H} {p : List MemPlace} (h : DataW.Trod enc PG w base spare held TY.s_int (.slice a len cap) d p) :
    ∃ l : List Int, len = l.length ∧ Reads (roOf w) noHeap a 1 intC l ∧ ∀ x ∈ l, True :=
  arg_rows intC (fun _ => True) TK.bints_sl TK.bint_kd rfl (by omega) (fun vs h => by
    obtain ⟨z1, v1, rfl, _, h1⟩ := h.int
    obtain rfl := h1.nil
    exact ⟨z1, rfl, trivial⟩) h
theorem TK.slc_pa : slcB PG TY.s_p_attempt_Attempt = some (TY.p_attempt_Attempt, 1, 8) := by kernel_rfl
theorem TK.zero_pa : zeroB PG TY.p_attempt_Attempt = some [.pointer none] := by kernel_rfl
theorem TK.sl_pa : slT PG TY.s_p_attempt_Attempt = true := by kernel_rfl
structure AQ where
  K : AK
  U : AU
  x : Int
  t : Int
def AQ.s (i : Int) (q : AQ) : AV := ⟨[], q.t, ⟨[(i, q.x)], [], 0, 0, 0⟩, ⟨0, 0, 0, 0⟩⟩
def AQ.p (q : AQ) : List Value := [.pointer (some ⟨q.K.kA, 0, none⟩)]
theorem AQ.p_len (q : AQ) : q.p.length = 1 := rfl
theorem AQ.p_one (q : AQ) : ∀ y ∈ q.p, isOne y = true := by simp [AQ.p, isOne]
def AEs (V : VI) (i : Int) (qs : List AQ) : List (Option (Nat × AObj)) := qs.flatMap fun q => AE V q.K q.U (q.s i)
section
variable {B : RO} {h0 h h' : Heap} {L M : List (Option (Nat × AObj))} {V : VI} {v : VV} {K K1 K2 Ka Kb : AK} {U U1 U2 Ua Ub : AU} {s s1 s2 : AV} {k : Nat} {i j : Int} {c : StV} {g : Reg4} {o o' : AObj} {y z : Option (Nat × AObj)} {xs : List Int}
theorem Blind_J2 {a2 a13 : Option Addr} {c4 n14 c15 : Nat} {r : Option (Nat × AObj)} {qs : List AQ} {Q : Bool → Heap → Prop} (E : Keep B h0 (([r] ++ AEs V i qs) ++ V.e vz) h) (o : VOk V vz) (R : Row r (.slice a13 n14 c15) TY.p_attempt_Attempt 1 (qs.flatMap AQ.p)) (P : ∀ q ∈ qs, Pas vz q.U (q.s i)) (hi : inC i = true) (hx : qs.map AQ.x = xs) (hl : xs.length ≤ 20)
    (hr : ∀ h', Keep B h0 [] h' → Reads B h' a2 1 intC xs) (hQ : ∀ h', Keep B h0 [] h' → Q true h') : S_countermandlaw20_AttemptBlind_J2 B i a2 xs.length c4 (some ⟨V.kV, 0, none⟩) a13 n14 c15 h Q := by
  unfold S_countermandlaw20_AttemptBlind_J2
  obtain ⟨rfl, rd⟩ := Row.rd (B := B) R AQ.p_len (by omega)
  have hql : qs.length = xs.length := by rw [← hx, List.length_map]
  refine ⟨fun q m h' => ∃ (j : Nat) (rt : Option (Nat × AObj)) (v : VV), j ≤ qs.length ∧ q = j ∧ m = qs.length - j ∧ v.t = j ∧ VOk (V.w rt) v ∧ Keep B h0 (([r] ++ AEs V i (qs.drop j)) ++ (V.w rt).e v) h', qs.length, Fin.of ⟨0, V.rt, vz, by omega, rfl, rfl, rfl, o, E⟩, ?_⟩
  clear E
  rintro _ _ h18 ⟨j, rt, v, hj, rfl, rfl, hv, ov, E⟩
  refine ⟨fun hlt => ?_, fun hge => Fin.of (hQ _ (by have := E.take 0; simpa using this))⟩
  have hj' : j < qs.length := by omega
  have hg := List.getElem?_eq_getElem hj'
  have hd := List.drop_eq_getElem_cons hj'
  have hm := List.getElem_mem hj'
  have hxj : xs[j]? = some (qs[j]).x := by rw [← hx, List.getElem?_map, hg]; rfl
  generalize qs[j] = q at hg hd hm hxj
  obtain ⟨A, f1, _, f2⟩ := rd h18 (fun k o e => E.at 0 (by rw [List.append_assoc]; exact congrArg some e)) j q hg
  refine ⟨A, f1, by omega, by omega, _, by rw [Int.toNat_natCast]; exact f2.1, ?_⟩
  rw [hd] at E
  have E1 : Keep B h0 (([r] ++ AEs V i (qs.drop (j + 1))) ++ ((V.w rt).e v ++ AE (V.w rt) q.K q.U (q.s i))) h18 := by
    have := E.unswap
    rw [show AEs V i (q :: qs.drop (j + 1)) = AE (V.w rt) q.K q.U (q.s i) ++ AEs V i (qs.drop (j + 1)) from rfl, ← List.append_assoc ((V.w rt).e v)] at this
    exact this.swap
  have S : SS B h0 _ h18 (V.w rt) v q.K q.U (q.s i) := .of E1 ov ((P q hm).view ov.f)
  refine land_wp S (Nat.zero_le _) ⟨by omega, by omega⟩ (fun _ r' h37 S1 => ⟨fun _ => ?_, fun e => by cases e⟩) (fun hF => absurd (show true = false from hF) (by decide))
  rw [show q.s i = ⟨[], q.t, ⟨[(i, q.x)], [], 0, 0, 0⟩, ⟨0, 0, 0, 0⟩⟩ from rfl, land_one] at S1
  have hc := ver_set (v := v) (x := q.x) (t := v.t + 1) (f := []) (ts := []) (l := []) (t' := 0) ov.c8 hi
  refine ⟨_, rfl, v.t + 1, S1.E.cM 0 rfl (i := 3) rfl, fun _ => Fin.of ?_, fun hne => absurd (by rw [hv, wrapS (by omega)]; omega) hne⟩
  unfold S_countermandlaw20_AttemptBlind_J3
  refine ⟨_, rfl, _, S1.E.cM 0 rfl (i := 0) rfl, get_wp_int (rowO_int_v (S1.E.gM 1 rfl)) ?_⟩
  simp only [hc, if_true]
  obtain ⟨A2, f3, _, f4⟩ := hr h37 (by have := S1.E.take 0; simpa using this) j q.x hxj
  refine ⟨A2, f3, by omega, by omega, q.x, by rw [Int.toNat_natCast]; exact f4.1, fun _ => ⟨fun _ => Fin.of ?_, fun hne => absurd (by rw [hv, wrapS (by omega)]; omega) hne⟩, fun hne => absurd rfl hne⟩
  exact ⟨qs.length - (j + 1), by omega, j + 1, r', _, by omega, wrapS (by omega), rfl, by show v.t + 1 = _; rw [hv]; omega, S1.o, S1.E.tM 7⟩
theorem AttemptBlind_wp {a : Option Addr} {cc : Nat} {Q : Bool → Heap → Prop} (hr : Reads B h a 1 intC xs) (hQ : ∀ h', Keep B h [] h' → Q true h') : C_countermandlaw20_AttemptBlind B i a xs.length cc h Q := by
  refine C_countermandlaw20_AttemptBlind.of ?_
  unfold S_countermandlaw20_AttemptBlind
  refine alive20_wp fun h6 E0 => ⟨fun _ => ?_, fun e => by cases e⟩
  have out := hQ _ E0
  refine ⟨fun _ => Fin.of out, fun hn => ⟨fun _ => Fin.of out, fun h1 => ⟨fun _ => Fin.of out, fun h2 => Fin.of ?_⟩⟩⟩
  clear out
  have hi : inC i = true := decide_eq_true (by omega)
  have hr' : ∀ h', Keep B h [] h' → Reads B h' a 1 intC xs := fun h' E j x hx => by
    obtain ⟨A, f1, f2, f3⟩ := hr j x hx
    exact ⟨A, f1, fun hn => f2 (by
      cases hh : h A.block with
      | none => rfl
      | some o => rw [E.le _ _ hh] at hn; cases hn), E.w.cells f3⟩
  unfold S_countermandlaw20_AttemptBlind_J1
  refine newview_wp fun V h10 o E1 => ?_
  have E2 : Keep B h ([none] ++ AEs V i [] ++ V.e vz) h10 := by
    have := (E0.append E1).gap
    have E3 : Keep B h ([] ++ (V.e vz ++ [none])) h10 := this
    exact E3.swap
  refine ⟨fun a42 n43 c44 q m h' => ∃ (j : Nat) (r : Option (Nat × AObj)) (qs : List AQ), j ≤ xs.length ∧ q = j ∧ m = xs.length - j ∧ qs.map AQ.x = xs.take j ∧ (∀ q ∈ qs, Pas vz q.U (q.s i)) ∧ Row r (.slice a42 n43 c44) TY.p_attempt_Attempt 1 (qs.flatMap AQ.p) ∧ Keep B h ([r] ++ AEs V i qs ++ V.e vz) h', xs.length, Fin.of ⟨0, none, [], by omega, rfl, rfl, rfl, fun q hq => (by cases hq), Row.nil _ _, E2⟩, ?_⟩
  clear E0 E1 E2
  rintro a42 n43 c44 _ _ h46 ⟨j, r, qs, hj, rfl, rfl, hq, P, R, E⟩
  have hql : qs.length = j := by have := congrArg List.length hq; rw [List.length_map, List.length_take] at this; omega
  refine ⟨fun hlt => ?_, fun hge => Fin.of ?_⟩
  · have hj' : j < xs.length := by omega
    have hx := List.getElem?_eq_getElem hj'
    have htk := List.take_succ_eq_append_getElem hj'
    generalize xs[j] = x at hx htk
    obtain ⟨A, f1, _, f3⟩ := hr' h46 (by have := E.take 0; simpa using this) j x hx
    refine ⟨A, f1, by omega, by omega, x, by rw [Int.toNat_natCast]; exact f3.1, ?_⟩
    refine anew_wp (g := ⟨0, 0, 0, 0⟩) E o fun K U h54 S => ?_
    refine store_wp S.drop2 fun U1 h56 S1 => ?_
    have e1 : storeA (s0 vz ⟨0, 0, 0, 0⟩) i x = (AQ.s i ⟨K, U1, x, 0⟩, 0) := by unfold storeA; rw [if_pos hi]; rfl
    rw [e1] at S1
    intro k58 a58 b58 h59 e59
    have S2 := S1.nP a58 b58 e59
    obtain ⟨rfl, -⟩ := Row.rd (B := B) R AQ.p_len (by omega)
    have hfl := flatMap_length AQ.p_len qs
    have hp : ∀ {N : List (Option (Nat × AObj))} {N' : List (Option (Nat × AObj))}, (([r] ++ AEs V i qs ++ N) ++ N')[0]? = some r := fun {N N'} => rfl
    refine S2.E.pushS 0 (n := 1) (ys := AQ.p ⟨K, U1, x, 0⟩) hp R TK.slc_pa TK.zero_pa rfl (by omega) (by omega) TK.sl_pa ⟨rfl, AQ.p_one _, .inl ⟨_, _, rfl, cellH_vec S2.gP rfl, trivial⟩⟩ (by rw [hfl, AQ.p_len]; omega) fun a' m' c' r' h61 R' E3 => ?_
    have E4 : Keep B h (([r'] ++ AEs V i qs ++ [some (k58, .vec TY.p_attempt_Attempt (plains [.pointer (some ⟨K.kA, 0, none⟩)]) 1)]) ++ (V.e vz ++ AE V K U1 (AQ.s i ⟨K, U1, x, 0⟩))) h61 := E3
    refine ⟨a', m', c', rfl, Fin.of ⟨xs.length - (j + 1), by omega, j + 1, r', qs ++ [⟨K, U1, x, 0⟩], by omega, wrapS (by omega), rfl, ?_, ?_, ?_, ?_⟩⟩
    · rw [List.map_append, hq, htk]; rfl
    · intro q hq
      rcases List.mem_append.1 hq with hq | hq
      · exact P q hq
      · simp only [List.mem_singleton] at hq
        subst hq
        exact S1.pas
    · rw [List.flatMap_append]; exact R'
    · have E5 := (Keep.dP E4).swap
      unfold AEs
      rw [List.flatMap_append]
      rw [List.append_assoc [r']] at E5
      exact E5
  · have hjn : j = xs.length := by omega
    subst hjn
    rw [List.take_length] at hq
    exact Blind_J2 E o R P hi hq (by omega) hr' hQ
end
theorem AttemptBlind_calls {H : Type} {enc : TypeId × Value → H} (W : World) (i : Int) (wi : (Lit.int .i64 i).wf = true) {a : Option Addr} {len cap : Nat} {d2 : DataW H} {p2 : List MemPlace} (k2 : DataW.Trod enc PG W 0 (fun _ => true) true TY.s_int (.slice a len cap) d2 p2) :
    Calls PG FN.countermandlaw20_AttemptBlind #[.int .i64 i, .slice a len cap] W fun e w' => e = .returned (.bool true) ∧ Below W.heap.size W w' := by
  obtain ⟨xs, rfl, hr, _⟩ := Ints_arg k2
  refine Spec.calls (Spec.mono (AttemptBlind_wp (Q := fun b _ => b = true) (cc := cap) hr fun _ _ => rfl) ?_)
  rintro v h' ⟨b, rfl, rfl⟩
  rfl
end Go.Proofs.Ytgldgabefiialaa.H
