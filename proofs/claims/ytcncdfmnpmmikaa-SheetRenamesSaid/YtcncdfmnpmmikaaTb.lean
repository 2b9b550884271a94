/- Tomes: all files, and the bytes: contracts. No condition. -/
import Derived.Test.YtcncdfmnpmmikaaTa
import Derived.Test.YtcncdfmnpmmikaaKa
namespace Go.Proofs.Ytcncdfmnpmmikaa.H
open Go
set_option linter.unusedVariables false
set_option maxRecDepth 100000

/-- All of a row, and those that are there. -/
def allF (l : List (FileS × Int)) : List (Int × Bool × ByteArray) := l.zipIdx.map fun p => ((p.2 : Int), p.1.1.1, p.1.1.2)
def filesOf (l : List (FileS × Int)) : List (Int × Bool × ByteArray) := (allF l).filter fun x => x.2.1
def encF (x : Int × Bool × ByteArray) : List Value := [.int .i64 x.1, .agg #[.bool x.2.1, .string x.2.2]]
theorem allF_len (l : List (FileS × Int)) : (allF l).length = l.length := by simp [allF]
theorem allF_get (l : List (FileS × Int)) (i : Nat) : (allF l)[i]? = (l[i]?).map fun x => ((i : Int), x.1.1, x.1.2) := by
  simp [allF, List.getElem?_zipIdx]
  cases l[i]? <;> simp
theorem filter_at {α : Type} (f : α → Bool) : ∀ (l : List α) (q : Nat) (x : α), l[q]? = some x → f x = true → (l.filter f)[((l.take q).filter f).length]? = some x
  | [], q, x, h, _ => by simp at h
  | y :: l, 0, x, h, hf => by
    simp at h; subst h
    simp [List.filter_cons, hf]
  | y :: l, q + 1, x, h, hf => by
    have ih := filter_at f l q x (by simpa using h) hf
    by_cases hy : f y = true
    · simp only [List.take_succ_cons, List.filter_cons, hy, if_true, List.length_cons, List.getElem?_cons_succ]; exact ih
    · simp only [List.take_succ_cons, List.filter_cons, hy, if_false]; exact ih
theorem filter_step {α : Type} (f : α → Bool) (l : List α) (q : Nat) (x : α) (h : l[q]? = some x) : ((l.take (q + 1)).filter f).length = ((l.take q).filter f).length + (if f x = true then 1 else 0) := by
  obtain ⟨hq, rfl⟩ := List.getElem?_eq_some_iff.1 h
  rw [List.take_succ_eq_append_getElem hq, List.filter_append, List.length_append]
  congr 1
  by_cases hf : f l[q] = true
  · simp [List.filter_cons, hf]
  · simp [List.filter_cons, hf]
def fallF (k3 : Nat) : Value := Value.func (.func FN.cell_Row_file_File_All_1) #[] #[(Value.pointer (some ⟨k3, 0, none⟩))]
def tallF (k3 : Nat) : Value := Value.func (.func FN.tome_Tome_All_1) #[] #[(Value.pointer (some ⟨k3, 0, none⟩))]
theorem NilOK.one {y : Value} (h : NilOK y) : isOne y = true := by
  rcases h with ⟨g, a, b, rfl⟩ | ⟨l, a, b, rfl⟩ <;> rfl
theorem plain1 (t : TypeId) (v : Value) : PlainO (.vec t [.plain v] 1) := ⟨t, [v], 1, rfl⟩

section
variable {B : RO} {h0 h h' : Heap} {L : List (Option (Nat × AObj))} {r : Option (Nat × AObj)} {i kT kR k3 m c : Nat} {a : Option Addr} {v : Value} {l : List (FileS × Int)}
/-- What an iteration over a row must see. -/
def fG (k3 kR : Nat) (v : Value) (r : Option (Nat × AObj)) (h : Heap) : Prop :=
  h k3 = some (.vec TY.p_cell_Row_file_File [.plain (.pointer (some ⟨kR, 0, none⟩))] 1) ∧ h kR = some (frO v) ∧ ∀ k o, r = some (k, o) → h k = some o
theorem fG_ins : Ins (fG k3 kR v r) := by
  rintro h k o hk ⟨g1, g2, g3⟩
  exact ⟨Heap.get_new hk g1, Heap.get_new hk g2, fun k' o' e => Heap.get_new hk (g3 k' o' e)⟩
theorem fall_wp {p : Option Addr} {Q : Value → Heap → Prop} (hQ : ∀ k, h k = none → B k = none → Q (fallF k) (h.set k (.vec TY.p_cell_Row_file_File [.plain (.pointer p)] 1))) : C_cell_Row_file_File_All B p h Q := by
  refine C_cell_Row_file_File_All.of ?_
  unfold S_cell_Row_file_File_All
  intro k a1 b1 h4 e4
  subst e4
  exact Fin.of (hQ k a1 b1)
theorem fall_iter (R : FRow r v l) (hlen : l.length ≤ 100000) : Iter PG B (fallF k3) ((allF l).map encF) (fG k3 kR v r) := by
  refine ⟨_, _, _, rfl, TG.cell_Row_file_File_All_1, fun y J X h hy hG h0 hcall => ?_⟩
  have main : C_cell_Row_file_File_All_1 B y ⟨k3, 0, none⟩ h (fun h' => Fin B h' (fun h'' => J ((allF l).map encF).length h'' ∨ X h'')) := by
    refine C_cell_Row_file_File_All_1.of ?_
    unfold S_cell_Row_file_File_All_1
    obtain ⟨a, m, c, rfl⟩ := Row.slice R
    obtain ⟨rfl, hrd⟩ := Row.rd (B := B) R slotF_len (by omega)
    obtain ⟨g1, g2, g3⟩ := hG 0 h h0
    refine ⟨_, cellH_vec g1 rfl, fun e => (by cases e), fun _ => ⟨_, cellH_vec g1 rfl, _, rfl, .inl ⟨a, _, c, cellH_vec g2 rfl, ?_⟩⟩⟩
    refine ⟨fun i m' h' => ∃ j : Nat, j ≤ l.length ∧ i = j ∧ m' = l.length - j ∧ J j h', l.length, Fin.of ⟨0, by omega, rfl, by omega, h0⟩, ?_⟩
    rintro _ _ h13 ⟨j, hj, rfl, rfl, hJ⟩
    obtain ⟨g1, g2, g3⟩ := hG j h13 hJ
    refine ⟨fun hlt => ?_, fun hge => Fin.of ?_⟩
    · have hj' : j < l.length := by omega
      obtain ⟨A, e, _, q⟩ := hrd h13 g3 j _ (List.getElem?_eq_getElem hj')
      refine ⟨A, e, by omega, hlt, l[j].1.1, l[j].1.2, l[j].2, q, fun k24 a24 b24 h25 e25 => ?_⟩
      obtain ⟨g25, l25, -⟩ := Heap.made a24 e25
      refine ⟨_, stores_whole g25 rfl (by simp) (by simp [isOne]) (by simp), ?_⟩
      generalize e26 : h25.set k24 _ = h26
      obtain ⟨g26, -, -⟩ := Heap.put e26
      refine ⟨_, _, ⟨cellH_vec g26 rfl, cellH_vec g26 rfl, trivial⟩, ?_⟩
      have w : Wk B h13 h26 := by
        rw [← e26, e25, Heap.set_set]; exact Wk.new a24 b24
      have hc := hcall j h13 (encF ((j : Int), l[j].1.1, l[j].1.2)) (by
        rw [List.getElem?_map, allF_get, List.getElem?_eq_getElem hj']; rfl) hJ
      refine CallV.mono ?_ (hc.weaken w)
      rintro v h27 ⟨h28, t1, h29, t2, hor⟩
      rcases hor with ⟨rfl, hJ'⟩ | ⟨rfl, hX⟩
      · refine ⟨true, rfl, fun _ => ⟨h29, t1.trans t2, l.length - (j + 1), by omega, j + 1, by omega, ?_, rfl, hJ'⟩, fun e => by cases e⟩
        rw [w64 (by omega) (by omega)]; omega
      · exact ⟨false, rfl, fun e => (by cases e), fun _ => ⟨h29, t1.trans t2, Fin.of (.inr hX)⟩⟩
    · have : j = l.length := by omega
      subst this
      refine Fin.of (.inl ?_)
      rw [List.length_map, allF_len]
      exact hJ
  exact Spec.mono main fun v h' q => q.2
/-- What an iteration over a tome must see. -/
def tG (k3 kT kR : Nat) (v : Value) (r : Option (Nat × AObj)) (h : Heap) : Prop :=
  h k3 = some (.vec TY.p_tome_Tome [.plain (.pointer (some ⟨kT, 0, none⟩))] 1) ∧ h kT = some (tomO kR) ∧ h kR = some (frO v) ∧ ∀ k o, r = some (k, o) → h k = some o
theorem tG_ins : Ins (tG k3 kT kR v r) := by
  rintro h k o hk ⟨g1, g2, g3, g4⟩
  exact ⟨Heap.get_new hk g1, Heap.get_new hk g2, Heap.get_new hk g3, fun k' o' e => Heap.get_new hk (g4 k' o' e)⟩
theorem tall_wp {p : Option Addr} {Q : Value → Heap → Prop} (hQ : ∀ k, h k = none → B k = none → Q (tallF k) (h.set k (.vec TY.p_tome_Tome [.plain (.pointer p)] 1))) : C_tome_Tome_All B p h Q := by
  refine C_tome_Tome_All.of ?_
  unfold S_tome_Tome_All
  intro k a1 b1 h4 e4
  subst e4
  exact Fin.of (hQ k a1 b1)
theorem tall_iter (R : FRow r v l) (hlen : l.length ≤ 100000) : Iter PG B (tallF k3) ((filesOf l).map encF) (tG k3 kT kR v r) := by
  refine ⟨_, _, _, rfl, TG.tome_Tome_All_1, fun y J X h hy hG h0 hcall => ?_⟩
  have main : C_tome_Tome_All_1 B y ⟨k3, 0, none⟩ h (fun h' => Fin B h' (fun h'' => J ((filesOf l).map encF).length h'' ∨ X h'')) := by
    refine C_tome_Tome_All_1.of ?_
    unfold S_tome_Tome_All_1
    obtain ⟨g1, g2, g3, g4⟩ := hG 0 h h0
    refine ⟨hy.one, fun ky ay by' h4 e4 => ?_⟩
    obtain ⟨tyY, e4⟩ : ∃ ty, h4 = h.set ky (.vec ty [.plain y] 1) := ⟨_, e4⟩
    obtain ⟨gy, ly, fy⟩ := Heap.made ay e4
    refine ⟨_, cellH_vec (ly _ _ g1) rfl, fun e => (by cases e), fun _ => ⟨_, cellH_vec (ly _ _ g1) rfl, _, rfl, _, cellH_vec (ly _ _ g2) rfl, fall_wp fun kc ac bc => ?_⟩⟩
    have hky : kc ≠ ky := Heap.ne_of ac gy
    have it := fall_iter (B := B) (k3 := kc) (kR := kR) R hlen
    let cnt : Nat → Nat := fun q => (((allF l).take q).filter fun x => x.2.1).length
    refine ⟨allF l, fG kc kR v r, fun q h' => ∃ hu, hu ky = none ∧ hu kc = none ∧ h' = (hu.set ky (.vec tyY [.plain y] 1)).set kc (.vec TY.p_cell_Row_file_File [.plain (.pointer (some ⟨kR, 0, none⟩))] 1) ∧ J (cnt q) hu, it, fG_ins, ?_, Fin.of ⟨h, ay, ?_, by rw [e4], h0⟩, ?_, ?_⟩
    · rintro q h' ⟨hu, n1, n2, rfl, hJ⟩
      obtain ⟨u1, u2, u3, u4⟩ := hG _ hu hJ
      have up : ∀ {b : Nat} {o : AObj}, hu b = some o → ((hu.set ky (.vec tyY [.plain y] 1)).set kc (.vec TY.p_cell_Row_file_File [.plain (.pointer (some ⟨kR, 0, none⟩))] 1)) b = some o := fun hb =>
        Heap.get_new (by rw [Heap.set_ne _ _ _ _ hky]; exact n2) (Heap.get_new n1 hb)
      exact ⟨Heap.set_same _ _ _, up u3, fun k o e => up (u4 k o e)⟩
    · rw [e4, Heap.set_ne _ _ _ _ hky] at ac; exact ac
    · rintro q h17 i13 b14 s15 hg ⟨hu, n1, n2, rfl, hJ⟩
      have n2' : (hu.set ky (.vec tyY [.plain y] 1)) kc = none := by rw [Heap.set_ne _ _ _ _ hky]; exact n2
      generalize e17 : (hu.set ky (.vec tyY [.plain y] 1)).set kc (.vec TY.p_cell_Row_file_File [.plain (.pointer (some ⟨kR, 0, none⟩))] 1) = h17
      intro k21 a21 b21 h22 e22
      obtain ⟨g22, -, -⟩ := Heap.made a21 e22
      refine ⟨_, stores_whole g22 rfl (by simp) (by simp [isOne]) (by simp), ?_⟩
      generalize e23 : h22.set k21 _ = h23
      obtain ⟨g23, -, -⟩ := Heap.put e23
      have w : Wk B h17 h23 := by
        rw [← e23, e22, Heap.set_set]; exact Wk.new a21 b21
      have st := filter_step (fun x : Int × Bool × ByteArray => x.2.1) (allF l) q _ hg
      have gky : h17 ky = some (.vec tyY [.plain y] 1) := by
        rw [← e17, Heap.set_ne _ _ _ _ (Ne.symm hky), Heap.set_same]
      refine ⟨b14, cellH_vec g23 rfl, fun hb => ?_, fun hb => ?_⟩
      · subst hb
        refine ⟨y, cellH_vec (w.1 _ _ gky) rfl, _, _, ⟨cellH_vec g23 rfl, cellH_vec g23 rfl, trivial⟩, ?_⟩
        have hat := filter_at (fun x : Int × Bool × ByteArray => x.2.1) (allF l) q _ hg rfl
        have hc := hcall (cnt q) hu (encF (i13, true, s15)) (by
          show ((filesOf l).map encF)[cnt q]? = _
          rw [List.getElem?_map]
          show Option.map encF ((allF l).filter fun x => x.2.1)[cnt q]? = _
          rw [hat]; rfl) hJ
        have h1 := hc.frame1 (ob := .vec tyY [.plain y] 1) n1 by' (plain1 _ _)
        have h2 := h1.frame1 (ob := .vec TY.p_cell_Row_file_File [.plain (.pointer (some ⟨kR, 0, none⟩))] 1) n2' bc (plain1 _ _)
        rw [e17] at h2
        refine CallV.mono ?_ (h2.weaken w)
        rintro v h27 ⟨h28, t1, hx, x1, rfl, hz, z1, rfl, h29, t2, hor⟩
        have z2 : hz kc = none := by rw [Heap.set_ne _ _ _ _ hky] at x1; exact x1
        have lift : Ent B h27 ((h29.set ky (.vec tyY [.plain y] 1)).set kc (.vec TY.p_cell_Row_file_File [.plain (.pointer (some ⟨kR, 0, none⟩))] 1)) :=
          t1.trans (Ent.frame1 x1 bc (plain1 _ _) (Ent.frame1 z1 by' (plain1 _ _) t2))
        have w1 : h29 ky = none := t2.1 _ z1
        have w2 : h29 kc = none := t2.1 _ z2
        have drop : Ent B ((h29.set ky (.vec tyY [.plain y] 1)).set kc (.vec TY.p_cell_Row_file_File [.plain (.pointer (some ⟨kR, 0, none⟩))] 1)) h29 := Ent.forget fun b o hb =>
          Heap.get_new (by rw [Heap.set_ne _ _ _ _ hky]; exact w2) (Heap.get_new w1 hb)
        rcases hor with ⟨rfl, hJ'⟩ | ⟨rfl, hX⟩
        · refine ⟨true, rfl, fun _ => ⟨_, lift, h29, w1, w2, rfl, ?_⟩, fun e => by cases e⟩
          have : cnt (q + 1) = cnt q + 1 := st
          rw [this]; exact hJ'
        · exact ⟨false, rfl, fun e => (by cases e), fun _ => ⟨h29, lift.trans drop, Fin.of (.inr hX)⟩⟩
      · subst hb
        have hf : Ent B h23 h17 := Ent.forget w.1
        refine ⟨h17, hf, hu, n1, n2, e17.symm, ?_⟩
        have : cnt (q + 1) = cnt q := st
        rw [this]; exact hJ
    · rintro h17 ⟨hu, n1, n2, rfl, hJ⟩
      have drop : Ent B ((hu.set ky (.vec tyY [.plain y] 1)).set kc (.vec TY.p_cell_Row_file_File [.plain (.pointer (some ⟨kR, 0, none⟩))] 1)) hu := Ent.forget fun b o hb =>
        Heap.get_new (by rw [Heap.set_ne _ _ _ _ hky]; exact n2) (Heap.get_new n1 hb)
      refine ⟨hu, drop, Fin.of (.inl ?_)⟩
      have e : cnt (allF l).length = ((filesOf l).map encF).length := by
        show (((allF l).take (allF l).length).filter _).length = _
        rw [List.take_length, List.length_map]; rfl
      rw [← e]; exact hJ
  exact Spec.mono main fun v h' q => q.2
end
end Go.Proofs.Ytcncdfmnpmmikaa.H
