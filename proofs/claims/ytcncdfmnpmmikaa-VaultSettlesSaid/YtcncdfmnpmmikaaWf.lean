/- Logs: contracts. No condition. -/
import Derived.Test.YtcncdfmnpmmikaaWe
namespace Go.Proofs.Ytcncdfmnpmmikaa.H
open Go
set_option linter.unusedVariables false
set_option maxRecDepth 100000

def walO (kD : Nat) (area : Int) (sz : Nat) (torn : Bool) : AObj := .vec TY.wal_Log (plains [.pointer (some ⟨kD, 0, none⟩), .int .i64 area, .int .i64 (sz : Nat), .bool torn]) 4
def tornOf (b : List UInt8) : Bool := decide (wholeL b < b.length)
theorem setD_get {L : List (Option (Nat × AObj))} {i kD k j : Nat} {cs : List Chg} {v : Value} {r : Option (Nat × AObj)} (h1 : j ≠ i) (h2 : j ≠ i + 1) : (setD L i kD cs k v r)[j]? = L[j]? := by
  unfold setD
  rw [List.getElem?_set_ne (Ne.symm h2), List.getElem?_set_ne (Ne.symm h1)]
theorem NilOK.isOne {y : Value} (h : NilOK y) : isOne y = true := by
  rcases h with ⟨g, a, b, rfl⟩ | ⟨l, a, b, rfl⟩ <;> rfl
theorem plainOne (t : TypeId) (v : Value) : PlainO (.vec t [.plain v] 1) := ⟨t, [v], 1, rfl⟩

section
variable {B : RO} {h0 h h' : Heap} {L : List (Option (Nat × AObj))} {r : Option (Nat × AObj)} {i j kD kR kl k sz : Nat} {v : Value} {cs : List Chg} {area : Int} {torn : Bool}
theorem dread0 {a : Int} {Q : ByteArray → Heap → Prop} (g : h kD = some (dskO cs k v)) (ha : a = 0 ∨ a = 1) (hQ : Q (textD a cs) h) : C_disk_Disk_Read B (some ⟨kD, 0, none⟩) a h Q := by
  refine C_disk_Disk_Read.of ?_
  unfold S_disk_Disk_Read
  refine ⟨fun e => (by cases e), fun _ => dgood_wp ⟨fun _ => Fin.of ?_, fun e => absurd ha (by simpa using e)⟩⟩
  unfold S_disk_Disk_Read_J1
  rcases ha with rfl | rfl
  · exact ⟨_, rfl, by omega, by omega, _, by rw [addr_more]; exact cellH_vec g rfl, Fin.of hQ⟩
  · exact ⟨_, rfl, by omega, by omega, _, by rw [addr_more]; exact cellH_vec g rfl, Fin.of hQ⟩
theorem walopen_nil {Q : Option Addr → Int → Heap → Prop} (hQ : Q none 2 h) : C_wal_Open B none area h Q := by
  refine C_wal_Open.of ?_
  unfold S_wal_Open
  exact ⟨fun _ => Fin.of hQ, fun e => absurd rfl e⟩
theorem walopen_bad {A : Addr} {Q : Option Addr → Int → Heap → Prop} (ha : ¬ (area = 0 ∨ area = 1)) (hQ : Q none 1 h) : C_wal_Open B (some A) area h Q := by
  refine C_wal_Open.of ?_
  unfold S_wal_Open
  exact ⟨fun e => (by cases e), fun _ => ⟨fun e => absurd (.inl e) ha, fun _ => ⟨fun e => absurd (.inr e) ha, fun _ => Fin.of hQ⟩⟩⟩
theorem walopen_wp {Q : Option Addr → Int → Heap → Prop} (E : Keep B h0 L h) (A : DAt L i kD cs k v r) (ha : area = 0 ∨ area = 1) (ok : DOk cs)
    (hQ : ∀ kl h', Keep B h0 (L ++ [some (kl, walO kD area (wholeL (bl (textD area cs))) (tornOf (bl (textD area cs))))]) h' → Q (some ⟨kl, 0, none⟩) 0 h') : C_wal_Open B (some ⟨kD, 0, none⟩) area h Q := by
  refine C_wal_Open.of ?_
  unfold S_wal_Open
  have hz := ok.size area
  have main : S_wal_Open_J1 B (some ⟨kD, 0, none⟩) area h Q := by
    unfold S_wal_Open_J1
    refine dread_wp E A ha (whole_wp (by omega) fun k11 a11 b11 h12 e12 => Fin.of (hQ k11 h12 ?_))
    have e : decide (((wholeL (bl (textD area cs)) : Nat) : Int) < (((textD area cs).size : Nat) : Int)) = tornOf (bl (textD area cs)) := by
      unfold tornOf
      rw [decide_eq_decide, bl_length]; omega
    rw [e] at e12
    exact E.made a11 b11 e12
  refine ⟨fun e => (by cases e), fun _ => ⟨fun _ => Fin.of main, fun e0 => ⟨fun _ => Fin.of main, fun e1 => absurd ha (fun hh => hh.elim e0 e1)⟩⟩⟩
theorem walappend_wp {s : ByteArray} {Q : Int → Heap → Prop} (E : Keep B h0 L h) (A : DAt L i kD cs k v r) (hj : L[j]? = some (some (kl, walO kD area sz torn))) (n1 : j ≠ i) (n2 : j ≠ i + 1) (R : CRow r v (cs.drop k)) (hk : k ≤ cs.length) (ok : DOk cs) (hl : cs.length ≤ 100000) (hs : s.size ≤ 1000000000) (hsz : sz ≤ 16384) (ha : area = 0 ∨ area = 1)
    (hL : 1024 < s.size → Q 3 h) (hT : s.size ≤ 1024 → torn = true → Q 9 h) (hF : s.size ≤ 1024 → torn = false → 16384 < (textD area cs).size + (closeL (bl s)).length → Q 6 h)
    (hQ : s.size ≤ 1024 → torn = false → (textD area cs).size + (closeL (bl s)).length ≤ 16384 → ∀ v' r' h', CRow r' v' ((cs ++ [Chg.mk area false (ba (closeL (bl s)))]).drop k) → Keep B h0 ((setD L i kD (cs ++ [Chg.mk area false (ba (closeL (bl s)))]) k v' r').set j (some (kl, walO kD area (sz + (closeL (bl s)).length) torn))) h' → Q 0 h') : C_wal_Log_Append B (some ⟨kl, 0, none⟩) s h Q := by
  refine C_wal_Log_Append.of ?_
  unfold S_wal_Log_Append
  refine ⟨fun e => (by cases e), fun _ => ⟨fun hgt => Fin.of (hL (by omega)), fun hle => ⟨_, rfl, torn, E.cellA j (m := 0) hj rfl, fun ht => Fin.of (hT (by omega) ht), fun ht => Fin.of ?_⟩⟩⟩
  unfold S_wal_Log_Append_J1
  have hcl : (closeL (bl s)).length = s.size + 6 := by rw [closeL_len (by rw [bl_length]; omega), bl_length]
  have hbs : (ba (closeL (bl s))).size = (closeL (bl s)).length := ba_size _
  refine wclose_wp (by omega) ⟨_, rfl, _, E.cell j hj rfl, _, rfl, area, E.cellA j (m := 0) hj rfl, ?_⟩
  refine dappend_wp E A R hk ok hl (by omega) (fun hn => absurd ha hn) (fun _ hf => ?_) (fun _ hf v' r' h' R' E' => ?_)
  · exact ⟨E.cell j hj rfl, E.cellA j (m := 0) hj rfl, fun e => (by cases e), fun _ => Fin.of (hF (by omega) ht (by omega))⟩
  · have hj' : (setD L i kD (cs ++ [Chg.mk area false (ba (closeL (bl s)))]) k v' r')[j]? = some (some (kl, walO kD area sz torn)) := by rw [setD_get n1 n2]; exact hj
    have hw : IntKind.wrap .i64 ((sz : Int) + (((ba (closeL (bl s))).size : Nat) : Int)) = ((sz + (closeL (bl s)).length : Nat) : Int) := by rw [hbs, w64 (by omega) (by omega)]; omega
    obtain ⟨es, E2⟩ := E'.storeA j 0 2 (.int .i64 ((sz + (closeL (bl s)).length : Nat) : Int)) hj' rfl
    refine ⟨E'.cell j hj' rfl, E'.cellA j (m := 0) hj' rfl, fun _ => ⟨_, rfl, sz, E'.cellA j (m := 0) hj' rfl, _, rfl, _, by rw [hw]; exact es, Fin.of (hQ (by omega) ht (by omega) v' r' _ R' E2)⟩, fun e => absurd rfl e⟩
theorem walappend_nil {s : ByteArray} {Q : Int → Heap → Prop} (hQ : Q 2 h) : C_wal_Log_Append B none s h Q := by
  refine C_wal_Log_Append.of ?_
  unfold S_wal_Log_Append
  exact ⟨fun _ => Fin.of hQ, fun e => absurd rfl e⟩
theorem walforce_wp {Q : Heap → Prop} (E : Keep B h0 L h) (A : DAt L i kD cs k v r) (hj : L[j]? = some (some (kl, walO kD area sz torn))) (R : CRow r v (cs.drop k)) (hk : k ≤ cs.length) (ok : DOk cs) (hl : cs.length ≤ 100000)
    (hQ : ∀ h', Keep B h0 (setD L i kD cs cs.length (.slice none 0 0) none) h' → Q h') : C_wal_Log_Force B (some ⟨kl, 0, none⟩) h Q := by
  refine C_wal_Log_Force.of ?_
  unfold S_wal_Log_Force
  exact ⟨fun e => (by cases e), fun _ => ⟨_, rfl, _, E.cell j hj rfl, dsync_wp E A R hk ok hl fun h' E' => Fin.of (hQ h' E')⟩⟩
theorem walforce_nil {Q : Heap → Prop} (hQ : Q h) : C_wal_Log_Force B none h Q := by
  refine C_wal_Log_Force.of ?_
  unfold S_wal_Log_Force
  exact ⟨fun _ => Fin.of hQ, fun e => absurd rfl e⟩
theorem walclear_wp {Q : Heap → Prop} (E : Keep B h0 L h) (A : DAt L i kD cs k v r) (hj : L[j]? = some (some (kl, walO kD area sz torn))) (n1 : j ≠ i) (n2 : j ≠ i + 1) (R : CRow r v (cs.drop k)) (hk : k ≤ cs.length) (hl : cs.length ≤ 100000) (ha : area = 0 ∨ area = 1)
    (hQ : ∀ v' r' h', CRow r' v' ((cs ++ [Chg.mk area true ByteArray.empty]).drop k) → Keep B h0 ((setD L i kD (cs ++ [Chg.mk area true ByteArray.empty]) k v' r').set j (some (kl, walO kD area 0 false))) h' → Q h') : C_wal_Log_Clear B (some ⟨kl, 0, none⟩) h Q := by
  refine C_wal_Log_Clear.of ?_
  unfold S_wal_Log_Clear
  refine ⟨fun e => (by cases e), fun _ => ⟨_, rfl, _, E.cell j hj rfl, _, rfl, area, E.cellA j (m := 0) hj rfl, dreset_wp E A R hk hl ha fun v' r' h' R' E' => ?_⟩⟩
  have hj' : (setD L i kD (cs ++ [Chg.mk area true ByteArray.empty]) k v' r')[j]? = some (some (kl, walO kD area sz torn)) := by rw [setD_get n1 n2]; exact hj
  obtain ⟨es, E2⟩ := E'.storeA j 0 2 (.int .i64 0) hj' rfl
  have il := (List.getElem?_eq_some_iff.1 hj').1
  obtain ⟨es2, E3⟩ := E2.storeA j 0 3 (.bool false) (List.getElem?_set_self il) rfl
  rw [List.set_set] at E3
  exact ⟨_, rfl, _, es, _, rfl, _, es2, Fin.of (hQ v' r' _ R' E3)⟩
theorem walclear_nil {Q : Heap → Prop} (hQ : Q h) : C_wal_Log_Clear B none h Q := by
  refine C_wal_Log_Clear.of ?_
  unfold S_wal_Log_Clear
  exact ⟨fun _ => Fin.of hQ, fun e => absurd rfl e⟩
theorem walsize_wp {Q : Int → Heap → Prop} (E : Keep B h0 L h) (hj : L[j]? = some (some (kl, walO kD area sz torn))) (hQ : Q ((sz : Nat) : Int) h) : C_wal_Log_Size B (some ⟨kl, 0, none⟩) h Q := by
  refine C_wal_Log_Size.of ?_
  unfold S_wal_Log_Size
  exact ⟨fun e => (by cases e), fun _ => ⟨_, rfl, _, E.cellA j (m := 0) hj rfl, Fin.of hQ⟩⟩
theorem walsize_nil {Q : Int → Heap → Prop} (hQ : Q 0 h) : C_wal_Log_Size B none h Q := by
  refine C_wal_Log_Size.of ?_
  unfold S_wal_Log_Size
  exact ⟨fun _ => Fin.of hQ, fun e => absurd rfl e⟩
theorem walarea_wp {Q : Int → Heap → Prop} (E : Keep B h0 L h) (hj : L[j]? = some (some (kl, walO kD area sz torn))) (hQ : Q area h) : C_wal_Log_Area B (some ⟨kl, 0, none⟩) h Q := by
  refine C_wal_Log_Area.of ?_
  unfold S_wal_Log_Area
  exact ⟨fun e => (by cases e), fun _ => ⟨_, rfl, _, E.cellA j (m := 0) hj rfl, Fin.of hQ⟩⟩
theorem walarea_nil {Q : Int → Heap → Prop} (hQ : Q 0 h) : C_wal_Log_Area B none h Q := by
  refine C_wal_Log_Area.of ?_
  unfold S_wal_Log_Area
  exact ⟨fun _ => Fin.of hQ, fun e => absurd rfl e⟩

/-! All records, ranged over -/
def walF (k3 : Nat) : Value := Value.func (.func FN.wal_Log_All_1) #[] #[(Value.pointer (some ⟨k3, 0, none⟩))]
def walG (k3 kl kD : Nat) (area : Int) (sz : Nat) (torn : Bool) (cs : List Chg) (k : Nat) (v : Value) (h : Heap) : Prop :=
  h k3 = some (.vec TY.p_wal_Log [.plain (.pointer (some ⟨kl, 0, none⟩))] 1) ∧ h kl = some (walO kD area sz torn) ∧ h kD = some (dskO cs k v)
theorem walG_ins {k3 : Nat} : Ins (walG k3 kl kD area sz torn cs k v) := by
  rintro h b o hb ⟨g1, g2, g3⟩
  exact ⟨Heap.get_new hb g1, Heap.get_new hb g2, Heap.get_new hb g3⟩
theorem walall_wp {p : Option Addr} {Q : Value → Heap → Prop} (hQ : ∀ k, h k = none → B k = none → Q (walF k) (h.set k (.vec TY.p_wal_Log [.plain (.pointer p)] 1))) : C_wal_Log_All B p h Q := by
  refine C_wal_Log_All.of ?_
  unfold S_wal_Log_All
  intro k a1 b1 h4 e4
  subst e4
  exact Fin.of (hQ k a1 b1)
theorem walall_nil {k3 : Nat} : Iter PG B (walF k3) [] (fun h => h k3 = some (.vec TY.p_wal_Log [.plain (.pointer none)] 1)) := by
  refine ⟨_, _, _, rfl, TG.wal_Log_All_1, fun y J X h hy hG h0 hcall => ?_⟩
  have main : C_wal_Log_All_1 B y ⟨k3, 0, none⟩ h (fun h' => Fin B h' (fun h'' => J 0 h'' ∨ X h'')) := by
    refine C_wal_Log_All_1.of ?_
    unfold S_wal_Log_All_1
    have g1 := hG 0 h h0
    refine ⟨hy.isOne, fun ky ay by' h4 e4 => ?_⟩
    obtain ⟨gy, ly, fy⟩ := Heap.made ay e4
    exact ⟨_, cellH_vec (ly _ _ g1) rfl, fun _ => Fin.ent (Ent.forget ly) (Fin.of (Fin.of (.inl h0))), fun e => absurd rfl e⟩
  exact Spec.mono main fun v h' q => q.2
theorem walall_iter {k3 : Nat} (ha : area = 0 ∨ area = 1) (ok : DOk cs) : Iter PG B (walF k3) ((allL (bl (textD area cs))).map encS) (walG k3 kl kD area sz torn cs k v) := by
  refine ⟨_, _, _, rfl, TG.wal_Log_All_1, fun y J X h hy hG h0 hcall => ?_⟩
  have main : C_wal_Log_All_1 B y ⟨k3, 0, none⟩ h (fun h' => Fin B h' (fun h'' => J ((allL (bl (textD area cs))).map encS).length h'' ∨ X h'')) := by
    refine C_wal_Log_All_1.of ?_
    unfold S_wal_Log_All_1
    obtain ⟨g1, g2, g3⟩ := hG 0 h h0
    refine ⟨hy.isOne, fun ky ay by' h4 e4 => ?_⟩
    have ⟨ty, e4⟩ : ∃ t, h4 = h.set ky (.vec t [.plain y] 1) := ⟨_, e4⟩
    obtain ⟨gy, ly, fy⟩ := Heap.made ay e4
    have l1 := ly _ _ g1
    have l2 := ly _ _ g2
    have l3 := ly _ _ g3
    have hz := ok.size area
    refine ⟨_, cellH_vec l1 rfl, fun e => (by cases e), fun _ => ⟨_, cellH_vec l1 rfl, _, rfl, _, cellH_vec l2 rfl, _, cellH_vec l1 rfl, _, rfl, area, by rw [addr_more]; exact cellH_vec l2 rfl, dread0 l3 ha (wall_wp fun kc ac bc => ?_)⟩⟩
    have hky : kc ≠ ky := Heap.ne_of ac gy
    have it := wall_iter (B := B) (k3 := kc) (s := textD area cs) (by omega)
    refine ⟨(allL (bl (textD area cs))).map ba, wG kc (textD area cs), fun q h' => ∃ hu, hu ky = none ∧ hu kc = none ∧ h' = (hu.set ky (.vec ty [.plain y] 1)).set kc (.vec TY.string [.plain (.string (textD area cs))] 1) ∧ J q hu, by rw [List.map_map]; exact it, wG_ins, ?_, Fin.of ⟨h, ay, ?_, by rw [e4], h0⟩, ?_, ?_⟩
    · rintro q h' ⟨hu, n1, n2, rfl, hJ⟩
      exact Heap.set_same _ _ _
    · rw [e4, Heap.set_ne _ _ _ _ hky] at ac; exact ac
    · rintro q h17 s35 hg ⟨hu, n1, n2, rfl, hJ⟩
      rw [List.getElem?_map] at hg
      obtain ⟨l, hl, rfl⟩ := Option.map_eq_some_iff.1 hg
      have n2' : (hu.set ky (.vec ty [.plain y] 1)) kc = none := by rw [Heap.set_ne _ _ _ _ hky]; exact n2
      have gky : ((hu.set ky (.vec ty [.plain y] 1)).set kc (.vec TY.string [.plain (.string (textD area cs))] 1)) ky = some (.vec ty [.plain y] 1) := by
        rw [Heap.set_ne _ _ _ _ (Ne.symm hky), Heap.set_same]
      refine ⟨y, cellH_vec gky rfl, ?_⟩
      have hc := hcall q hu (encS l) (by rw [List.getElem?_map, hl]; rfl) hJ
      have h1 := hc.frame1 (ob := .vec ty [.plain y] 1) n1 by' (plainOne _ _)
      have h2 := h1.frame1 (ob := .vec TY.string [.plain (.string (textD area cs))] 1) n2' bc (plainOne _ _)
      refine CallV.mono ?_ h2
      rintro v h27 ⟨hx, x1, rfl, hz, z1, rfl, h29, t2, hor⟩
      have z2 : hz kc = none := by rw [Heap.set_ne _ _ _ _ hky] at x1; exact x1
      have lift : Ent B ((hz.set ky (.vec ty [.plain y] 1)).set kc (.vec TY.string [.plain (.string (textD area cs))] 1)) ((h29.set ky (.vec ty [.plain y] 1)).set kc (.vec TY.string [.plain (.string (textD area cs))] 1)) :=
        Ent.frame1 x1 bc (plainOne _ _) (Ent.frame1 z1 by' (plainOne _ _) t2)
      have w1 : h29 ky = none := t2.1 _ z1
      have w2 : h29 kc = none := t2.1 _ z2
      have drop : Ent B ((h29.set ky (.vec ty [.plain y] 1)).set kc (.vec TY.string [.plain (.string (textD area cs))] 1)) h29 := Ent.forget fun b o hb =>
        Heap.get_new (by rw [Heap.set_ne _ _ _ _ hky]; exact w2) (Heap.get_new w1 hb)
      rcases hor with ⟨rfl, hJ'⟩ | ⟨rfl, hX⟩
      · exact ⟨true, rfl, fun _ => ⟨_, lift, h29, w1, w2, rfl, hJ'⟩, fun e => by cases e⟩
      · exact ⟨false, rfl, fun e => (by cases e), fun _ => ⟨h29, lift.trans drop, Fin.of (.inr hX)⟩⟩
    · rintro h17 ⟨hu, n1, n2, rfl, hJ⟩
      have drop : Ent B ((hu.set ky (.vec ty [.plain y] 1)).set kc (.vec TY.string [.plain (.string (textD area cs))] 1)) hu := Ent.forget fun b o hb =>
        Heap.get_new (by rw [Heap.set_ne _ _ _ _ hky]; exact n2) (Heap.get_new n1 hb)
      refine ⟨hu, drop, Fin.of (.inl ?_)⟩
      rw [List.length_map] at hJ ⊢
      exact hJ
  exact Spec.mono main fun v h' q => q.2
theorem allL_le (b : List UInt8) : (allL b).length ≤ b.length := by
  have h1 := rowL_len (allL_spec b).1
  have h2 : (rowL (allL b)).length = wholeL b := rfl
  have h3 : ∀ ls : List (List UInt8), ls.length ≤ (ls.map fun l => l.length + 6).sum := fun ls => by
    induction ls with
    | nil => simp
    | cons l ls ih => simp only [List.length_cons, List.map_cons, List.sum_cons]; omega
  have := h3 (allL b)
  have := wholeL_le b
  omega
end
end Go.Proofs.Ytcncdfmnpmmikaa.H
