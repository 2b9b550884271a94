/- A device of two areas: sync, and the loss of power; the document's device. No condition. -/
import Derived.Test.YthloobpjkeodgaaWd
namespace Go.Proofs.Ythloobpjkeodgaa.H
open Go
set_option linter.unusedVariables false
set_option maxRecDepth 100000

theorem minW (m : Nat) (i : Int) : (if (m : Int) < (if (0 : Int) > i then (0 : Int) else i) then (m : Int) else (if (0 : Int) > i then (0 : Int) else i)) = ((min m i.toNat : Nat) : Int) := by
  split <;> split <;> omega
theorem dskO_eq (cs : List Chg) (k : Nat) (v : Value) : dskO cs k v = dskV (textD 0 cs) (textD 0 (cs.take k)) (textD 1 cs) (textD 1 (cs.take k)) v := rfl
theorem drop_get {α : Type} {l : List α} {k j : Nat} {x : α} (h : (l.drop k)[j]? = some x) : l[k + j]? = some x := by rwa [List.getElem?_drop] at h
structure RAt (L : List (Option (Nat × AObj))) (i kR : Nat) (k : Nat) (v : Value) (r : Option (Nat × AObj)) : Prop where
  p : L[i]? = some (some (kR, rdO k v))
  q : L[i + 1]? = some r
theorem RAt.lt {L : List (Option (Nat × AObj))} {i kR k : Nat} {v : Value} {r : Option (Nat × AObj)} (A : RAt L i kR k v r) : i < L.length ∧ i + 1 < L.length := ⟨(List.getElem?_eq_some_iff.1 A.p).1, (List.getElem?_eq_some_iff.1 A.q).1⟩
theorem RAt.app {L : List (Option (Nat × AObj))} {i kR k : Nat} {v : Value} {r : Option (Nat × AObj)} (A : RAt L i kR k v r) (M : List (Option (Nat × AObj))) : RAt (L ++ M) i kR k v r := ⟨up_app M A.p, up_app M A.q⟩
def setR (L : List (Option (Nat × AObj))) (i kR : Nat) (k : Nat) (v : Value) (r : Option (Nat × AObj)) : List (Option (Nat × AObj)) := (L.set i (some (kR, rdO k v))).set (i + 1) r
theorem atLast {L : List (Option (Nat × AObj))} {x : Option (Nat × AObj)} : (L ++ [x])[L.length]? = some x := by
  rw [List.getElem?_append_right (Nat.le_refl _), Nat.sub_self]; rfl
theorem setLast {L : List (Option (Nat × AObj))} {x y : Option (Nat × AObj)} : (L ++ [x]).set L.length y = L ++ [y] := by
  rw [List.set_append_right _ _ (Nat.le_refl _), Nat.sub_self]; rfl

theorem land_size {cs : List Chg} (ok : DOk cs) {j : Nat} {x : Chg} (hg : cs[j]? = some x) (hr : x.r = false) : (textD 0 (cs.take j)).size + x.s.size ≤ 4611686018427387904 ∧ (textD 1 (cs.take j)).size + x.s.size ≤ 4611686018427387904 := by
  have z0 := ok.sz 0 j
  have z1 := ok.sz 1 j
  have := ok.sz x.a (j + 1)
  rw [textD_take _ _ _ _ hg, chgD, if_pos rfl, hr, if_neg (by simp), ByteArray.size_append] at this
  omega

section
variable {B : RO} {h0 h h' : Heap} {L : List (Option (Nat × AObj))} {r : Option (Nat × AObj)} {i kD kR k : Nat} {v : Value} {cs : List Chg}
theorem Keep.rowAt {α : Type} {cells : α → List Value} {l : List α} {a : Option Addr} {sz q : Nat} (E : Keep B h0 L h) (hq : L[q]? = some r) (hrd : RowRd B r a sz cells l) (j : Nat) (x : α) (hj : l[j]? = some x) : ∃ A, a = some A ∧ CellsAt B h (Addr.add A (j * sz)) 0 (cells x) := by
  obtain ⟨A, e1, _, e3⟩ := hrd h (fun k o e => E.at q (by rw [hq, e])) j x hj
  exact ⟨A, e1, e3⟩
theorem dsync_wp {Q : Heap → Prop} (E : Keep B h0 L h) (A : DAt L i kD cs k v r) (R : CRow r v (cs.drop k)) (hk : k ≤ cs.length) (ok : DOk cs) (hl : cs.length ≤ 100000)
    (hQ : ∀ h', Keep B h0 (setD L i kD cs cs.length (.slice none 0 0) none) h' → Q h') : C_disk_Disk_Sync B (some ⟨kD, 0, none⟩) h Q := by
  refine C_disk_Disk_Sync.of ?_
  unfold S_disk_Disk_Sync
  obtain ⟨a, m, c, rfl⟩ := Row.slice R
  obtain ⟨rfl, hrd⟩ := Row.rd (B := B) R Chg.len (by omega)
  have il := A.lt
  refine ⟨fun e => (by cases e), fun _ => ⟨_, rfl, .inl ⟨a, _, c, E.cellA i (m := 0) A.p rfl, ?_⟩⟩⟩
  let st : Nat → AObj := fun j => dskV (textD 0 cs) (textD 0 (cs.take (k + j))) (textD 1 cs) (textD 1 (cs.take (k + j))) (.slice a (cs.drop k).length c)
  refine ⟨fun i' m h' => ∃ j : Nat, j ≤ (cs.drop k).length ∧ i' = j ∧ m = (cs.drop k).length - j ∧ Keep B h0 (L.set i (some (kD, st j))) h', (cs.drop k).length, Fin.of ⟨0, by omega, rfl, by omega, ?_⟩, ?_⟩
  · have e : L.set i (some (kD, st 0)) = L := by
      obtain ⟨h1, h2⟩ := List.getElem?_eq_some_iff.1 A.p
      have : (some (kD, st 0)) = L[i] := h2.symm
      rw [this]; exact List.set_getElem_self h1
    rw [e]; exact E
  clear E
  rintro _ _ h10 ⟨j, hj, rfl, rfl, E⟩
  have hi : (L.set i (some (kD, st j)))[i]? = some (some (kD, st j)) := List.getElem?_set_self il.1
  have hq : (L.set i (some (kD, st j)))[i + 1]? = some r := by rw [List.getElem?_set_ne (by omega)]; exact A.q
  refine ⟨fun hlt => ?_, fun hge => ?_⟩
  · have hj' : j < (cs.drop k).length := by omega
    have hg := List.getElem?_eq_getElem hj'
    have hg' := drop_get hg
    generalize (cs.drop k)[j] = x at hg hg'
    obtain ⟨A1, e1, e3⟩ := E.rowAt hq hrd j x hg
    have hax := ok.ar x (List.mem_of_getElem? hg')
    refine ⟨A1, e1, by omega, hlt, x.a, x.r, x.s, by rw [Int.toNat_natCast]; exact e3, fun k21 a21 b21 h22 e22 => ?_⟩
    have E1 := E.made a21 b21 e22
    refine ⟨_, stores_whole E1.last rfl (by simp) (by simp [isOne]) (by simp), ?_⟩
    have E2 := E1.putLast (.vec TY.disk_change (plains x.cells) 3)
    refine ⟨x.a, x.r, x.s, ⟨cellH_vec E2.last rfl, cellH_vec E2.last rfl, cellH_vec E2.last rfl, trivial⟩, ?_⟩
    refine land_wp (i := i) E2 (up_app _ hi) hax (land_size ok hg') fun h27 E3 => Fin.of ⟨(cs.drop k).length - (j + 1), by omega, j + 1, by omega, ?_, rfl, ?_⟩
    · have := List.length_drop (i := k) (l := cs)
      rw [w64 (by omega) (by omega)]; omega
    · rw [List.set_append_left _ _ (by rw [List.length_set]; exact il.1), List.set_set] at E3
      have e : st (j + 1) = dskV (textD 0 cs) (chgD 0 (textD 0 (cs.take (k + j))) x) (textD 1 cs) (chgD 1 (textD 1 (cs.take (k + j))) x) (.slice a (cs.drop k).length c) := by
        show dskV _ (textD 0 (cs.take (k + j + 1))) _ (textD 1 (cs.take (k + j + 1))) _ = _
        rw [textD_take _ _ _ _ hg', textD_take _ _ _ _ hg']
      rw [e]; exact E3.pop
  · have : j = (cs.drop k).length := by omega
    subst this
    obtain ⟨es, E1⟩ := E.storeA i 0 4 (.slice none 0 0) hi rfl
    refine ⟨_, rfl, _, es, Fin.of (hQ _ ?_)⟩
    have E2 := E1.lose (i + 1)
    unfold setD
    have e : dskO cs cs.length (.slice none 0 0) = .vec TY.disk_Disk ((plains [.string (textD 0 cs), .string (textD 0 (cs.take (k + (cs.drop k).length))), .string (textD 1 cs), .string (textD 1 (cs.take (k + (cs.drop k).length))), .slice a (cs.drop k).length c]).set (0 + 4) (.plain (.slice none 0 0))) 5 := by
      have : k + (cs.drop k).length = cs.length := by rw [List.length_drop]; omega
      rw [this]; rfl
    rw [e]
    rw [List.set_set] at E2
    exact E2
/-- The power is back: both areas are what was safe. -/
theorem crash_J1 {n0 s0 n1 s1 : ByteArray} {cs' : List Chg} {Q : Heap → Prop} {w : Value} (E : Keep B h0 (L.set i (some (kD, dskV n0 s0 n1 s1 w))) h) (il : i < L.length) (e0 : s0 = textD 0 cs') (e1 : s1 = textD 1 cs')
    (hQ : ∀ h', Keep B h0 (setD L i kD cs' cs'.length (.slice none 0 0) none) h' → Q h') : S_disk_Disk_Crash_J1 B (some ⟨kD, 0, none⟩) h Q := by
  unfold S_disk_Disk_Crash_J1
  have hi : ∀ o, (L.set i (some (kD, o)))[i]? = some (some (kD, o)) := fun o => List.getElem?_set_self il
  obtain ⟨es, E1⟩ := E.storeA i 0 4 (.slice none 0 0) (hi _) rfl
  rw [List.set_set] at E1
  let st : Nat → AObj := fun j => dskV (if 0 < j then s0 else n0) s0 (if 1 < j then s1 else n1) s1 (.slice none 0 0)
  refine ⟨_, rfl, _, es, fun i' m h' => ∃ j : Nat, j ≤ 2 ∧ i' = j ∧ m = 2 - j ∧ Keep B h0 (L.set i (some (kD, st j))) h', 2, Fin.of ⟨0, by omega, rfl, by omega, E1⟩, ?_⟩
  clear E1 es E
  rintro _ _ h10 ⟨j, hj, rfl, rfl, E⟩
  refine ⟨fun hlt => ?_, fun hge => ?_⟩
  · have hw : IntKind.wrap .i64 ((j : Int) + 1) = ((j + 1 : Nat) : Int) := by rw [w64 (by omega) (by omega)]; omega
    refine ⟨_, rfl, by omega, hlt, ?_⟩
    match j, hlt, E, hw with
    | 0, _, E, hw =>
      obtain ⟨es, E2⟩ := E.storeA i 0 (Int.toNat ((0 : Nat) : Int) * 2) (.string s0) (hi _) rfl
      rw [List.set_set] at E2
      refine ⟨s0, by rw [addr_more]; exact E.cellA i (hi _) rfl, _, rfl, by omega, by decide, _, es, Fin.of ⟨1, by omega, 1, by omega, hw, rfl, E2⟩⟩
    | 1, _, E, hw =>
      obtain ⟨es, E2⟩ := E.storeA i 0 (Int.toNat ((1 : Nat) : Int) * 2) (.string s1) (hi _) rfl
      rw [List.set_set] at E2
      refine ⟨s1, by rw [addr_more]; exact E.cellA i (hi _) rfl, _, rfl, by omega, by decide, _, es, Fin.of ⟨0, by omega, 2, by omega, hw, rfl, E2⟩⟩
    | j + 2, hlt, _, _ => omega
  · have : j = 2 := by omega
    subst this
    refine Fin.of (hQ _ ?_)
    have E2 := E.lose (i + 1)
    unfold setD dskO
    rw [List.take_length, ← e0, ← e1]
    exact E2
theorem dcrash_wp {keep part : Int} {Q : Heap → Prop} (E : Keep B h0 L h) (A : DAt L i kD cs k v r) (R : CRow r v (cs.drop k)) (hk : k ≤ cs.length) (ok : DOk cs) (hl : cs.length ≤ 100000)
    (hQ : ∀ h', Keep B h0 (setD L i kD (crashD cs k keep part) (crashD cs k keep part).length (.slice none 0 0) none) h' → Q h') : C_disk_Disk_Crash B (some ⟨kD, 0, none⟩) keep part h Q := by
  refine C_disk_Disk_Crash.of ?_
  unfold S_disk_Disk_Crash
  obtain ⟨a, m, c, rfl⟩ := Row.slice R
  obtain ⟨rfl, hrd⟩ := Row.rd (B := B) R Chg.len (by omega)
  have il := A.lt
  have hld := List.length_drop (i := k) (l := cs)
  refine ⟨fun e => (by cases e), fun _ => ⟨_, rfl, .inl ⟨a, _, c, E.cellA i (m := 0) A.p rfl, ?_⟩⟩⟩
  let st : Nat → AObj := fun j => dskV (textD 0 cs) (textD 0 (cs.take (k + j))) (textD 1 cs) (textD 1 (cs.take (k + j))) (.slice a (cs.drop k).length c)
  refine ⟨fun i' m h' => ∃ j : Nat, j ≤ (cs.drop k).length ∧ j ≤ keep.toNat ∧ i' = j ∧ m = (cs.drop k).length - j ∧ Keep B h0 (L.set i (some (kD, st j))) h', (cs.drop k).length, Fin.of ⟨0, by omega, by omega, rfl, by omega, ?_⟩, ?_⟩
  · have e : L.set i (some (kD, st 0)) = L := by
      obtain ⟨h1, h2⟩ := List.getElem?_eq_some_iff.1 A.p
      have : (some (kD, st 0)) = L[i] := h2.symm
      rw [this]; exact List.set_getElem_self h1
    rw [e]; exact E
  clear E
  rintro _ _ h10 ⟨j, hj, hjk, rfl, rfl, E⟩
  have hi : (L.set i (some (kD, st j)))[i]? = some (some (kD, st j)) := List.getElem?_set_self il.1
  have hq : (L.set i (some (kD, st j)))[i + 1]? = some r := by rw [List.getElem?_set_ne (by omega)]; exact A.q
  refine ⟨fun hlt => ?_, fun hge => Fin.of ?_⟩
  · have hj' : j < (cs.drop k).length := by omega
    have hg := List.getElem?_eq_getElem hj'
    have hg' := drop_get hg
    generalize (cs.drop k)[j] = x at hg hg'
    obtain ⟨A1, e1, e3⟩ := E.rowAt hq hrd j x hg
    have hax := ok.ar x (List.mem_of_getElem? hg')
    refine ⟨A1, e1, by omega, hlt, x.a, x.r, x.s, by rw [Int.toNat_natCast]; exact e3, fun k21 a21 b21 h22 e22 => ?_⟩
    have E1 := E.made a21 b21 e22
    refine ⟨_, stores_whole E1.last rfl (by simp) (by simp [isOne]) (by simp), ?_⟩
    have E2 := E1.putLast (.vec TY.disk_change (plains x.cells) 3)
    have g2 := E2.last
    have lands : ∀ {y : Chg} {h' : Heap}, y.a = x.a → (y.r = false → (textD 0 (cs.take (k + j))).size + y.s.size ≤ 4611686018427387904 ∧ (textD 1 (cs.take (k + j))).size + y.s.size ≤ 4611686018427387904) → ∀ {Q' : Heap → Prop} (o : AObj), Keep B h0 (L.set i (some (kD, st j)) ++ [some (k21, o)]) h' →
        (∀ h', Keep B h0 (L.set i (some (kD, dskV (textD 0 cs) (chgD 0 (textD 0 (cs.take (k + j))) y) (textD 1 cs) (chgD 1 (textD 1 (cs.take (k + j))) y) (.slice a (cs.drop k).length c)))) h' → Q' h') → C_disk_Disk_land B (some ⟨kD, 0, none⟩) y.a y.r y.s h' Q' := fun {y h'} ey hz {Q'} o E' hQ' =>
      land_wp (i := i) E' (up_app _ hi) (by rw [ey]; exact hax) hz fun h27 E3 => hQ' _ (by
        rw [List.set_append_left _ _ (by rw [List.length_set]; exact il.1), List.set_set] at E3
        exact E3.pop)
    refine ⟨fun hgt => ?_, fun hlt2 => ?_⟩
    · have hn : min (cs.length - k) keep.toNat = j := by omega
      have hc : ∀ ys, (if x.r = true then [] else [Chg.mk x.a false (cutB part x.s)]) = ys → crashD cs k keep part = cs.take (k + j) ++ ys := fun ys hy => by
        unfold crashD
        simp only [hn, hg']
        rw [← hy]
      refine ⟨x.r, cellH_vec g2 rfl, fun hr => Fin.of ?_, fun hr => ?_⟩
      · have hcr := hc [] (if_pos hr)
        rw [List.append_nil] at hcr
        exact crash_J1 (cs' := crashD cs k keep part) E2.pop il.1 (by rw [hcr]) (by rw [hcr]) hQ
      · have hcr := hc _ (if_neg (by rw [hr]; simp))
        have z0 : Int.toNat 0 = 0 := rfl
        have hcut : x.s.extract (Int.toNat 0) (Int.toNat ((min x.s.size part.toNat : Nat) : Int)) = cutB part x.s := by rw [Int.toNat_natCast]; rfl
        obtain ⟨es, E3⟩ := E2.store (L.set i (some (kD, st j))).length 2 (.string (cutB part x.s)) atLast rfl
        rw [setLast] at E3
        refine ⟨x.s, cellH_vec g2 rfl, x.s, cellH_vec g2 rfl, by omega, by rw [minW]; omega, by rw [minW]; omega, _, by rw [minW, hcut]; exact es, x.a, false, cutB part x.s, ⟨cellH_vec E3.last rfl, by rw [← hr]; exact cellH_vec E3.last rfl, cellH_vec E3.last rfl, trivial⟩, ?_⟩
        refine lands (y := ⟨x.a, false, cutB part x.s⟩) rfl (fun _ => ?_) _ E3 fun h' E4 => Fin.of ?_
        · have := land_size ok hg' hr
          have hle := cutB_le part x.s
          exact ⟨by show _ + (cutB part x.s).size ≤ _; omega, by show _ + (cutB part x.s).size ≤ _; omega⟩
        · refine crash_J1 (cs' := crashD cs k keep part) E4 il.1 ?_ ?_ hQ <;> rw [hcr, textD_one]
    · refine ⟨x.a, x.r, x.s, ⟨cellH_vec g2 rfl, cellH_vec g2 rfl, cellH_vec g2 rfl, trivial⟩, lands rfl (land_size ok hg') _ E2 fun h' E4 => Fin.of ⟨(cs.drop k).length - (j + 1), by omega, j + 1, by omega, by omega, ?_, rfl, ?_⟩⟩
      · rw [w64 (by omega) (by omega)]; omega
      · have e : st (j + 1) = dskV (textD 0 cs) (chgD 0 (textD 0 (cs.take (k + j))) x) (textD 1 cs) (chgD 1 (textD 1 (cs.take (k + j))) x) (.slice a (cs.drop k).length c) := by
          show dskV _ (textD 0 (cs.take (k + j + 1))) _ (textD 1 (cs.take (k + j + 1))) _ = _
          rw [textD_take _ _ _ _ hg', textD_take _ _ _ _ hg']
        rw [e]; exact E4
  · have hj2 : j = (cs.drop k).length := by omega
    have hn : min (cs.length - k) keep.toNat = cs.length - k := by omega
    have hcr : crashD cs k keep part = cs.take (k + j) := by
      unfold crashD
      simp only [hn]
      rw [List.getElem?_eq_none (by omega), List.append_nil, hj2, hld]
    exact crash_J1 (cs' := crashD cs k keep part) E il.1 (by rw [hcr]) (by rw [hcr]) hQ

/-! The document's device -/
theorem rtext_wp {a : Int} {n : Nat} {Q : ByteArray → Heap → Prop} (E : Keep B h0 L h) (A : RAt L i kR k v r) (R : RRow r v cs) (hn : n ≤ cs.length) (ok : DOk cs) (hl : cs.length ≤ 100000) (hQ : Q (textD a (cs.take n)) h) : C_countermandref03_Disk_Text B (some ⟨kR, 0, none⟩) a (n : Nat) h Q := by
  refine C_countermandref03_Disk_Text.of ?_
  unfold S_countermandref03_Disk_Text
  obtain ⟨a1, m, c, rfl⟩ := Row.slice R
  obtain ⟨rfl, hrd⟩ := Row.rd (B := B) R Chg.len (by omega)
  refine ⟨fun s i' m h' => ∃ j : Nat, j ≤ n ∧ i' = j ∧ m = n - j ∧ s = textD a (cs.take j) ∧ h' = h, n, Fin.of ⟨0, by omega, rfl, by omega, rfl, rfl⟩, ?_⟩
  rintro _ _ _ h7 ⟨j, hj, rfl, rfl, rfl, rfl⟩
  refine ⟨fun hlt => ?_, fun hge => Fin.of ?_⟩
  · have hj' : j < cs.length := by omega
    have hg := List.getElem?_eq_getElem hj'
    generalize cs[j] = x at hg
    obtain ⟨A1, e1, q0, q1, q2, _⟩ := E.rowAt A.q hrd j x hg
    have hw : IntKind.wrap .i64 ((j : Int) + 1) = ((j + 1 : Nat) : Int) := by rw [w64 (by omega) (by omega)]; omega
    have c0 := E.cell i (j := 0) A.p rfl
    have ej : Int.toNat (j : Int) = j := by omega
    have ht := textD_take a cs j x hg
    rw [ej]
    refine ⟨_, rfl, .inl ⟨a1, _, c, c0, A1, e1, by omega, by omega, x.a, q0, fun ha => ⟨_, rfl, .inl ⟨a1, _, c, c0, A1, e1, by omega, by omega, x.r, q1, fun hr => Fin.of ?_, fun hr => ?_⟩⟩, fun ha => Fin.of ?_⟩⟩
    · exact ⟨n - (j + 1), by omega, j + 1, by omega, hw, rfl, by rw [ht, chgD, if_pos ha, if_pos hr], rfl⟩
    · have z1 := ok.sz a (j + 1)
      rw [ht, chgD, if_pos ha, if_neg (by rw [hr]; simp), ByteArray.size_append] at z1
      refine ⟨_, rfl, .inl ⟨a1, _, c, c0, A1, e1, by omega, by omega, x.s, q2, by omega, Fin.of ⟨n - (j + 1), by omega, j + 1, by omega, hw, rfl, by rw [ht, chgD, if_pos ha, if_neg (by rw [hr]; simp)], rfl⟩⟩⟩
    · exact ⟨n - (j + 1), by omega, j + 1, by omega, hw, rfl, by rw [ht, chgD, if_neg ha], rfl⟩
  · have : j = n := by omega
    subst this
    exact hQ
theorem RRow.len {a : Option Addr} {m c : Nat} (R : RRow r (.slice a m c) cs) : m = cs.length := (Row.rd (B := fun _ => none) R Chg.len (by omega)).1
/-- A row is made anew, and one change more. -/
theorem rmore {a : Option Addr} {m cc k16 : Nat} {l : List Chg} {Q : Option Addr → Nat → Nat → Heap → Prop} (E : Keep B h0 L h) (A : RAt L i kR k v r) (hsrc : ∀ h', (∀ b o, r = some (b, o) → h' b = some o) → Src B h' (.slice a m cc) 3 m (l.flatMap Chg.cells)) (hl : l.length ≤ 100000) (a16 : h k16 = none) (b16 : B k16 = none) {h17 : Heap} (e17 : h17 = h.set k16 (.vec TY.countermandref03_Change [] 0))
    (hQ : ∀ a' m' c' r' h', RRow r' (.slice a' m' c') l → Keep B h0 (L ++ [r']) h' → Q a' m' c' h') :
    semH PG B (Builtin.append_ #[TY.s_countermandref03_Change, TY.s_countermandref03_Change] TY.s_countermandref03_Change #[(Value.slice (some ⟨k16, 0, none⟩) 0 0), (Value.slice a m cc)]) h17 (fun v h24 => ∃ a25 : Option Addr, ∃ n26 : Nat, ∃ c27 : Nat, v = (Value.slice a25 n26 c27) ∧ Q a25 n26 c27 h24) := by
  have E1 := E.made a16 b16 e17
  have R0 : Row (some (k16, AObj.vec TY.countermandref03_Change [] 0)) (.slice (some ⟨k16, 0, none⟩) 0 0) TY.countermandref03_Change 3 [] := .inr ⟨k16, 0, 0, 0, [], rfl, rfl, rfl, Nat.le_refl _, by omega⟩
  have hfl := flatMap_length Chg.len l
  refine E1.pushS L.length (by simp) R0 TK.slc_rchgs TK.zero_rchg rfl (by omega) (by omega) TK.sl_rchgs (hsrc h17 fun b o e => E1.at (i + 1) (by rw [(A.app _).q, e])) (by rw [hfl, List.length_nil]; omega) fun a' m' c' r' h' R' E' => ?_
  rw [setLast] at E'
  exact ⟨a', m', c', rfl, hQ _ _ _ r' _ (by rw [List.nil_append] at R'; exact R') E'⟩
/-- One change more behind such a row. -/
theorem rput {c : Chg} {a1 : Option Addr} {m1 c1 k28 : Nat} {r1 : Option (Nat × AObj)} {l : List Chg} {Q : Option Addr → Nat → Nat → Heap → Prop} (E : Keep B h0 (L ++ [r1]) h) (R : RRow r1 (.slice a1 m1 c1) l) (hl : l.length ≤ 100000) (a28 : h k28 = none) (b28 : B k28 = none) {h29 : Heap} (e29 : h29 = h.set k28 (.vec TY.countermandref03_Change (plains c.cells) 3))
    (hQ : ∀ a' m' c' r' h', RRow r' (.slice a' m' c') (l ++ [c]) → Keep B h0 (L ++ [r']) h' → Q a' m' c' h') :
    semH PG B (Builtin.append_ #[TY.s_countermandref03_Change, TY.s_countermandref03_Change] TY.s_countermandref03_Change #[(Value.slice a1 m1 c1), (Value.slice (some ⟨k28, 0, none⟩) 1 1)]) h29 (fun v h30 => ∃ a31 : Option Addr, ∃ n32 : Nat, ∃ c33 : Nat, v = (Value.slice a31 n32 c33) ∧ Q a31 n32 c33 h30) := by
  have hfl := flatMap_length Chg.len l
  refine E.push1 L.length (by simp) R TK.slc_rchgs TK.zero_rchg rfl (by omega) (by omega) TK.sl_rchgs c.len c.one (by rw [hfl, Chg.len]; omega) a28 b28 e29 fun a' m' c' r' h' R' E' => ?_
  rw [setLast] at E'
  refine ⟨a', m', c', rfl, hQ _ _ _ r' _ ?_ E'⟩
  unfold RRow
  rw [List.flatMap_append]
  simp only [List.flatMap_cons, List.flatMap_nil, List.append_nil]
  exact R'
/-- The row is the device's. -/
theorem rstore {a1 : Option Addr} {m1 c1 : Nat} {r1 : Option (Nat × AObj)} (E : Keep B h0 (L ++ [r1]) h) (A : RAt L i kR k v r) :
    ∃ h', storeH h ⟨kR, 0, none⟩ (.slice a1 m1 c1) = some h' ∧ Keep B h0 (setR L i kR k (.slice a1 m1 c1) r1) h' := by
  obtain ⟨es, E2⟩ := E.store i 0 (.slice a1 m1 c1) (A.app _).p rfl
  rw [List.set_append_left _ _ A.lt.1] at E2
  exact ⟨_, es, E2.moveLast (i + 1)⟩
theorem rappend_wp {a : Int} {s : ByteArray} {Q : Int → Heap → Prop} (E : Keep B h0 L h) (A : RAt L i kR k v r) (R : RRow r v cs) (ok : DOk cs) (hl : cs.length < 100000) (hs : s.size ≤ 1000000000)
    (hA : ¬ (a = 0 ∨ a = 1) → Q 1 h) (hF : (a = 0 ∨ a = 1) → 16384 < (textD a cs).size + s.size → Q 6 h)
    (hQ : (a = 0 ∨ a = 1) → (textD a cs).size + s.size ≤ 16384 → ∀ v' r' h', RRow r' v' (cs ++ [Chg.mk a false s]) → Keep B h0 (setR L i kR k v' r') h' → Q 0 h') : C_countermandref03_Disk_Append B (some ⟨kR, 0, none⟩) a s h Q := by
  refine C_countermandref03_Disk_Append.of ?_
  unfold S_countermandref03_Disk_Append
  have main : (a = 0 ∨ a = 1) → S_countermandref03_Disk_Append_J1 B (some ⟨kR, 0, none⟩) a s h Q := fun ha => by
    unfold S_countermandref03_Disk_Append_J1
    obtain ⟨a1, m, c, rfl⟩ := Row.slice R
    have hm := RRow.len R
    subst hm
    refine ⟨_, rfl, .inl ⟨a1, _, c, E.cell i (j := 0) A.p rfl, ?_⟩⟩
    refine rtext_wp E A R (Nat.le_refl _) ok (by omega) ?_
    rw [List.take_length]
    have hz := ok.size a
    have hw : IntKind.wrap .i64 ((((textD a cs).size : Nat) : Int) + ((s.size : Nat) : Int)) = (((textD a cs).size + s.size : Nat) : Int) := by rw [w64 (by omega) (by omega)]; omega
    rw [hw]
    refine ⟨fun hgt => Fin.of (hF ha (by omega)), fun hle => fun k16 a16 b16 h17 e17 => ⟨_, rfl, .inl ⟨a1, _, c, (E.wk (e17 ▸ Wk.new a16 b16)).cell i (j := 0) A.p rfl, ?_⟩⟩⟩
    refine rmore E A (fun h' hr => R.src hr Chg.len (by omega) (fun x => x.one)) (by omega) a16 b16 e17 fun a' m' c' r' h' R' E' => ?_
    intro k28 a28 b28 h29 e29
    refine rput (c := ⟨a, false, s⟩) E' R' (by omega) a28 b28 e29 fun a2 m2 c2 r2 h2 R2 E2 => ?_
    obtain ⟨h3, es, E3⟩ := rstore (a1 := a2) (m1 := m2) (c1 := c2) E2 A
    exact ⟨_, rfl, h3, es, Fin.of (hQ ha (by omega) _ r2 _ R2 E3)⟩
  exact ⟨fun e => Fin.of (main (.inl e)), fun e => ⟨fun e1 => Fin.of (main (.inr e1)), fun e1 => Fin.of (hA fun hh => hh.elim e e1)⟩⟩
theorem rreset_wp {a : Int} {Q : Int → Heap → Prop} (E : Keep B h0 L h) (A : RAt L i kR k v r) (R : RRow r v cs) (hl : cs.length < 100000) (ha : a = 0 ∨ a = 1)
    (hQ : ∀ v' r' h', RRow r' v' (cs ++ [Chg.mk a true ByteArray.empty]) → Keep B h0 (setR L i kR k v' r') h' → Q 0 h') : C_countermandref03_Disk_Reset B (some ⟨kR, 0, none⟩) a h Q := by
  refine C_countermandref03_Disk_Reset.of ?_
  unfold S_countermandref03_Disk_Reset
  have main : S_countermandref03_Disk_Reset_J1 B (some ⟨kR, 0, none⟩) a h Q := by
    unfold S_countermandref03_Disk_Reset_J1
    obtain ⟨a1, m, c, rfl⟩ := Row.slice R
    have hm := RRow.len R
    subst hm
    intro k16 a16 b16 h17 e17
    refine ⟨_, rfl, .inl ⟨a1, _, c, (E.wk (e17 ▸ Wk.new a16 b16)).cell i (j := 0) A.p rfl, ?_⟩⟩
    refine rmore E A (fun h' hr => R.src hr Chg.len (by omega) (fun x => x.one)) (by omega) a16 b16 e17 fun a' m' c' r' h' R' E' => ?_
    intro k28 a28 b28 h29 e29
    refine rput (c := ⟨a, true, ByteArray.empty⟩) E' R' (by omega) a28 b28 e29 fun a2 m2 c2 r2 h2 R2 E2 => ?_
    obtain ⟨h3, es, E3⟩ := rstore (a1 := a2) (m1 := m2) (c1 := c2) E2 A
    exact ⟨_, rfl, h3, es, Fin.of (hQ _ r2 _ R2 E3)⟩
  refine ⟨fun e => Fin.of main, fun e => ⟨fun e1 => Fin.of main, fun e1 => absurd ha (fun hh => hh.elim e e1)⟩⟩
theorem rcrash_J1 {a1 : Option Addr} {m1 c1 : Nat} {r1 : Option (Nat × AObj)} {Q : Heap → Prop} (E : Keep B h0 (L ++ [r1]) h) (A : RAt L i kR k v r) (hQ : ∀ h', Keep B h0 (setR L i kR m1 (.slice a1 m1 c1) r1) h' → Q h') : S_countermandref03_Disk_Crash_J1 B (some ⟨kR, 0, none⟩) a1 m1 c1 h Q := by
  unfold S_countermandref03_Disk_Crash_J1
  obtain ⟨h3, es, E3⟩ := rstore (a1 := a1) (m1 := m1) (c1 := c1) E A
  have hi : (setR L i kR k (.slice a1 m1 c1) r1)[i]? = some (some (kR, rdO k (.slice a1 m1 c1))) := by
    unfold setR
    rw [List.getElem?_set_ne (by omega), List.getElem?_set_self A.lt.1]
  obtain ⟨es2, E4⟩ := E3.storeA i 0 1 (.int .i64 (m1 : Nat)) hi rfl
  refine ⟨_, rfl, h3, es, _, rfl, _, es2, Fin.of (hQ _ ?_)⟩
  unfold setR at E4 ⊢
  rw [set3] at E4
  exact E4
theorem rcrash_wp {keep part : Int} {Q : Heap → Prop} (E : Keep B h0 L h) (A : RAt L i kR k v r) (R : RRow r v cs) (hk : k ≤ cs.length) (hl : cs.length < 100000)
    (hQ : ∀ v' r' h', RRow r' v' (crashD cs k keep part) → Keep B h0 (setR L i kR (crashD cs k keep part).length v' r') h' → Q h') : C_countermandref03_Disk_Crash B (some ⟨kR, 0, none⟩) keep part h Q := by
  refine C_countermandref03_Disk_Crash.of ?_
  unfold S_countermandref03_Disk_Crash
  obtain ⟨a1, m, c, rfl⟩ := Row.slice R
  have hm := RRow.len R
  subst hm
  have hcap := R.cap
  have hrd := Row.rd_drop (B := B) R Chg.len (by omega) k
  have hld := List.length_drop (i := k) (l := cs)
  have ek : Int.toNat (cs.length : Int) - Int.toNat (k : Int) = cs.length - k := by omega
  have ek2 : Int.toNat (k : Int) = k := by omega
  refine ⟨_, rfl, a1, _, c, E.cell i (j := 0) A.p rfl, _, rfl, k, E.cellA i (m := 0) A.p rfl, by omega, by omega, by omega, _, rfl, a1, _, c, E.cell i (j := 0) A.p rfl, _, rfl, k, E.cellA i (m := 0) A.p rfl, ?_⟩
  unfold S_countermandref03_Disk_Crash_J2
  rw [ek, ek2, minW, Int.toNat_natCast]
  generalize hn : min (cs.length - k) keep.toNat = n
  have hw : IntKind.wrap .i64 ((k : Int) + (n : Int)) = ((k + n : Nat) : Int) := by rw [w64 (by omega) (by omega)]; omega
  rw [hw, Int.toNat_natCast]
  have z0 : Int.toNat 0 = 0 := rfl
  refine ⟨by omega, by omega, by omega, fun k34 a34 b34 h35 e35 => ?_⟩
  have Ew := E.wk (e35 ▸ Wk.new a34 b34)
  refine ⟨Ew.cell i (j := 0) A.p rfl, Ew.cellA i (m := 0) A.p rfl, ?_⟩
  rw [optAdd0]
  have Rc : RRow r (.slice a1 (k + n) c) (cs.take (k + n)) := by
    have := R.cut (n := k + n) (by omega)
    rwa [take_flatMap Chg.len] at this
  refine rmore E A (l := cs.take (k + n)) (fun h' hr => ?_) (by rw [List.length_take]; omega) a34 b34 e35 fun a' m' c' r' h' R' E' => ?_
  · have := Row.src (B := B) Rc hr Chg.len (by omega) (fun x => x.one)
    rw [z0, Nat.sub_zero, Nat.sub_zero]; exact this
  · have E0 := E'.pop
    refine ⟨E0.cell i (j := 0) A.p rfl, E0.cellA i (m := 0) A.p rfl, fun hlt => ?_, fun hge => Fin.of ⟨fun e => (by cases e), fun _ => Fin.of ?_⟩⟩
    · have hn' : n < (cs.drop k).length := by omega
      have hg := List.getElem?_eq_getElem hn'
      have hg' := drop_get hg
      generalize (cs.drop k)[n] = x at hg hg'
      obtain ⟨A1, e1, q0, q1, q2, _⟩ := E0.rowAt A.q hrd n x hg
      have hc : crashD cs k keep part = cs.take (k + n) ++ (if x.r = true then [] else [Chg.mk x.a false (cutB part x.s)]) := by
        unfold crashD
        simp only [hn, hg']
      refine ⟨A1, e1, by omega, by omega, x.r, q1, fun hr => Fin.of ⟨fun e => (by cases e), fun _ => Fin.of ?_⟩, fun hr => Fin.of ⟨fun _ => ?_, fun e => by cases e⟩⟩
      · rw [if_pos hr, List.append_nil] at hc
        refine rcrash_J1 E' A fun h2 E2 => hQ _ r' _ (by rw [hc]; exact R') ?_
        have hm := RRow.len R'
        rw [hc, ← hm]; exact E2
      · rw [if_neg (by rw [hr]; simp)] at hc
        refine ⟨A1, e1, by omega, by omega, x.s, q2, A1, e1, by omega, by omega, x.a, q0, A1, e1, by omega, by omega, x.s, q2, ?_⟩
        rw [minW, Int.toNat_natCast, z0]
        refine ⟨by omega, by omega, by omega, fun k88 a88 b88 h89 e89 => ?_⟩
        have Ew := E0.wk (e89 ▸ Wk.new a88 b88)
        obtain ⟨A2, f1, t0, t1, t2, _⟩ := Ew.rowAt A.q hrd n x hg
        rw [e1] at f1; cases f1
        refine ⟨t0, t2, ?_⟩
        refine rput (c := ⟨x.a, false, cutB part x.s⟩) (Q := fun a93 n94 c95 h92 => _ ∧ _ ∧ _) E' R' (by rw [List.length_take]; omega) a88 b88 e89 fun a2 m2 c2 r2 h2 R2 E2 => ?_
        have Ez := E2.pop
        obtain ⟨A2, f1, t0, t1, t2, _⟩ := Ez.rowAt A.q hrd n x hg
        rw [e1] at f1; cases f1
        refine ⟨t0, t2, Fin.of (rcrash_J1 E2 A fun h3 E3 => hQ _ r2 _ (by rw [hc]; exact R2) ?_)⟩
        have hm := RRow.len R2
        rw [hc, ← hm]; exact E3
    · have hcn : crashD cs k keep part = cs.take (k + n) := by
        unfold crashD
        simp only [hn]
        rw [List.getElem?_eq_none (by omega), List.append_nil]
      refine rcrash_J1 E' A fun h2 E2 => hQ _ r' _ (by rw [hcn]; exact R') ?_
      have hm := RRow.len R'
      rw [hcn, ← hm]; exact E2
end
end Go.Proofs.Ythloobpjkeodgaa.H
