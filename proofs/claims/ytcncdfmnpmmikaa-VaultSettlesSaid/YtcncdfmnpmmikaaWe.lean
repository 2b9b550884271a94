/- A device of two areas: sync, and the loss of power; the document's device. No condition. -/
import Derived.Test.YtcncdfmnpmmikaaWd
namespace Go.Proofs.Ytcncdfmnpmmikaa.H
open Go
set_option linter.unusedVariables false
set_option maxRecDepth 100000

theorem minW (m : Nat) (i : Int) : (if (m : Int) < (if (0 : Int) > i then (0 : Int) else i) then (m : Int) else (if (0 : Int) > i then (0 : Int) else i)) = ((min m i.toNat : Nat) : Int) := by
  split <;> split <;> omega
theorem dskO_eq (cs : List Chg) (k : Nat) (v : Value) : dskO cs k v = dskV (textD 0 cs) (textD 0 (cs.take k)) (textD 1 cs) (textD 1 (cs.take k)) v := rfl
theorem drop_get {α : Type} {l : List α} {k j : Nat} {x : α} (h : (l.drop k)[j]? = some x) : l[k + j]? = some x := by rwa [List.getElem?_drop] at h
theorem atLast {L : List (Option (Nat × AObj))} {x : Option (Nat × AObj)} : (L ++ [x])[L.length]? = some x := by
  rw [List.getElem?_append_right (Nat.le_refl _), Nat.sub_self]; rfl
theorem setLast {L : List (Option (Nat × AObj))} {x y : Option (Nat × AObj)} : (L ++ [x]).set L.length y = L ++ [y] := by
  rw [List.set_append_right _ _ (Nat.le_refl _), Nat.sub_self]; rfl

theorem land_size {cs : List Chg} (ok : DOk cs) {j : Nat} {x : Chg} (hg : cs[j]? = some x) (hr : x.r = false) : (textD 0 (cs.take j)).size + x.s.size ≤ 4611686018427387904 ∧ (textD 1 (cs.take j)).size + x.s.size ≤ 4611686018427387904 := by
  have z0 := ok.sz 0 j
  have z1 := ok.sz 1 j
  have := ok.sz x.a (j + 1)
  rw [textD_take _ _ _ _ hg, chgD, if_pos rfl, hr, if_neg (by simp), ByteArray.size_append] at this
  omega

section
variable {B : RO} {h0 h h' : Heap} {L : List (Option (Nat × AObj))} {r : Option (Nat × AObj)} {i kD kR k : Nat} {v : Value} {cs : List Chg}
theorem Keep.rowAt {α : Type} {cells : α → List Value} {l : List α} {a : Option Addr} {sz q : Nat} (E : Keep B h0 L h) (hq : L[q]? = some r) (hrd : RowRd B r a sz cells l) (j : Nat) (x : α) (hj : l[j]? = some x) : ∃ A, a = some A ∧ CellsAt B h (Addr.add A (j * sz)) 0 (cells x) := by
  obtain ⟨A, e1, _, e3⟩ := hrd h (fun k o e => E.at q (by rw [hq, e])) j x hj
  exact ⟨A, e1, e3⟩
theorem dsync_wp {Q : Heap → Prop} (E : Keep B h0 L h) (A : DAt L i kD cs k v r) (R : CRow r v (cs.drop k)) (hk : k ≤ cs.length) (ok : DOk cs) (hl : cs.length ≤ 100000)
    (hQ : ∀ h', Keep B h0 (setD L i kD cs cs.length (.slice none 0 0) none) h' → Q h') : C_disk_Disk_Sync B (some ⟨kD, 0, none⟩) h Q := by
  refine C_disk_Disk_Sync.of ?_
  unfold S_disk_Disk_Sync
  obtain ⟨a, m, c, rfl⟩ := Row.slice R
  obtain ⟨rfl, hrd⟩ := Row.rd (B := B) R Chg.len (by omega)
  have il := A.lt
  refine ⟨fun e => (by cases e), fun _ => ⟨_, rfl, .inl ⟨a, _, c, E.cellA i (m := 0) A.p rfl, ?_⟩⟩⟩
  let st : Nat → AObj := fun j => dskV (textD 0 cs) (textD 0 (cs.take (k + j))) (textD 1 cs) (textD 1 (cs.take (k + j))) (.slice a (cs.drop k).length c)
  refine ⟨fun i' m h' => ∃ j : Nat, j ≤ (cs.drop k).length ∧ i' = j ∧ m = (cs.drop k).length - j ∧ Keep B h0 (L.set i (some (kD, st j))) h', (cs.drop k).length, Fin.of ⟨0, by omega, rfl, by omega, ?_⟩, ?_⟩
  · have e : L.set i (some (kD, st 0)) = L := by
      obtain ⟨h1, h2⟩ := List.getElem?_eq_some_iff.1 A.p
      have : (some (kD, st 0)) = L[i] := h2.symm
      rw [this]; exact List.set_getElem_self h1
    rw [e]; exact E
  clear E
  rintro _ _ h10 ⟨j, hj, rfl, rfl, E⟩
  have hi : (L.set i (some (kD, st j)))[i]? = some (some (kD, st j)) := List.getElem?_set_self il.1
  have hq : (L.set i (some (kD, st j)))[i + 1]? = some r := by rw [List.getElem?_set_ne (by omega)]; exact A.q
  refine ⟨fun hlt => ?_, fun hge => ?_⟩
  · have hj' : j < (cs.drop k).length := by omega
    have hg := List.getElem?_eq_getElem hj'
    have hg' := drop_get hg
    generalize (cs.drop k)[j] = x at hg hg'
    obtain ⟨A1, e1, e3⟩ := E.rowAt hq hrd j x hg
    have hax := ok.ar x (List.mem_of_getElem? hg')
    refine ⟨A1, e1, by omega, hlt, x.a, x.r, x.s, by rw [Int.toNat_natCast]; exact e3, fun k21 a21 b21 h22 e22 => ?_⟩
    have E1 := E.made a21 b21 e22
    refine ⟨_, stores_whole E1.last rfl (by simp) (by simp [isOne]) (by simp), ?_⟩
    have E2 := E1.putLast (.vec TY.disk_change (plains x.cells) 3)
    refine ⟨x.a, x.r, x.s, ⟨cellH_vec E2.last rfl, cellH_vec E2.last rfl, cellH_vec E2.last rfl, trivial⟩, ?_⟩
    refine land_wp (i := i) E2 (up_app _ hi) hax (land_size ok hg') fun h27 E3 => Fin.of ⟨(cs.drop k).length - (j + 1), by omega, j + 1, by omega, ?_, rfl, ?_⟩
    · have := List.length_drop (i := k) (l := cs)
      rw [w64 (by omega) (by omega)]; omega
    · rw [List.set_append_left _ _ (by rw [List.length_set]; exact il.1), List.set_set] at E3
      have e : st (j + 1) = dskV (textD 0 cs) (chgD 0 (textD 0 (cs.take (k + j))) x) (textD 1 cs) (chgD 1 (textD 1 (cs.take (k + j))) x) (.slice a (cs.drop k).length c) := by
        show dskV _ (textD 0 (cs.take (k + j + 1))) _ (textD 1 (cs.take (k + j + 1))) _ = _
        rw [textD_take _ _ _ _ hg', textD_take _ _ _ _ hg']
      rw [e]; exact E3.pop
  · have : j = (cs.drop k).length := by omega
    subst this
    obtain ⟨es, E1⟩ := E.storeA i 0 4 (.slice none 0 0) hi rfl
    refine ⟨_, rfl, _, es, Fin.of (hQ _ ?_)⟩
    have E2 := E1.lose (i + 1)
    unfold setD
    have e : dskO cs cs.length (.slice none 0 0) = .vec TY.disk_Disk ((plains [.string (textD 0 cs), .string (textD 0 (cs.take (k + (cs.drop k).length))), .string (textD 1 cs), .string (textD 1 (cs.take (k + (cs.drop k).length))), .slice a (cs.drop k).length c]).set (0 + 4) (.plain (.slice none 0 0))) 5 := by
      have : k + (cs.drop k).length = cs.length := by rw [List.length_drop]; omega
      rw [this]; rfl
    rw [e]
    rw [List.set_set] at E2
    exact E2
/-- The power is back: both areas are what was safe. -/
theorem crash_J1 {n0 s0 n1 s1 : ByteArray} {cs' : List Chg} {Q : Heap → Prop} {w : Value} (E : Keep B h0 (L.set i (some (kD, dskV n0 s0 n1 s1 w))) h) (il : i < L.length) (e0 : s0 = textD 0 cs') (e1 : s1 = textD 1 cs')
    (hQ : ∀ h', Keep B h0 (setD L i kD cs' cs'.length (.slice none 0 0) none) h' → Q h') : S_disk_Disk_Crash_J1 B (some ⟨kD, 0, none⟩) h Q := by
  unfold S_disk_Disk_Crash_J1
  have hi : ∀ o, (L.set i (some (kD, o)))[i]? = some (some (kD, o)) := fun o => List.getElem?_set_self il
  obtain ⟨es, E1⟩ := E.storeA i 0 4 (.slice none 0 0) (hi _) rfl
  rw [List.set_set] at E1
  let st : Nat → AObj := fun j => dskV (if 0 < j then s0 else n0) s0 (if 1 < j then s1 else n1) s1 (.slice none 0 0)
  refine ⟨_, rfl, _, es, fun i' m h' => ∃ j : Nat, j ≤ 2 ∧ i' = j ∧ m = 2 - j ∧ Keep B h0 (L.set i (some (kD, st j))) h', 2, Fin.of ⟨0, by omega, rfl, by omega, E1⟩, ?_⟩
  clear E1 es E
  rintro _ _ h10 ⟨j, hj, rfl, rfl, E⟩
  refine ⟨fun hlt => ?_, fun hge => ?_⟩
  · have hw : IntKind.wrap .i64 ((j : Int) + 1) = ((j + 1 : Nat) : Int) := by rw [w64 (by omega) (by omega)]; omega
    refine ⟨_, rfl, by omega, hlt, ?_⟩
    match j, hlt, E, hw with
    | 0, _, E, hw =>
      obtain ⟨es, E2⟩ := E.storeA i 0 (Int.toNat ((0 : Nat) : Int) * 2) (.string s0) (hi _) rfl
      rw [List.set_set] at E2
      refine ⟨s0, by rw [addr_more]; exact E.cellA i (hi _) rfl, _, rfl, by omega, by decide, _, es, Fin.of ⟨1, by omega, 1, by omega, hw, rfl, E2⟩⟩
    | 1, _, E, hw =>
      obtain ⟨es, E2⟩ := E.storeA i 0 (Int.toNat ((1 : Nat) : Int) * 2) (.string s1) (hi _) rfl
      rw [List.set_set] at E2
      refine ⟨s1, by rw [addr_more]; exact E.cellA i (hi _) rfl, _, rfl, by omega, by decide, _, es, Fin.of ⟨0, by omega, 2, by omega, hw, rfl, E2⟩⟩
    | j + 2, hlt, _, _ => omega
  · have : j = 2 := by omega
    subst this
    refine Fin.of (hQ _ ?_)
    have E2 := E.lose (i + 1)
    unfold setD dskO
    rw [List.take_length, ← e0, ← e1]
    exact E2
theorem dcrash_wp {keep part : Int} {Q : Heap → Prop} (E : Keep B h0 L h) (A : DAt L i kD cs k v r) (R : CRow r v (cs.drop k)) (hk : k ≤ cs.length) (ok : DOk cs) (hl : cs.length ≤ 100000)
    (hQ : ∀ h', Keep B h0 (setD L i kD (crashD cs k keep part) (crashD cs k keep part).length (.slice none 0 0) none) h' → Q h') : C_disk_Disk_Crash B (some ⟨kD, 0, none⟩) keep part h Q := by
  refine C_disk_Disk_Crash.of ?_
  unfold S_disk_Disk_Crash
  obtain ⟨a, m, c, rfl⟩ := Row.slice R
  obtain ⟨rfl, hrd⟩ := Row.rd (B := B) R Chg.len (by omega)
  have il := A.lt
  have hld := List.length_drop (i := k) (l := cs)
  refine ⟨fun e => (by cases e), fun _ => ⟨_, rfl, .inl ⟨a, _, c, E.cellA i (m := 0) A.p rfl, ?_⟩⟩⟩
  let st : Nat → AObj := fun j => dskV (textD 0 cs) (textD 0 (cs.take (k + j))) (textD 1 cs) (textD 1 (cs.take (k + j))) (.slice a (cs.drop k).length c)
  refine ⟨fun i' m h' => ∃ j : Nat, j ≤ (cs.drop k).length ∧ j ≤ keep.toNat ∧ i' = j ∧ m = (cs.drop k).length - j ∧ Keep B h0 (L.set i (some (kD, st j))) h', (cs.drop k).length, Fin.of ⟨0, by omega, by omega, rfl, by omega, ?_⟩, ?_⟩
  · have e : L.set i (some (kD, st 0)) = L := by
      obtain ⟨h1, h2⟩ := List.getElem?_eq_some_iff.1 A.p
      have : (some (kD, st 0)) = L[i] := h2.symm
      rw [this]; exact List.set_getElem_self h1
    rw [e]; exact E
  clear E
  rintro _ _ h10 ⟨j, hj, hjk, rfl, rfl, E⟩
  have hi : (L.set i (some (kD, st j)))[i]? = some (some (kD, st j)) := List.getElem?_set_self il.1
  have hq : (L.set i (some (kD, st j)))[i + 1]? = some r := by rw [List.getElem?_set_ne (by omega)]; exact A.q
  refine ⟨fun hlt => ?_, fun hge => Fin.of ?_⟩
  · have hj' : j < (cs.drop k).length := by omega
    have hg := List.getElem?_eq_getElem hj'
    have hg' := drop_get hg
    generalize (cs.drop k)[j] = x at hg hg'
    obtain ⟨A1, e1, e3⟩ := E.rowAt hq hrd j x hg
    have hax := ok.ar x (List.mem_of_getElem? hg')
    refine ⟨A1, e1, by omega, hlt, x.a, x.r, x.s, by rw [Int.toNat_natCast]; exact e3, fun k21 a21 b21 h22 e22 => ?_⟩
    have E1 := E.made a21 b21 e22
    refine ⟨_, stores_whole E1.last rfl (by simp) (by simp [isOne]) (by simp), ?_⟩
    have E2 := E1.putLast (.vec TY.disk_change (plains x.cells) 3)
    have g2 := E2.last
    have lands : ∀ {y : Chg} {h' : Heap}, y.a = x.a → (y.r = false → (textD 0 (cs.take (k + j))).size + y.s.size ≤ 4611686018427387904 ∧ (textD 1 (cs.take (k + j))).size + y.s.size ≤ 4611686018427387904) → ∀ {Q' : Heap → Prop} (o : AObj), Keep B h0 (L.set i (some (kD, st j)) ++ [some (k21, o)]) h' →
        (∀ h', Keep B h0 (L.set i (some (kD, dskV (textD 0 cs) (chgD 0 (textD 0 (cs.take (k + j))) y) (textD 1 cs) (chgD 1 (textD 1 (cs.take (k + j))) y) (.slice a (cs.drop k).length c)))) h' → Q' h') → C_disk_Disk_land B (some ⟨kD, 0, none⟩) y.a y.r y.s h' Q' := fun {y h'} ey hz {Q'} o E' hQ' =>
      land_wp (i := i) E' (up_app _ hi) (by rw [ey]; exact hax) hz fun h27 E3 => hQ' _ (by
        rw [List.set_append_left _ _ (by rw [List.length_set]; exact il.1), List.set_set] at E3
        exact E3.pop)
    refine ⟨fun hgt => ?_, fun hlt2 => ?_⟩
    · have hn : min (cs.length - k) keep.toNat = j := by omega
      have hc : ∀ ys, (if x.r = true then [] else [Chg.mk x.a false (cutB part x.s)]) = ys → crashD cs k keep part = cs.take (k + j) ++ ys := fun ys hy => by
        unfold crashD
        simp only [hn, hg']
        rw [← hy]
      refine ⟨x.r, cellH_vec g2 rfl, fun hr => Fin.of ?_, fun hr => ?_⟩
      · have hcr := hc [] (if_pos hr)
        rw [List.append_nil] at hcr
        exact crash_J1 (cs' := crashD cs k keep part) E2.pop il.1 (by rw [hcr]) (by rw [hcr]) hQ
      · have hcr := hc _ (if_neg (by rw [hr]; simp))
        have z0 : Int.toNat 0 = 0 := rfl
        have hcut : x.s.extract (Int.toNat 0) (Int.toNat ((min x.s.size part.toNat : Nat) : Int)) = cutB part x.s := by rw [Int.toNat_natCast]; rfl
        obtain ⟨es, E3⟩ := E2.store (L.set i (some (kD, st j))).length 2 (.string (cutB part x.s)) atLast rfl
        rw [setLast] at E3
        refine ⟨x.s, cellH_vec g2 rfl, x.s, cellH_vec g2 rfl, by omega, by rw [minW]; omega, by rw [minW]; omega, _, by rw [minW, hcut]; exact es, x.a, false, cutB part x.s, ⟨cellH_vec E3.last rfl, by rw [← hr]; exact cellH_vec E3.last rfl, cellH_vec E3.last rfl, trivial⟩, ?_⟩
        refine lands (y := ⟨x.a, false, cutB part x.s⟩) rfl (fun _ => ?_) _ E3 fun h' E4 => Fin.of ?_
        · have := land_size ok hg' hr
          have hle := cutB_le part x.s
          exact ⟨by show _ + (cutB part x.s).size ≤ _; omega, by show _ + (cutB part x.s).size ≤ _; omega⟩
        · refine crash_J1 (cs' := crashD cs k keep part) E4 il.1 ?_ ?_ hQ <;> rw [hcr, textD_one]
    · refine ⟨x.a, x.r, x.s, ⟨cellH_vec g2 rfl, cellH_vec g2 rfl, cellH_vec g2 rfl, trivial⟩, lands rfl (land_size ok hg') _ E2 fun h' E4 => Fin.of ⟨(cs.drop k).length - (j + 1), by omega, j + 1, by omega, by omega, ?_, rfl, ?_⟩⟩
      · rw [w64 (by omega) (by omega)]; omega
      · have e : st (j + 1) = dskV (textD 0 cs) (chgD 0 (textD 0 (cs.take (k + j))) x) (textD 1 cs) (chgD 1 (textD 1 (cs.take (k + j))) x) (.slice a (cs.drop k).length c) := by
          show dskV _ (textD 0 (cs.take (k + j + 1))) _ (textD 1 (cs.take (k + j + 1))) _ = _
          rw [textD_take _ _ _ _ hg', textD_take _ _ _ _ hg']
        rw [e]; exact E4
  · have hj2 : j = (cs.drop k).length := by omega
    have hn : min (cs.length - k) keep.toNat = cs.length - k := by omega
    have hcr : crashD cs k keep part = cs.take (k + j) := by
      unfold crashD
      simp only [hn]
      rw [List.getElem?_eq_none (by omega), List.append_nil, hj2, hld]
    exact crash_J1 (cs' := crashD cs k keep part) E il.1 (by rw [hcr]) (by rw [hcr]) hQ

/-! The document's device -/
end
end Go.Proofs.Ytcncdfmnpmmikaa.H
