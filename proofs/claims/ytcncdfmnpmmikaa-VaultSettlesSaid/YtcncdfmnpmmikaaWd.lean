/- A device of two areas: contracts of the functions and of the document's. No condition. -/
import Derived.Test.YtcncdfmnpmmikaaWc
import Derived.Test.YtcncdfmnpmmikaaHx
namespace Go.Proofs.Ytcncdfmnpmmikaa.H
open Go
set_option linter.unusedVariables false
set_option maxRecDepth 100000

/-! Changes, and what they come to -/
structure Chg where
  a : Int
  r : Bool
  s : ByteArray
def Chg.cells (c : Chg) : List Value := [.int .i64 c.a, .bool c.r, .string c.s]
theorem Chg.len (c : Chg) : c.cells.length = 3 := rfl
theorem Chg.one (c : Chg) : ∀ y ∈ c.cells, isOne y = true := fun y hy => by
  simp [Chg.cells] at hy; rcases hy with rfl | rfl | rfl <;> rfl
def chgD (a : Int) (s : ByteArray) (c : Chg) : ByteArray := if c.a = a then (if c.r = true then ByteArray.mk #[] else s ++ c.s) else s
def textF (a : Int) (s : ByteArray) (cs : List Chg) : ByteArray := cs.foldl (chgD a) s
def textD (a : Int) (cs : List Chg) : ByteArray := textF a (ByteArray.mk #[]) cs
theorem textF_append (a : Int) (s : ByteArray) (cs ds : List Chg) : textF a s (cs ++ ds) = textF a (textF a s cs) ds := List.foldl_append
theorem textD_append (a : Int) (cs ds : List Chg) : textD a (cs ++ ds) = textF a (textD a cs) ds := textF_append a _ cs ds
theorem textD_one (a : Int) (cs : List Chg) (c : Chg) : textD a (cs ++ [c]) = chgD a (textD a cs) c := textD_append a cs [c]
theorem textD_take (a : Int) (cs : List Chg) (j : Nat) (c : Chg) (h : cs[j]? = some c) : textD a (cs.take (j + 1)) = chgD a (textD a (cs.take j)) c := by
  obtain ⟨hj, rfl⟩ := List.getElem?_eq_some_iff.1 h
  rw [List.take_succ_eq_append_getElem hj, textD_one]
/-- What has been told a device: areas that there are; never more than there is room for. -/
structure DOk (cs : List Chg) : Prop where
  ar : ∀ c ∈ cs, c.a = 0 ∨ c.a = 1
  sz : ∀ (a : Int) (j : Nat), (textD a (cs.take j)).size ≤ 16384
theorem DOk.nil : DOk [] := ⟨fun _ h => by simp at h, fun a j => by rw [List.take_nil]; exact (by decide : (ByteArray.mk #[]).size ≤ 16384)⟩
theorem DOk.size {cs : List Chg} (ok : DOk cs) (a : Int) : (textD a cs).size ≤ 16384 := by
  have := ok.sz a cs.length
  rwa [List.take_length] at this
theorem DOk.snoc {cs : List Chg} (ok : DOk cs) {c : Chg} (ha : c.a = 0 ∨ c.a = 1) (h : (textD c.a (cs ++ [c])).size ≤ 16384) : DOk (cs ++ [c]) := by
  refine ⟨fun x hx => ?_, fun a j => ?_⟩
  · rcases List.mem_append.1 hx with hx | hx
    · exact ok.ar x hx
    · rw [List.mem_singleton] at hx; subst hx; exact ha
  · rcases Nat.lt_or_ge cs.length j with hj | hj
    · rw [List.take_of_length_le (by simp; omega)]
      by_cases e : c.a = a
      · rw [← e]; exact h
      · rw [textD_one, chgD, if_neg e]; exact ok.size a
    · rw [List.take_append_of_le_length hj]; exact ok.sz a j
theorem DOk.take {cs : List Chg} (ok : DOk cs) (n : Nat) : DOk (cs.take n) := ⟨fun x hx => ok.ar x (List.mem_of_mem_take hx), fun a j => by rw [List.take_take]; exact ok.sz a _⟩
/-- What is left behind a loss of power. -/
def cutB (part : Int) (s : ByteArray) : ByteArray := s.extract 0 (min s.size part.toNat)
def crashD (cs : List Chg) (k : Nat) (keep part : Int) : List Chg :=
  let n := min (cs.length - k) keep.toNat
  cs.take (k + n) ++ (match cs[k + n]? with
    | some c => if c.r = true then [] else [⟨c.a, false, cutB part c.s⟩]
    | none => [])
theorem cutB_le (part : Int) (s : ByteArray) : (cutB part s).size ≤ s.size := by
  rw [← bl_length, cutB, bl_extract, List.length_take, List.length_drop, bl_length]; omega
theorem crashD_ok {cs : List Chg} (ok : DOk cs) (k : Nat) (keep part : Int) : DOk (crashD cs k keep part) := by
  unfold crashD
  simp only
  cases hc : cs[k + min (cs.length - k) keep.toNat]? with
  | none => simp only [List.append_nil]; exact ok.take _
  | some c =>
    simp only
    split
    · rw [List.append_nil]; exact ok.take _
    · rename_i hr
      refine (ok.take _).snoc (ok.ar c (List.mem_of_getElem? hc)) ?_
      have h1 := ok.sz c.a (k + min (cs.length - k) keep.toNat + 1)
      rw [textD_take _ _ _ _ hc, chgD, if_pos rfl, if_neg hr, ByteArray.size_append] at h1
      have := cutB_le part c.s
      rw [textD_one, chgD, if_pos rfl, if_neg (by simp), ByteArray.size_append]
      show (textD c.a (cs.take (k + min (cs.length - k) keep.toNat))).size + (cutB part c.s).size ≤ 16384
      omega
theorem crashD_len (cs : List Chg) (k : Nat) (keep part : Int) : (crashD cs k keep part).length ≤ cs.length := by
  unfold crashD
  simp only
  rw [List.length_append, List.length_take]
  cases hc : cs[k + min (cs.length - k) keep.toNat]? with
  | none => simp only [List.length_nil]; omega
  | some c =>
    have := (List.getElem?_eq_some_iff.1 hc).1
    simp only
    split <;> simp <;> omega

/-! The objects -/
theorem TK.slc_chgs : slcB PG TY.s_disk_change = some (TY.disk_change, 3, 32) := by kernel_rfl
theorem TK.zero_chg : zeroB PG TY.disk_change = some [.int .i64 0, .bool false, .string ByteArray.empty] := by kernel_rfl
theorem TK.sl_chgs : slT PG TY.s_disk_change = true := by kernel_rfl
def dskV (n0 s0 n1 s1 : ByteArray) (v : Value) : AObj := .vec TY.disk_Disk (plains [.string n0, .string s0, .string n1, .string s1, v]) 5
def dskO (cs : List Chg) (k : Nat) (v : Value) : AObj := dskV (textD 0 cs) (textD 0 (cs.take k)) (textD 1 cs) (textD 1 (cs.take k)) v
def CRow (r : Option (Nat × AObj)) (v : Value) (cs : List Chg) : Prop := Row r v TY.disk_change 3 (cs.flatMap Chg.cells)
theorem set3 (L : List (Option (Nat × AObj))) (i : Nat) (x y r : Option (Nat × AObj)) : ((L.set i x).set (i + 1) r).set i y = (L.set i y).set (i + 1) r := by
  rw [List.set_comm _ _ (by omega), List.set_set]
structure DAt (L : List (Option (Nat × AObj))) (i kD : Nat) (cs : List Chg) (k : Nat) (v : Value) (r : Option (Nat × AObj)) : Prop where
  p : L[i]? = some (some (kD, dskO cs k v))
  q : L[i + 1]? = some r
theorem DAt.lt {L : List (Option (Nat × AObj))} {i kD k : Nat} {cs : List Chg} {v : Value} {r : Option (Nat × AObj)} (A : DAt L i kD cs k v r) : i < L.length ∧ i + 1 < L.length := ⟨(List.getElem?_eq_some_iff.1 A.p).1, (List.getElem?_eq_some_iff.1 A.q).1⟩
theorem DAt.app {L : List (Option (Nat × AObj))} {i kD k : Nat} {cs : List Chg} {v : Value} {r : Option (Nat × AObj)} (A : DAt L i kD cs k v r) (M : List (Option (Nat × AObj))) : DAt (L ++ M) i kD cs k v r := ⟨up_app M A.p, up_app M A.q⟩
/-- The device has changed, and nothing else. -/
def setD (L : List (Option (Nat × AObj))) (i kD : Nat) (cs : List Chg) (k : Nat) (v : Value) (r : Option (Nat × AObj)) : List (Option (Nat × AObj)) := (L.set i (some (kD, dskO cs k v))).set (i + 1) r
theorem setD_app {L M : List (Option (Nat × AObj))} {i kD k : Nat} {cs : List Chg} {v : Value} {r : Option (Nat × AObj)} (h : i + 1 < L.length) : setD (L ++ M) i kD cs k v r = setD L i kD cs k v r ++ M := by
  unfold setD
  rw [List.set_append_left _ _ (by omega), List.set_append_left _ _ (by rw [List.length_set]; omega)]

section
variable {B : RO} {h0 h h' : Heap} {L : List (Option (Nat × AObj))} {r : Option (Nat × AObj)} {i kD k : Nat} {v : Value} {cs : List Chg}
theorem Keep.cellA (E : Keep B h0 L h) (i : Nat) {b m j n : Nat} {t : TypeId} {fs : List Fld} {u : Value} (hi : L[i]? = some (some (b, .vec t fs n))) (hj : fs[m + j]? = some (.plain u)) : cellH B h (Addr.add ⟨b, m, none⟩ j) = some u := by
  rw [addr_more]; exact E.cell i hi hj
theorem Keep.storeA (E : Keep B h0 L h) (i m j : Nat) (u : Value) {b n : Nat} {t : TypeId} {fs : List Fld} {w : Value} (hi : L[i]? = some (some (b, .vec t fs n))) (hj : fs[m + j]? = some (.plain w)) :
    storeH h (Addr.add ⟨b, m, none⟩ j) u = some (h.set b (.vec t (fs.set (m + j) (.plain u)) n)) ∧ Keep B h0 (L.set i (some (b, .vec t (fs.set (m + j) (.plain u)) n))) (h.set b (.vec t (fs.set (m + j) (.plain u)) n)) := by
  rw [addr_more]; exact E.store i (m + j) u hi hj
theorem dnew_wp {Q : Option Addr → Heap → Prop} (hQ : ∀ k h', Keep B h [some (k, dskO [] 0 (.slice none 0 0)), none] h' → Q (some ⟨k, 0, none⟩) h') : C_disk_New B h Q := by
  refine C_disk_New.of ?_
  unfold S_disk_New
  intro k2 a2 b2 h3 e3
  exact Fin.of (hQ k2 h3 ((Keep.nil B h).made a2 b2 e3).gap)
theorem dgood_wp {a : Int} {Q : Bool → Heap → Prop} (hQ : Q (decide (a = 0 ∨ a = 1)) h) : C_disk_good B a h Q := by
  refine C_disk_good.of ?_
  unfold S_disk_good
  refine ⟨fun e => Fin.of ?_, fun e => Fin.of ?_⟩
  · rw [decide_eq_true (.inl e)] at hQ; exact hQ
  · have : (a == 1) = decide (a = 0 ∨ a = 1) := by
      rw [Bool.eq_iff_iff, beq_iff_eq, decide_eq_true_eq]
      exact ⟨.inr, fun h => h.resolve_left e⟩
    rw [this]; exact hQ
theorem dread_wp {a : Int} {Q : ByteArray → Heap → Prop} (E : Keep B h0 L h) (A : DAt L i kD cs k v r) (ha : a = 0 ∨ a = 1) (hQ : Q (textD a cs) h) : C_disk_Disk_Read B (some ⟨kD, 0, none⟩) a h Q := by
  refine C_disk_Disk_Read.of ?_
  unfold S_disk_Disk_Read
  refine ⟨fun e => (by cases e), fun _ => dgood_wp ⟨fun _ => Fin.of ?_, fun e => absurd ha (by simpa using e)⟩⟩
  unfold S_disk_Disk_Read_J1
  rcases ha with rfl | rfl
  · exact ⟨_, rfl, by omega, by omega, _, E.cellA i (m := 0) A.p rfl, Fin.of hQ⟩
  · exact ⟨_, rfl, by omega, by omega, _, E.cellA i (m := 0) A.p rfl, Fin.of hQ⟩
/-- A change more is told: it waits. -/
theorem dwait {c : Chg} {n0 n1 : ByteArray} {h6 : Heap} (E : Keep B h0 (L.set i (some (kD, dskV n0 (textD 0 (cs.take k)) n1 (textD 1 (cs.take k)) v))) h6) (A : DAt L i kD cs k v r) (R : CRow r v (cs.drop k)) (hk : k ≤ cs.length) (hl : cs.length ≤ 100000) (h0' : n0 = textD 0 (cs ++ [c])) (h1' : n1 = textD 1 (cs ++ [c]))
    {Q : Heap → Prop} (hQ : ∀ v' r' h', CRow r' v' ((cs ++ [c]).drop k) → Keep B h0 (setD L i kD (cs ++ [c]) k v' r') h' → Q h') :
    LdSl B h6 (Addr.add ⟨kD, 0, none⟩ 4) fun a34 n35 c36 h37 => ∀ k38 : Nat, h37 k38 = none → B k38 = none → ∀ h39 : Heap, h39 = Heap.set h37 k38 (.vec TY.disk_change (plains c.cells) 3) →
      semH PG B (Builtin.append_ #[TY.s_disk_change, TY.s_disk_change] TY.s_disk_change #[(Value.slice a34 n35 c36), (Value.slice (some ⟨k38, 0, none⟩) 1 1)]) h39 (fun v h40 => ∃ a41 : Option Addr, ∃ n42 : Nat, ∃ c43 : Nat, v = (Value.slice a41 n42 c43) ∧
        ∃ A44 : Addr, (some ⟨kD, 0, none⟩ : Option Addr) = some A44 ∧ ∃ h46 : Heap, storeH h40 (Addr.add A44 4) (Value.slice a41 n42 c43) = some h46 ∧ Fin B h46 Q) := by
  obtain ⟨a, m, cc, rfl⟩ := Row.slice R
  have hi : (L.set i (some (kD, dskV n0 (textD 0 (cs.take k)) n1 (textD 1 (cs.take k)) (.slice a m cc))))[i]? = some (some (kD, dskV n0 (textD 0 (cs.take k)) n1 (textD 1 (cs.take k)) (.slice a m cc))) := by rw [List.getElem?_set_self A.lt.1]
  have hq : (L.set i (some (kD, dskV n0 (textD 0 (cs.take k)) n1 (textD 1 (cs.take k)) (.slice a m cc))))[i + 1]? = some r := by rw [List.getElem?_set_ne (by omega)]; exact A.q
  refine .inl ⟨a, m, cc, E.cellA i (m := 0) hi rfl, fun k38 a38 b38 h39 e39 => ?_⟩
  have hfl := flatMap_length Chg.len (cs.drop k)
  rw [List.length_drop] at hfl
  refine E.push1 (i + 1) hq R TK.slc_chgs TK.zero_chg rfl (by omega) (by omega) TK.sl_chgs rfl c.one (by rw [hfl, Chg.len]; omega) a38 b38 e39 fun a' m' c' r' h' R' E' => ?_
  have hi' : ((L.set i (some (kD, dskV n0 (textD 0 (cs.take k)) n1 (textD 1 (cs.take k)) (.slice a m cc)))).set (i + 1) r')[i]? = some (some (kD, dskV n0 (textD 0 (cs.take k)) n1 (textD 1 (cs.take k)) (.slice a m cc))) := by rw [List.getElem?_set_ne (by omega)]; exact hi
  obtain ⟨es, E2⟩ := E'.storeA i 0 4 (.slice a' m' c') hi' rfl
  rw [set3] at E2
  refine ⟨a', m', c', rfl, _, rfl, _, es, Fin.of (hQ (.slice a' m' c') r' _ ?_ ?_)⟩
  · unfold CRow
    rw [List.drop_append_of_le_length hk, List.flatMap_append]
    simp only [List.flatMap_cons, List.flatMap_nil, List.append_nil]
    exact R'
  · have e : dskO (cs ++ [c]) k (.slice a' m' c') = dskV n0 (textD 0 (cs.take k)) n1 (textD 1 (cs.take k)) (.slice a' m' c') := by
      unfold dskO; rw [List.take_append_of_le_length hk, h0', h1']
    unfold setD
    rw [e]
    exact E2
theorem dappend_wp {a : Int} {s : ByteArray} {Q : Int → Heap → Prop} (E : Keep B h0 L h) (A : DAt L i kD cs k v r) (R : CRow r v (cs.drop k)) (hk : k ≤ cs.length) (ok : DOk cs) (hl : cs.length ≤ 100000) (hs : s.size ≤ 1000000000)
    (hA : ¬ (a = 0 ∨ a = 1) → Q 1 h) (hF : (a = 0 ∨ a = 1) → 16384 < (textD a cs).size + s.size → Q 6 h)
    (hQ : (a = 0 ∨ a = 1) → (textD a cs).size + s.size ≤ 16384 → ∀ v' r' h', CRow r' v' ((cs ++ [Chg.mk a false s]).drop k) → Keep B h0 (setD L i kD (cs ++ [Chg.mk a false s]) k v' r') h' → Q 0 h') : C_disk_Disk_Append B (some ⟨kD, 0, none⟩) a s h Q := by
  refine C_disk_Disk_Append.of ?_
  unfold S_disk_Disk_Append
  refine ⟨fun e => (by cases e), fun _ => dgood_wp ?_⟩
  refine ⟨fun hg => ?_, fun e => Fin.of (hA (by simpa using e))⟩
  have ha : a = 0 ∨ a = 1 := by simpa using hg
  have hz := ok.size a
  have hw : IntKind.wrap .i64 (16384 - (((textD a cs).size : Nat) : Int)) = 16384 - (((textD a cs).size : Nat) : Int) := w64 (by omega) (by omega)
  unfold S_disk_Disk_Append_J1
  have n01 : ¬ ((1 : Int) = 0) := by decide
  have n10 : ¬ ((0 : Int) = 1) := by decide
  rcases ha with rfl | rfl
  · refine ⟨_, rfl, by omega, by omega, textD 0 cs, E.cellA i (m := 0) A.p rfl, fun hgt => Fin.of (hF (.inl rfl) (by rw [hw] at hgt; omega)), fun hle => Fin.of ?_⟩
    rw [hw] at hle
    refine ⟨_, rfl, by omega, by omega, textD 0 cs, E.cellA i (m := 0) A.p rfl, by omega, _, rfl, by omega, by omega, ?_⟩
    obtain ⟨es, E1⟩ := E.storeA i 0 (Int.toNat 0 * 2) (.string (textD 0 cs ++ s)) A.p rfl
    refine ⟨_, es, _, rfl, ?_⟩
    exact dwait (c := ⟨0, false, s⟩) E1 A R hk hl (by rw [textD_one]; rfl) (by rw [textD_one]; rfl) (hQ (.inl rfl) (by omega))
  · refine ⟨_, rfl, by omega, by omega, textD 1 cs, E.cellA i (m := 0) A.p rfl, fun hgt => Fin.of (hF (.inr rfl) (by rw [hw] at hgt; omega)), fun hle => Fin.of ?_⟩
    rw [hw] at hle
    refine ⟨_, rfl, by omega, by omega, textD 1 cs, E.cellA i (m := 0) A.p rfl, by omega, _, rfl, by omega, by omega, ?_⟩
    obtain ⟨es, E1⟩ := E.storeA i 0 (Int.toNat 1 * 2) (.string (textD 1 cs ++ s)) A.p rfl
    refine ⟨_, es, _, rfl, ?_⟩
    exact dwait (c := ⟨1, false, s⟩) E1 A R hk hl (by rw [textD_one]; rfl) (by rw [textD_one]; rfl) (hQ (.inr rfl) (by omega))
theorem dreset_wp {a : Int} {Q : Int → Heap → Prop} (E : Keep B h0 L h) (A : DAt L i kD cs k v r) (R : CRow r v (cs.drop k)) (hk : k ≤ cs.length) (hl : cs.length ≤ 100000) (ha : a = 0 ∨ a = 1)
    (hQ : ∀ v' r' h', CRow r' v' ((cs ++ [Chg.mk a true ByteArray.empty]).drop k) → Keep B h0 (setD L i kD (cs ++ [Chg.mk a true ByteArray.empty]) k v' r') h' → Q 0 h') : C_disk_Disk_Reset B (some ⟨kD, 0, none⟩) a h Q := by
  refine C_disk_Disk_Reset.of ?_
  unfold S_disk_Disk_Reset
  refine ⟨fun e => (by cases e), fun _ => dgood_wp ?_⟩
  refine ⟨fun hg => Fin.of ?_, fun e => absurd ha (by simpa using e)⟩
  unfold S_disk_Disk_Reset_J1
  rcases ha with rfl | rfl
  · obtain ⟨es, E1⟩ := E.storeA i 0 (Int.toNat 0 * 2) (.string (ByteArray.mk #[])) A.p rfl
    refine ⟨_, rfl, by omega, by omega, _, es, _, rfl, ?_⟩
    exact dwait (c := ⟨0, true, ByteArray.empty⟩) E1 A R hk hl (by rw [textD_one]; rfl) (by rw [textD_one]; rfl) hQ
  · obtain ⟨es, E1⟩ := E.storeA i 0 (Int.toNat 1 * 2) (.string (ByteArray.mk #[])) A.p rfl
    refine ⟨_, rfl, by omega, by omega, _, es, _, rfl, ?_⟩
    exact dwait (c := ⟨1, true, ByteArray.empty⟩) E1 A R hk hl (by rw [textD_one]; rfl) (by rw [textD_one]; rfl) hQ
/-- A change is safe. -/
theorem land_wp {n0 s0 n1 s1 : ByteArray} {c : Chg} {Q : Heap → Prop} (E : Keep B h0 L h) (hi : L[i]? = some (some (kD, dskV n0 s0 n1 s1 v))) (ha : c.a = 0 ∨ c.a = 1) (hz : c.r = false → s0.size + c.s.size ≤ 4611686018427387904 ∧ s1.size + c.s.size ≤ 4611686018427387904)
    (hQ : ∀ h', Keep B h0 (L.set i (some (kD, dskV n0 (chgD 0 s0 c) n1 (chgD 1 s1 c) v))) h' → Q h') : C_disk_Disk_land B (some ⟨kD, 0, none⟩) c.a c.r c.s h Q := by
  refine C_disk_Disk_land.of ?_
  unfold S_disk_Disk_land
  intro k5 a5 b5 h6 e6
  have E1 := E.made a5 b5 e6
  have g := E1.last
  have hi1 := up_app [some (k5, AObj.vec TY.disk_change (plains [.int .i64 c.a, .bool c.r, .string c.s]) 3)] hi
  have il := (List.getElem?_eq_some_iff.1 hi).1
  have n01 : ¬ ((1 : Int) = 0) := by decide
  have n10 : ¬ ((0 : Int) = 1) := by decide
  have key : ∀ (x0 x1 : ByteArray) (h' : Heap), Keep B h0 ((L ++ [some (k5, AObj.vec TY.disk_change (plains [.int .i64 c.a, .bool c.r, .string c.s]) 3)]).set i (some (kD, dskV n0 x0 n1 x1 v))) h' → x0 = chgD 0 s0 c → x1 = chgD 1 s1 c → Fin B h' Q := fun x0 x1 h' E' e0 e1 => by
    subst e0 e1
    rw [List.set_append_left _ _ il] at E'
    exact Fin.of (hQ h' E'.pop)
  have z00 : (0 : Int) ≤ 0 := by decide
  have z02 : (0 : Int) < (2 : Nat) := by decide
  have z01 : (0 : Int) ≤ 1 := by decide
  have z12 : (1 : Int) < (2 : Nat) := by decide
  obtain ⟨ca, cr, s⟩ := c
  simp only at ha hz
  refine ⟨cr, cellH_vec g rfl, fun hr => ?_, fun hr => ?_⟩
  · subst hr
    rcases ha with rfl | rfl
    · obtain ⟨es, E2⟩ := E1.storeA i (0 + Int.toNat 0 * 2) 1 (.string (ByteArray.mk #[])) hi1 rfl
      refine ⟨_, cellH_vec g rfl, _, rfl, z00, z02, _, by rw [addr_more]; exact es, key _ _ _ E2 rfl rfl⟩
    · obtain ⟨es, E2⟩ := E1.storeA i (0 + Int.toNat 1 * 2) 1 (.string (ByteArray.mk #[])) hi1 rfl
      refine ⟨_, cellH_vec g rfl, _, rfl, z01, z12, _, by rw [addr_more]; exact es, key _ _ _ E2 rfl rfl⟩
  · subst hr
    rcases ha with rfl | rfl
    · obtain ⟨es, E2⟩ := E1.storeA i (0 + Int.toNat 0 * 2) 1 (.string (s0 ++ s)) hi1 rfl
      refine ⟨_, cellH_vec g rfl, _, rfl, z00, z02, s0, by rw [addr_more]; exact E1.cellA i hi1 rfl, _, cellH_vec g rfl, (hz rfl).1, _, rfl, z00, z02, _, by rw [addr_more]; exact es, key _ _ _ E2 rfl rfl⟩
    · obtain ⟨es, E2⟩ := E1.storeA i (0 + Int.toNat 1 * 2) 1 (.string (s1 ++ s)) hi1 rfl
      refine ⟨_, cellH_vec g rfl, _, rfl, z01, z12, s1, by rw [addr_more]; exact E1.cellA i hi1 rfl, _, cellH_vec g rfl, (hz rfl).2, _, rfl, z01, z12, _, by rw [addr_more]; exact es, key _ _ _ E2 rfl rfl⟩
end
end Go.Proofs.Ytcncdfmnpmmikaa.H
