/- Tomes: the bytes; the word of the law's package: contracts. No condition. -/
import Derived.Test.YtcncdfmnpmmikaaTb
namespace Go.Proofs.Ytcncdfmnpmmikaa.H
open Go
set_option linter.unusedVariables false
set_option maxRecDepth 100000

def fileB (x : Int × Bool × ByteArray) : List UInt8 := natI x.1 ++ (natB x.2.2.size ++ bl x.2.2)
def tomeB (l : List (FileS × Int)) : List UInt8 := (filesOf l).flatMap fileB
/-- What a tome of the program is always. -/
structure TomeOk (l : List (FileS × Int)) : Prop where
  n6 : l.length = 6
  good : ∀ x ∈ l, goodF x.1.1 x.1.2 = true
theorem TomeOk.size {l : List (FileS × Int)} (k : TomeOk l) : ∀ x ∈ l, x.1.2.size ≤ 32 := fun x hx => by
  have := k.good x hx
  unfold goodF at this
  simp only [Bool.and_eq_true, decide_eq_true_eq] at this
  exact this.1
theorem TomeOk.zero : TomeOk (List.replicate 6 ((false, ByteArray.empty), 0)) := ⟨rfl, fun x hx => by
  rw [List.mem_replicate] at hx
  rw [hx.2]; decide⟩
theorem TomeOk.set {l : List (FileS × Int)} (k : TomeOk l) (n : Int) (b : Bool) (s : ByteArray) (ver : Int) : TomeOk (setF l n b s ver) := by
  refine ⟨by rw [setF_len]; exact k.n6, fun x hx => ?_⟩
  unfold setF at hx
  split at hx
  · rename_i h
    unfold setB at h
    rw [Bool.and_eq_true] at h
    rcases List.mem_or_eq_of_mem_set hx with h1 | h1
    · exact k.good x h1
    · rw [h1]; exact h.1
  · exact k.good x hx
theorem allF_mem {l : List (FileS × Int)} {x : Int × Bool × ByteArray} (h : x ∈ allF l) : ∃ y ∈ l, x.2 = y.1 ∧ 0 ≤ x.1 ∧ x.1 < l.length := by
  obtain ⟨q, hq⟩ := List.getElem?_of_mem h
  rw [allF_get] at hq
  obtain ⟨y, hy, rfl⟩ := Option.map_eq_some_iff.1 hq
  have := (List.getElem?_eq_some_iff.1 hy).1
  exact ⟨y, List.mem_of_getElem? hy, rfl, by simp, by simp only; omega⟩
theorem filesOf_mem {l : List (FileS × Int)} {x : Int × Bool × ByteArray} (h : x ∈ filesOf l) : ∃ y ∈ l, x.2 = y.1 ∧ 0 ≤ x.1 ∧ x.1 < l.length := allF_mem (List.mem_filter.1 h).1
theorem fileB_len (k : (x : Int × Bool × ByteArray) → Prop) {x : Int × Bool × ByteArray} (h1 : x.1 ≤ 1000) (h2 : x.2.2.size ≤ 1000) : (fileB x).length ≤ 1020 := by
  unfold fileB
  have a := natI_length (i := x.1) (by omega)
  have b := natB_length (n := x.2.2.size) (by omega)
  rw [List.length_append, List.length_append, bl_length]
  omega
theorem flat_len {x : Int × Bool × ByteArray} : ∀ (l : List (Int × Bool × ByteArray)), (∀ x ∈ l, x.1 ≤ 1000 ∧ x.2.2.size ≤ 1000) → (l.flatMap fileB).length ≤ 1020 * l.length
  | [], _ => by simp
  | y :: l, h => by
    have h1 := fileB_len (fun _ => True) (h y (by simp)).1 (h y (by simp)).2
    have h2 := flat_len (x := x) l (fun z hz => h z (by simp [hz]))
    rw [List.flatMap_cons, List.length_append, List.length_cons]
    omega

section
variable {B : RO} {h0 h h' : Heap} {L : List (Option (Nat × AObj))} {r : Option (Nat × AObj)} {i kT kR : Nat} {v : Value} {l : List (FileS × Int)}
theorem tbytes_wp {Q : ByteArray → Heap → Prop} (E : Keep B h0 L h) (A : TomeAt L i kT kR v r) (R : FRow r v l) (k : TomeOk l)
    (hQ : ∀ h', Keep B h0 L h' → Q (ba (tomeB l)) h') : C_tome_Tome_Bytes B (some ⟨kT, 0, none⟩) h Q := by
  refine C_tome_Tome_Bytes.of ?_
  unfold S_tome_Tome_Bytes
  intro k3 a3 b3 h4 e4 k5 a5 b5 h6 e6
  have E1 := E.made a3 b3 e4
  have E2 := E1.made a5 b5 e6
  have up2 : ∀ {j : Nat} {x : Option (Nat × AObj)} (y z : List (Option (Nat × AObj))), L[j]? = some x → (L ++ y ++ z)[j]? = some x := fun y z hj => up_app z (up_app y hj)
  have up3 : ∀ {j : Nat} {x : Option (Nat × AObj)} (y z u : List (Option (Nat × AObj))), L[j]? = some x → (L ++ y ++ z ++ u)[j]? = some x := fun y z u hj => up_app u (up_app z (up_app y hj))
  refine ⟨_, storeH_vec E2.last rfl, ?_⟩
  have E3 := E2.putLast (.vec TY.p_stylus_Stylus (plains [.pointer (some ⟨k3, 0, none⟩)]) 1)
  refine tall_wp fun kc ac bc => ?_
  have E4 := E3.new (o := .vec TY.p_tome_Tome [.plain (.pointer (some ⟨kT, 0, none⟩))] 1) ac bc
  have it := tall_iter (B := B) (k3 := kc) (kT := kT) (kR := kR) R (by rw [k.n6]; omega)
  have mid : ∀ (x y z : Option (Nat × AObj)), (L ++ [x] ++ [y] ++ [z])[L.length]? = some x ∧ (L ++ [x] ++ [y] ++ [z])[L.length + 1]? = some y ∧ (L ++ [x] ++ [y] ++ [z])[L.length + 2]? = some z := fun x y z => by
    refine ⟨?_, ?_, ?_⟩ <;> (rw [List.append_assoc, List.append_assoc, List.getElem?_append_right (by omega)]; simp)
  have mset : ∀ (x x' y z : Option (Nat × AObj)) , (L ++ [x] ++ [y] ++ [z]).set L.length x' = L ++ [x'] ++ [y] ++ [z] := fun x x' y z => by
    rw [List.append_assoc, List.append_assoc, List.set_append_right _ _ (Nat.le_refl _), Nat.sub_self, List.append_assoc, List.append_assoc]; rfl
  have hn6 := k.n6
  have small : ∀ x ∈ filesOf l, x.1 ≤ 1000 ∧ x.2.2.size ≤ 1000 := fun x hx => by
    obtain ⟨y, hy, e1, e2, e3⟩ := filesOf_mem hx
    have := k.size y hy
    have e4 : x.2.2 = y.1.2 := by rw [e1]
    exact ⟨by omega, by rw [e4]; omega⟩
  have few : (filesOf l).length ≤ 6 := by
    have := List.length_filter_le (fun x : Int × Bool × ByteArray => x.2.1) (allF l)
    rw [allF_len, k.n6] at this
    exact this
  refine ⟨filesOf l, tG kc kT kR v r, fun q h' => Keep B h0 (L ++ [some (k3, stylO (((filesOf l).take q).flatMap fileB))] ++ [some (k5, .vec TY.p_stylus_Stylus (plains [.pointer (some ⟨k3, 0, none⟩)]) 1)] ++ [some (kc, .vec TY.p_tome_Tome [.plain (.pointer (some ⟨kT, 0, none⟩))] 1)]) h', it, tG_ins, ?_, ?_, ?_, ?_⟩
  · intro q h' E
    exact ⟨E.last, E.at i (up3 _ _ _ A.p), E.at (i + 1) (up3 _ _ _ A.f.p), fun k o e => E.at (i + 2) (by rw [up3 _ _ _ A.f.q, e])⟩
  · have g3 := E4.at L.length (mid _ _ _).1
    refine Fin.ent (styl_new g3) (Fin.of ?_)
    have E5 := E4.put (o' := stylO []) L.length (mid _ _ _).1
    rw [mset] at E5
    exact E5
  · rintro q h14 i10 b11 s12 hg E
    have hx := List.mem_of_getElem? hg
    have sm := small _ hx
    intro k18 a18 b18 h19 e19
    have F1 := E.made a18 b18 e19
    refine ⟨_, stores_whole F1.last rfl (by simp) (by simp [isOne]) (by simp), ?_⟩
    have F2 := F1.putLast (.vec TY.file_File (plains [.bool b11, .string s12]) 2)
    have c5 := F2.cell (L.length + 1) (up_app _ (mid _ _ _).2.1) (j := 0) rfl
    refine ⟨_, c5, ?_⟩
    intro k22 a22 b22 h23 e23
    have F3 := F2.made a22 b22 e23
    have hlen := flat_len (x := (0, false, ByteArray.empty)) ((filesOf l).take q) (fun x hx => small x (List.mem_of_mem_take hx))
    have htl : ((filesOf l).take q).length ≤ 6 := by rw [List.length_take]; omega
    have g3 := F3.at L.length (up_app _ (up_app _ (mid _ _ _).1))
    refine nat1_wp g3 F3.last (fun e => by rw [e, F2.at L.length (up_app _ (mid _ _ _).1)] at a22; cases a22) (by omega) (by omega) ?_
    have F4 := F3.put (o' := stylO (((filesOf l).take q).flatMap fileB ++ natI i10)) L.length (up_app _ (up_app _ (mid _ _ _).1))
    have s4 : (L ++ [some (k3, stylO (((filesOf l).take q).flatMap fileB))] ++ [some (k5, AObj.vec TY.p_stylus_Stylus (plains [.pointer (some ⟨k3, 0, none⟩)]) 1)] ++ [some (kc, AObj.vec TY.p_tome_Tome [.plain (.pointer (some ⟨kT, 0, none⟩))] 1)] ++ [some (k18, AObj.vec TY.file_File (plains [.bool b11, .string s12]) 2)] ++ [some (k22, AObj.vec 3 (plains [Value.int .i64 i10]) 1)]).set L.length (some (k3, stylO (((filesOf l).take q).flatMap fileB ++ natI i10)))
        = L ++ [some (k3, stylO (((filesOf l).take q).flatMap fileB ++ natI i10))] ++ [some (k5, AObj.vec TY.p_stylus_Stylus (plains [.pointer (some ⟨k3, 0, none⟩)]) 1)] ++ [some (kc, AObj.vec TY.p_tome_Tome [.plain (.pointer (some ⟨kT, 0, none⟩))] 1)] ++ [some (k18, AObj.vec TY.file_File (plains [.bool b11, .string s12]) 2)] ++ [some (k22, AObj.vec 3 (plains [Value.int .i64 i10]) 1)] := by
      rw [List.set_append_left _ _ (by simp <;> omega), List.set_append_left _ _ (by simp <;> omega), mset]
    rw [s4] at F4
    have F5 := F4.pop
    refine ⟨_, F5.cell (L.length + 1) (up_app _ (mid _ _ _).2.1) (j := 0) rfl, _, cellH_vec F5.last rfl, ?_⟩
    intro k27 a27 b27 h28 e28
    have F6 := F5.made a27 b27 e28
    have g3' := F6.at L.length (up_app _ (up_app _ (mid _ _ _).1))
    have hni := natI_length (i := i10) (by omega)
    refine text1_wp g3' F6.last (fun e => by rw [e, F5.at L.length (up_app _ (mid _ _ _).1)] at a27; cases a27) (by rw [List.length_append]; have := sm.2; simp only at this; omega) (Fin.of ?_)
    have F7 := F6.put (o' := stylO (((filesOf l).take q).flatMap fileB ++ natI i10 ++ (natB s12.size ++ bl s12))) L.length (up_app _ (up_app _ (mid _ _ _).1))
    rw [List.set_append_left _ _ (by simp <;> omega), List.set_append_left _ _ (by simp <;> omega), mset] at F7
    have e7 : ((filesOf l).take (q + 1)).flatMap fileB = ((filesOf l).take q).flatMap fileB ++ natI i10 ++ (natB s12.size ++ bl s12) := by
      obtain ⟨hq, hx⟩ := List.getElem?_eq_some_iff.1 hg
      rw [List.take_succ_eq_append_getElem hq, List.flatMap_append, List.flatMap_cons, List.flatMap_nil, List.append_nil, hx, List.append_assoc]
      rfl
    show Keep B h0 (L ++ [some (k3, stylO (((filesOf l).take (q + 1)).flatMap fileB))] ++ [some (k5, .vec TY.p_stylus_Stylus (plains [.pointer (some ⟨k3, 0, none⟩)]) 1)] ++ [some (kc, .vec TY.p_tome_Tome [.plain (.pointer (some ⟨kT, 0, none⟩))] 1)]) _
    rw [e7]
    exact F7.pop.pop
  · intro h14 E
    rw [List.take_length] at E
    refine ⟨_, E.cell (L.length + 1) (mid _ _ _).2.1 (j := 0) rfl, bytes_wp (E.at L.length (mid _ _ _).1) (Fin.of (hQ _ E.pop.pop.pop))⟩
end
end Go.Proofs.Ytcncdfmnpmmikaa.H
