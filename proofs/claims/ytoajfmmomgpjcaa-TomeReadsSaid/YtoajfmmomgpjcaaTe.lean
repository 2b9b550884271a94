/- Tomes: the document's answer, and nil tomes: contracts. No condition. -/
import Derived.Test.YtoajfmmomgpjcaaTd
import Derived.Test.YtoajfmmomgpjcaaKc
import Derived.Test.YtoajfmmomgpjcaaHp
namespace Go.Proofs.Ytoajfmmomgpjcaa.H
open Go Go.RowKit
set_option linter.unusedVariables false
set_option maxRecDepth 100000

def fileC (x : FileS × Int) : List Value := [.bool x.1.1, .string x.1.2]
theorem fileC_len (x : FileS × Int) : (fileC x).length = 2 := rfl
def filesC (l : FL) : List Value := l.flatMap fileC
def versC (l : FL) : List Value := l.map fun x => .int .i64 x.2
theorem filesC_len (l : FL) : (filesC l).length = l.length * 2 := flatMap_length fileC_len l
theorem versC_len (l : FL) : (versC l).length = l.length := by simp [versC]
def refO (l : FL) : AObj := .vec TY.countermandref10_Tome (plains (filesC l ++ versC l)) 18
theorem filesC_get (l : FL) (q : Nat) (x : FileS × Int) (h : l[q]? = some x) : (filesC l)[q * 2]? = some (.bool x.1.1) ∧ (filesC l)[q * 2 + 1]? = some (.string x.1.2) := by
  refine ⟨?_, ?_⟩
  · have := flatMap_at (cells := fileC) fileC_len l q x 0 _ h rfl
    exact this
  · exact flatMap_at (cells := fileC) fileC_len l q x 1 _ h rfl
theorem extract_files (l : FL) (q : Nat) (x : FileS × Int) (h : l[q]? = some x) : Array.extract (filesC l).toArray (q * 2) (q * 2 + 2) = #[.bool x.1.1, .string x.1.2] := by
  obtain ⟨hq, rfl⟩ := List.getElem?_eq_some_iff.1 h
  apply Array.toList_inj.1
  rw [Array.toList_extract]
  simp only [List.extract_eq_take_drop, filesC]
  rw [flatMap_splitR l q hq, List.drop_left' (by rw [flatMap_length fileC_len, List.length_take]; omega)]
  rw [show q * 2 + 2 - q * 2 = 2 by omega]
  rfl
theorem filesC_set (l : FL) (q : Nat) (hq : q < l.length) (x : FileS × Int) : filesC (l.set q x) = filesC (l.take q) ++ [.bool x.1.1, .string x.1.2] ++ filesC (l.drop (q + 1)) := flatMap_setR x l q hq
theorem filesC_one (l : FL) : ∀ y ∈ filesC l, isOne y = true := fun y hy => by
  obtain ⟨x, _, hx⟩ := List.mem_flatMap.1 hy
  simp [fileC] at hx
  rcases hx with rfl | rfl <;> rfl

section
variable {B : RO} {h0 h h' : Heap} {L : List (Option (Nat × AObj))} {r : Option (Nat × AObj)} {i kT kR k3 : Nat} {a : Option Addr} {v : Value} {l : FL}
theorem Keep.cellsP (E : Keep B h0 L h) (i : Nat) {k n : Nat} {t : TypeId} {ys zs : List Value} (hi : L[i]? = some (some (k, .vec t (plains (ys ++ zs)) n))) : CellsAt B h ⟨k, 0, none⟩ 0 ys :=
  CellsAt.of_vec ys 0 (E.at i hi) fun j y hj => by
    rw [plains_get, Nat.zero_add, List.getElem?_append_left (List.getElem?_eq_some_iff.1 hj).1, hj]; rfl
theorem Keep.fileAt (E : Keep B h0 L h) (i : Nat) {k n : Nat} {t : TypeId} {zs : List Value} (hi : L[i]? = some (some (k, .vec t (plains (filesC l ++ zs)) n))) (q : Nat) (x : FileS × Int) (hx : l[q]? = some x) : CellsAt B h (Addr.add ⟨k, 0, none⟩ (q * 2)) 0 [.bool x.1.1, .string x.1.2] := by
  rw [addr_more]
  have hq := (List.getElem?_eq_some_iff.1 hx).1
  have hl := filesC_len l
  refine CellsAt.of_vec _ 0 (E.at i hi) fun j y hj => ?_
  rw [plains_get, Nat.zero_add, Nat.add_zero]
  have g := filesC_get l q x hx
  have hj2 : j < 2 := (List.getElem?_eq_some_iff.1 hj).1
  rw [List.getElem?_append_left (by omega)]
  rcases j with _ | _ | j
  · rw [Nat.add_zero, g.1]; cases hj; rfl
  · rw [g.2]; cases hj; rfl
  · omega
theorem Keep.verAt (E : Keep B h0 L h) (i : Nat) {k : Nat} (hi : L[i]? = some (some (k, refO l))) (h6 : l.length = 6) (q : Nat) (x : FileS × Int) (hx : l[q]? = some x) : cellH B h (Addr.add (Addr.add ⟨k, 0, none⟩ 12) (q * 1)) = some (.int .i64 x.2) := by
  rw [addr_more, addr_more, Nat.zero_add, Nat.mul_one]
  refine E.cell i hi ?_
  have hl := filesC_len l
  rw [plains_get, List.getElem?_append_right (by omega), show 12 + q - (filesC l).length = q by omega, versC, List.getElem?_map, hx]
  rfl
theorem ref10_set_wp {n ver : Int} {b : Bool} {s : ByteArray} {k : Nat} {Q : Bool → Heap → Prop} (E : Keep B h0 L h) (hi : L[i]? = some (some (k, refO l))) (h6 : l.length = 6)
    (hQ : ∀ h', Keep B h0 (L.set i (some (k, refO (setF l n b s ver)))) h' → Q (setB l n b s) h') : C_countermandref10_Tome_Set B (some ⟨k, 0, none⟩) n b s ver h Q := by
  refine C_countermandref10_Tome_Set.of ?_
  unfold S_countermandref10_Tome_Set
  intro k7 a7 b7 h8 e8
  have E1 := E.made a7 b7 e8
  have g := E1.last
  have no : setB l n b s = false → Fin B h8 (Q false) := fun hn => by
    have h1 : setF l n b s ver = l := by rw [setF, hn]; rfl
    have h2 : L.set i (some (k, refO l)) = L := by
      obtain ⟨hl, e⟩ := List.getElem?_eq_some_iff.1 hi
      rw [← e]; exact List.set_getElem_self hl
    have := hQ h8 (by rw [h1, h2]; exact E1.pop)
    rw [hn] at this
    exact Fin.of this
  refine ⟨fun h1 => no (by unfold setB; rw [decide_eq_false (by omega), Bool.and_false]), fun h1 => ⟨fun h2 => no (by unfold setB; rw [decide_eq_false (by omega), Bool.and_false]), fun h2 => ⟨_, cellH_vec g rfl, fun h3 => no (by unfold setB goodF; rw [decide_eq_false (by omega), Bool.false_and, Bool.false_and]), fun h3 => ⟨_, cellH_vec g rfl, ?_⟩⟩⟩⟩
  have yes : (b || decide (s = ByteArray.mk #[])) = true → S_countermandref10_Tome_Set_J1 B (some ⟨k, 0, none⟩) n ver k7 h8 Q := fun hb => by
    have hB : setB l n b s = true := by
      unfold setB goodF; rw [hb, decide_eq_true (by omega), decide_eq_true (by omega)]; rfl
    unfold S_countermandref10_Tome_Set_J1
    obtain ⟨q, rfl⟩ : ∃ q : Nat, n = q := ⟨n.toNat, by omega⟩
    have hq : q < l.length := by omega
    have gk := E1.at i (up_app _ hi)
    have l1 := filesC_len (l.take q)
    rw [List.length_take] at l1
    obtain ⟨h15, s1, -, s3⟩ := StoresAt.over (k := k) (nn := 18) (t := TY.countermandref10_Tome) [.bool b, .string s] h8 (q * 2) 0 (filesC (l.take q)) (fileC l[q] ++ filesC (l.drop (q + 1)) ++ versC l) (by simp [isOne]) (by
      rw [gk, refO]
      congr 2
      rw [filesC, flatMap_splitR l q hq]
      simp [filesC, List.append_assoc]) (by omega) (by simp; omega)
    have s4 := s3 (by simp)
    have e4 : filesC (l.take q) ++ [.bool b, .string s] ++ (fileC l[q] ++ filesC (l.drop (q + 1)) ++ versC l).drop [Value.bool b, Value.string s].length = filesC (l.set q ((b, s), ver)) ++ versC l := by
      rw [filesC_set l q hq, List.append_assoc (fileC l[q])]
      simp only [List.append_assoc]
      rfl
    rw [e4] at s4
    have hl2 := filesC_len (l.set q ((b, s), ver))
    rw [List.length_set] at hl2
    refine ⟨b, s, ⟨cellH_vec g rfl, cellH_vec g rfl, trivial⟩, _, rfl, by omega, by omega, h15, by rw [addr_more, Nat.zero_add]; exact s1, _, rfl, by omega, by omega, ?_⟩
    rw [addr_more, addr_more, Nat.zero_add, Nat.mul_one]
    have gv : (plains (filesC (l.set q ((b, s), ver)) ++ versC l))[12 + q]? = some (.plain (.int .i64 l[q].2)) := by
      rw [plains_get, List.getElem?_append_right (by omega), show 12 + q - (filesC (l.set q ((b, s), ver))).length = q by omega, versC, List.getElem?_map, List.getElem?_eq_getElem hq]
      rfl
    refine ⟨_, storeH_vec (h := h15) (b := k) (i := 12 + q) (by rw [s4, Heap.set_same]) gv, ?_⟩
    have e5 : (plains (filesC (l.set q ((b, s), ver)) ++ versC l)).set (12 + q) (.plain (.int .i64 ver)) = plains (filesC (l.set q ((b, s), ver)) ++ versC (l.set q ((b, s), ver))) := by
      rw [plains_set, List.set_append_right _ _ (by omega), show 12 + q - (filesC (l.set q ((b, s), ver))).length = q by omega]
      congr 2
      unfold versC
      rw [List.map_set]
    have E2 := E1.put (o' := refO (l.set q ((b, s), ver))) i (up_app _ hi)
    have e6 : h15.set k (.vec TY.countermandref10_Tome ((plains (filesC (l.set q ((b, s), ver)) ++ versC l)).set (12 + Int.toNat (q : Int)) (.plain (.int .i64 ver))) 18) = h8.set k (refO (l.set q ((b, s), ver))) := by
      show h15.set k (.vec TY.countermandref10_Tome ((plains (filesC (l.set q ((b, s), ver)) ++ versC l)).set (12 + q) (.plain (.int .i64 ver))) 18) = _
      rw [e5, s4, Heap.set_set]; rfl
    refine Fin.of ?_
    rw [show (h15.set k (AObj.vec TY.countermandref10_Tome ((plains (filesC (l.set q ((b, s), ver)) ++ versC l)).set (12 + q) (.plain (.int .i64 ver))) 18)) = _ from e6]
    rw [List.set_append_left _ _ (List.getElem?_eq_some_iff.1 hi).1] at E2
    have := hQ _ (by rw [setF, hB]; exact E2.pop)
    rw [hB] at this; exact this
  refine ⟨fun hb => Fin.of (yes (by rw [hb]; rfl)), fun hb => ⟨_, cellH_vec g rfl, fun hs => Fin.of (yes (by rw [hs]; simp)), fun hs => no (by unfold setB goodF; rw [hb, decide_eq_false hs]; simp)⟩⟩
theorem ref10_bytes_wp {Q : ByteArray → Heap → Prop} (k : TomeOk l) (hQ : Q (ba (tomeB l)) h) : C_countermandref10_Bytes B (filesC l) h Q := by
  refine C_countermandref10_Bytes.of ?_
  unfold S_countermandref10_Bytes
  intro k3 a3 b3 h4 e4
  have E0 := (Keep.nil B h).made a3 b3 e4
  have h6 := k.n6
  have hl := filesC_len l
  have E1 : Keep B h [some (k3, .vec TY.a_6_countermandref09_File (plains (filesC l ++ [])) (filesC l).length)] h4 := by rw [List.append_nil]; exact E0
  refine ⟨filesC l, by omega, E1.cellsP 0 rfl, ?_⟩
  have small : ∀ x ∈ allF l, x.1 ≤ 1000 ∧ x.2.2.size ≤ 1000 := fun x hx => by
    obtain ⟨y, hy, e1, e2, e3⟩ := allF_mem hx
    have := k.size y hy
    have e4 : x.2.2 = y.1.2 := by rw [e1]
    exact ⟨by omega, by rw [e4]; omega⟩
  refine ⟨fun s i m h' => ∃ j : Nat, j ≤ 6 ∧ i = j ∧ m = 6 - j ∧ s = ba ((((allF l).take j).filter fun x => x.2.1).flatMap fileB) ∧ Keep B h [] h', 6, Fin.of ⟨0, by omega, rfl, by omega, rfl, E1.take 0⟩, ?_⟩
  clear E1 E0 e4
  rintro _ _ _ h8 ⟨j, hj, rfl, rfl, rfl, E⟩
  refine ⟨fun hlt => ?_, fun _ => Fin.ent E.back (Fin.of ?_)⟩
  · have hj' : j < l.length := by omega
    have hw : IntKind.wrap .i64 ((j : Int) + 1) = ((j + 1 : Nat) : Int) := by rw [w64 (by omega) (by omega)]; omega
    have hx := List.getElem?_eq_getElem hj'
    generalize l[j] = x at hx
    have ha : (allF l)[j]? = some ((j : Int), x.1.1, x.1.2) := by rw [allF_get, hx]; rfl
    obtain ⟨hal, hae⟩ := List.getElem?_eq_some_iff.1 ha
    have htk : (allF l).take (j + 1) = (allF l).take j ++ [((j : Int), x.1.1, x.1.2)] := by rw [List.take_succ_eq_append_getElem hal, hae]
    have sm := small _ (List.mem_of_getElem? ha)
    refine ⟨by omega, by omega, x.1.1, x.1.2, extract_files l j x hx, fun k16 a16 b16 h17 e17 => ?_⟩
    have E1 := E.made a16 b16 e17
    refine ⟨_, stores_whole E1.last rfl (by simp) (by simp [isOne]) (by simp), ?_⟩
    have E2 := E1.putLast (.vec TY.countermandref09_File (plains [.bool x.1.1, .string x.1.2]) 2)
    have hfl := flat_len (x := (0, false, ByteArray.empty)) (((allF l).take j).filter fun x => x.2.1) (fun x hx => small x (List.mem_of_mem_take (List.mem_filter.1 hx).1))
    have hfc := List.length_filter_le (fun x : Int × Bool × ByteArray => x.2.1) ((allF l).take j)
    rw [List.length_take] at hfc
    refine ⟨_, cellH_vec E2.last rfl, fun hb => ?_, fun hb => Fin.of ⟨6 - (j + 1), by omega, j + 1, by omega, hw, rfl, ?_, E2.pop⟩⟩
    · have hn := natI_length (i := (j : Int)) (by omega)
      have hb2 := natB_length (n := x.1.2.size) (by have := sm.2; simp only at this; omega)
      refine ⟨_, cellH_vec E2.last rfl, refNat_wp (by omega) ⟨cellH_vec E2.last rfl, by rw [ba_size, ba_size]; omega, refText_wp (by have := sm.2; simp only at this; omega) ⟨cellH_vec E2.last rfl, ?_, Fin.of ⟨6 - (j + 1), by omega, j + 1, by omega, hw, rfl, ?_, E2.pop⟩⟩⟩⟩
      · rw [ByteArray.size_append, ba_size, ba_size, ba_size, List.length_append, bl_length]
        have := sm.2; simp only at this; omega
      · rw [htk, List.filter_append, List.flatMap_append, ← ba_append, ← ba_append, List.append_assoc]
        simp [hb, fileB]
    · rw [htk, List.filter_append]
      simp [hb]
  · have : j = 6 := by omega
    subst this
    have e : (allF l).take 6 = allF l := by rw [← h6, ← allF_len l, List.take_length]
    rw [e]
    exact hQ
/-! Nil tomes. -/
theorem tget_nil {n : Int} {Q : Bool → ByteArray → Int → Heap → Prop} (hQ : Q false ByteArray.empty 0 h) : C_tome_Tome_Get B none n h Q := by
  refine C_tome_Tome_Get.of ?_
  unfold S_tome_Tome_Get
  intro k6 a6 b6 h7 e7
  have E := (Keep.nil B h).made a6 b6 e7
  refine ⟨fun _ => ⟨_, stores_whole (E.at 0 rfl) rfl (by simp) (by simp [isOne]) (by simp), ?_⟩, fun hn => absurd rfl hn⟩
  have E2 := E.put (o' := .vec TY.file_File (plains [.bool false, .string ByteArray.empty]) 2) 0 rfl
  exact ⟨_, _, ⟨E2.cell 0 rfl rfl, E2.cell 0 rfl rfl, trivial⟩, Fin.ent E2.back (Fin.of hQ)⟩
theorem tset_nil {n ver : Int} {b : Bool} {s : ByteArray} {Q : Bool → Heap → Prop} (hQ : Q false h) : C_tome_Tome_Set B none n b s ver h Q := by
  refine C_tome_Tome_Set.of ?_
  unfold S_tome_Tome_Set
  intro k7 a7 b7 h8 e8
  have E := (Keep.nil B h).made a7 b7 e8
  exact ⟨fun _ => ⟨Fin.ent E.back (Fin.of hQ), Fin.ent E.back (Fin.of hQ)⟩, fun hn => absurd rfl hn⟩
def tN (k3 : Nat) (h : Heap) : Prop := h k3 = some (.vec TY.p_tome_Tome [.plain (.pointer none)] 1)
theorem tN_ins : Ins (tN k3) := by
  rintro h k o hk g1
  exact Heap.get_new hk g1
theorem tall_nil : Iter PG B (tallF k3) (([] : List (Int × Bool × ByteArray)).map encF) (tN k3) := by
  refine ⟨_, _, _, rfl, TG.tome_Tome_All_1, fun y J X h hy hG h0 hcall => ?_⟩
  have main : C_tome_Tome_All_1 B y ⟨k3, 0, none⟩ h (fun h' => Fin B h' (fun h'' => J (([] : List (Int × Bool × ByteArray)).map encF).length h'' ∨ X h'')) := by
    refine C_tome_Tome_All_1.of ?_
    unfold S_tome_Tome_All_1
    have g1 := hG 0 h h0
    refine ⟨hy.one, fun ky ay by' h4 e4 => ?_⟩
    obtain ⟨gy, ly, fy⟩ := Heap.made ay e4
    exact ⟨_, cellH_vec (ly _ _ g1) rfl, fun _ => Fin.ent (Ent.forget ly) (Fin.of (Fin.of (.inl h0))), fun hn => absurd rfl hn⟩
  exact Spec.mono main fun v h' q => q.2
theorem tbytes_nil {Q : ByteArray → Heap → Prop} (hQ : Q (ByteArray.mk #[]) h) : C_tome_Tome_Bytes B none h Q := by
  refine C_tome_Tome_Bytes.of ?_
  unfold S_tome_Tome_Bytes
  intro k3 a3 b3 h4 e4 k5 a5 b5 h6 e6
  have E1 := (Keep.nil B h).made a3 b3 e4
  have E2 := E1.made a5 b5 e6
  obtain ⟨e7, E3⟩ := E2.store 1 0 (.pointer (some ⟨k3, 0, none⟩)) rfl rfl
  refine ⟨_, e7, tall_wp fun kc ac bc => ?_⟩
  have E4 := E3.new (o := .vec TY.p_tome_Tome [.plain (.pointer none)] 1) ac bc
  refine ⟨[], tN kc, fun q h' => Keep B h [some (k3, stylO []), some (k5, .vec TY.p_stylus_Stylus (plains [.pointer (some ⟨k3, 0, none⟩)]) 1), some (kc, .vec TY.p_tome_Tome [.plain (.pointer none)] 1)] h', tall_nil, tN_ins, fun q h' E => E.at 2 rfl, ?_, fun q h' i b s hq => by simp at hq, fun h14 E => ?_⟩
  · exact Fin.ent (styl_new (E4.at 0 rfl)) (Fin.of (E4.put (o' := stylO []) 0 rfl))
  · exact ⟨_, E.cell 1 rfl (j := 0) rfl, bytes_wp (E.at 0 rfl) (Fin.ent E.back (Fin.of hQ))⟩
end
end Go.Proofs.Ytoajfmmomgpjcaa.H
