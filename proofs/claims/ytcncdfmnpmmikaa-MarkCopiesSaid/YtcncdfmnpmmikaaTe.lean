/- Tomes: the document's answer, and nil tomes: contracts. No condition. -/
import Derived.Test.YtcncdfmnpmmikaaTd
import Derived.Test.YtcncdfmnpmmikaaKc
import Derived.Test.YtcncdfmnpmmikaaHp
namespace Go.Proofs.Ytcncdfmnpmmikaa.H
open Go Go.RowKit
set_option linter.unusedVariables false
set_option maxRecDepth 100000

def fileC (x : FileS × Int) : List Value := [.bool x.1.1, .string x.1.2]
theorem fileC_len (x : FileS × Int) : (fileC x).length = 2 := rfl
def filesC (l : FL) : List Value := l.flatMap fileC
def versC (l : FL) : List Value := l.map fun x => .int .i64 x.2
theorem filesC_len (l : FL) : (filesC l).length = l.length * 2 := flatMap_length fileC_len l
theorem versC_len (l : FL) : (versC l).length = l.length := by simp [versC]
theorem filesC_get (l : FL) (q : Nat) (x : FileS × Int) (h : l[q]? = some x) : (filesC l)[q * 2]? = some (.bool x.1.1) ∧ (filesC l)[q * 2 + 1]? = some (.string x.1.2) := by
  refine ⟨?_, ?_⟩
  · have := flatMap_at (cells := fileC) fileC_len l q x 0 _ h rfl
    exact this
  · exact flatMap_at (cells := fileC) fileC_len l q x 1 _ h rfl
theorem extract_files (l : FL) (q : Nat) (x : FileS × Int) (h : l[q]? = some x) : Array.extract (filesC l).toArray (q * 2) (q * 2 + 2) = #[.bool x.1.1, .string x.1.2] := by
  obtain ⟨hq, rfl⟩ := List.getElem?_eq_some_iff.1 h
  apply Array.toList_inj.1
  rw [Array.toList_extract]
  simp only [List.extract_eq_take_drop, filesC]
  rw [flatMap_splitR l q hq, List.drop_left' (by rw [flatMap_length fileC_len, List.length_take]; omega)]
  rw [show q * 2 + 2 - q * 2 = 2 by omega]
  rfl
theorem filesC_set (l : FL) (q : Nat) (hq : q < l.length) (x : FileS × Int) : filesC (l.set q x) = filesC (l.take q) ++ [.bool x.1.1, .string x.1.2] ++ filesC (l.drop (q + 1)) := flatMap_setR x l q hq
theorem filesC_one (l : FL) : ∀ y ∈ filesC l, isOne y = true := fun y hy => by
  obtain ⟨x, _, hx⟩ := List.mem_flatMap.1 hy
  simp [fileC] at hx
  rcases hx with rfl | rfl <;> rfl

section
variable {B : RO} {h0 h h' : Heap} {L : List (Option (Nat × AObj))} {r : Option (Nat × AObj)} {i kT kR k3 : Nat} {a : Option Addr} {v : Value} {l : FL}
theorem Keep.cellsP (E : Keep B h0 L h) (i : Nat) {k n : Nat} {t : TypeId} {ys zs : List Value} (hi : L[i]? = some (some (k, .vec t (plains (ys ++ zs)) n))) : CellsAt B h ⟨k, 0, none⟩ 0 ys :=
  CellsAt.of_vec ys 0 (E.at i hi) fun j y hj => by
    rw [plains_get, Nat.zero_add, List.getElem?_append_left (List.getElem?_eq_some_iff.1 hj).1, hj]; rfl
theorem Keep.fileAt (E : Keep B h0 L h) (i : Nat) {k n : Nat} {t : TypeId} {zs : List Value} (hi : L[i]? = some (some (k, .vec t (plains (filesC l ++ zs)) n))) (q : Nat) (x : FileS × Int) (hx : l[q]? = some x) : CellsAt B h (Addr.add ⟨k, 0, none⟩ (q * 2)) 0 [.bool x.1.1, .string x.1.2] := by
  rw [addr_more]
  have hq := (List.getElem?_eq_some_iff.1 hx).1
  have hl := filesC_len l
  refine CellsAt.of_vec _ 0 (E.at i hi) fun j y hj => ?_
  rw [plains_get, Nat.zero_add, Nat.add_zero]
  have g := filesC_get l q x hx
  have hj2 : j < 2 := (List.getElem?_eq_some_iff.1 hj).1
  rw [List.getElem?_append_left (by omega)]
  rcases j with _ | _ | j
  · rw [Nat.add_zero, g.1]; cases hj; rfl
  · rw [g.2]; cases hj; rfl
  · omega
theorem tget_nil {n : Int} {Q : Bool → ByteArray → Int → Heap → Prop} (hQ : Q false ByteArray.empty 0 h) : C_tome_Tome_Get B none n h Q := by
  refine C_tome_Tome_Get.of ?_
  unfold S_tome_Tome_Get
  intro k6 a6 b6 h7 e7
  have E := (Keep.nil B h).made a6 b6 e7
  refine ⟨fun _ => ⟨_, stores_whole (E.at 0 rfl) rfl (by simp) (by simp [isOne]) (by simp), ?_⟩, fun hn => absurd rfl hn⟩
  have E2 := E.put (o' := .vec TY.file_File (plains [.bool false, .string ByteArray.empty]) 2) 0 rfl
  exact ⟨_, _, ⟨E2.cell 0 rfl rfl, E2.cell 0 rfl rfl, trivial⟩, Fin.ent E2.back (Fin.of hQ)⟩
def tN (k3 : Nat) (h : Heap) : Prop := h k3 = some (.vec TY.p_tome_Tome [.plain (.pointer none)] 1)
theorem tN_ins : Ins (tN k3) := by
  rintro h k o hk g1
  exact Heap.get_new hk g1
end
end Go.Proofs.Ytcncdfmnpmmikaa.H
