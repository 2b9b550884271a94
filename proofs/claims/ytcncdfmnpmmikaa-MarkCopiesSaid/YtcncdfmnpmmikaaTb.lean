/- Tomes: all files, and the bytes: contracts. No condition. -/
import Derived.Test.YtcncdfmnpmmikaaTa
import Derived.Test.YtcncdfmnpmmikaaKa
namespace Go.Proofs.Ytcncdfmnpmmikaa.H
open Go
set_option linter.unusedVariables false
set_option maxRecDepth 100000

/-- All of a row, and those that are there. -/
def allF (l : List (FileS × Int)) : List (Int × Bool × ByteArray) := l.zipIdx.map fun p => ((p.2 : Int), p.1.1.1, p.1.1.2)
def filesOf (l : List (FileS × Int)) : List (Int × Bool × ByteArray) := (allF l).filter fun x => x.2.1
def encF (x : Int × Bool × ByteArray) : List Value := [.int .i64 x.1, .agg #[.bool x.2.1, .string x.2.2]]
theorem allF_len (l : List (FileS × Int)) : (allF l).length = l.length := by simp [allF]
theorem allF_get (l : List (FileS × Int)) (i : Nat) : (allF l)[i]? = (l[i]?).map fun x => ((i : Int), x.1.1, x.1.2) := by
  simp [allF, List.getElem?_zipIdx]
  cases l[i]? <;> simp
theorem filter_at {α : Type} (f : α → Bool) : ∀ (l : List α) (q : Nat) (x : α), l[q]? = some x → f x = true → (l.filter f)[((l.take q).filter f).length]? = some x
  | [], q, x, h, _ => by simp at h
  | y :: l, 0, x, h, hf => by
    simp at h; subst h
    simp [List.filter_cons, hf]
  | y :: l, q + 1, x, h, hf => by
    have ih := filter_at f l q x (by simpa using h) hf
    by_cases hy : f y = true
    · simp only [List.take_succ_cons, List.filter_cons, hy, if_true, List.length_cons, List.getElem?_cons_succ]; exact ih
    · simp only [List.take_succ_cons, List.filter_cons, hy, if_false]; exact ih
theorem filter_step {α : Type} (f : α → Bool) (l : List α) (q : Nat) (x : α) (h : l[q]? = some x) : ((l.take (q + 1)).filter f).length = ((l.take q).filter f).length + (if f x = true then 1 else 0) := by
  obtain ⟨hq, rfl⟩ := List.getElem?_eq_some_iff.1 h
  rw [List.take_succ_eq_append_getElem hq, List.filter_append, List.length_append]
  congr 1
  by_cases hf : f l[q] = true
  · simp [List.filter_cons, hf]
  · simp [List.filter_cons, hf]
theorem NilOK.one {y : Value} (h : NilOK y) : isOne y = true := by
  rcases h with ⟨g, a, b, rfl⟩ | ⟨l, a, b, rfl⟩ <;> rfl
theorem plain1 (t : TypeId) (v : Value) : PlainO (.vec t [.plain v] 1) := ⟨t, [v], 1, rfl⟩

section
variable {B : RO} {h0 h h' : Heap} {L : List (Option (Nat × AObj))} {r : Option (Nat × AObj)} {i kT kR k3 m c : Nat} {a : Option Addr} {v : Value} {l : List (FileS × Int)}
/-- What an iteration over a row must see. -/
def fG (k3 kR : Nat) (v : Value) (r : Option (Nat × AObj)) (h : Heap) : Prop :=
  h k3 = some (.vec TY.p_cell_Row_file_File [.plain (.pointer (some ⟨kR, 0, none⟩))] 1) ∧ h kR = some (frO v) ∧ ∀ k o, r = some (k, o) → h k = some o
theorem fG_ins : Ins (fG k3 kR v r) := by
  rintro h k o hk ⟨g1, g2, g3⟩
  exact ⟨Heap.get_new hk g1, Heap.get_new hk g2, fun k' o' e => Heap.get_new hk (g3 k' o' e)⟩
/-- What an iteration over a tome must see. -/
def tG (k3 kT kR : Nat) (v : Value) (r : Option (Nat × AObj)) (h : Heap) : Prop :=
  h k3 = some (.vec TY.p_tome_Tome [.plain (.pointer (some ⟨kT, 0, none⟩))] 1) ∧ h kT = some (tomO kR) ∧ h kR = some (frO v) ∧ ∀ k o, r = some (k, o) → h k = some o
theorem tG_ins : Ins (tG k3 kT kR v r) := by
  rintro h k o hk ⟨g1, g2, g3, g4⟩
  exact ⟨Heap.get_new hk g1, Heap.get_new hk g2, Heap.get_new hk g3, fun k' o' e => Heap.get_new hk (g4 k' o' e)⟩
end
end Go.Proofs.Ytcncdfmnpmmikaa.H
