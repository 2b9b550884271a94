/- Drafts of int: contracts. No condition. -/
import Derived.Test.YtcncdfmnpmmikaaXhT
import Derived.Test.YtcncdfmnpmmikaaDa
namespace Go.Proofs.Ytcncdfmnpmmikaa.H
open Go
set_option linter.unusedVariables false
set_option maxRecDepth 100000

def entC_int (x : Int × Int) : List Value := [.int .i64 x.1, .int .i64 x.2]
theorem entC_int_len (x : Int × Int) : (entC_int x).length = 2 := rfl
theorem entC_int_one (x : Int × Int) : ∀ y ∈ entC_int x, isOne y = true := fun y hy => by simp [entC_int] at hy; rcases hy with rfl | rfl <;> rfl
theorem TK.slc_ent_int : slcB PG TY.s_draft_entry_int = some (TY.draft_entry_int, 2, 16) := by kernel_rfl
theorem TK.zero_ent_int : zeroB PG TY.draft_entry_int = some [.int .i64 0, .int .i64 0] := by kernel_rfl
theorem TK.sl_ent_int : slT PG TY.s_draft_entry_int = true := by kernel_rfl
theorem TK.int_ent_int : intB PG TY.int = some .i64 := by kernel_rfl
def DRow_int (r : Option (Nat × AObj)) (v : Value) (l : List (Int × Int)) : Prop := Row r v TY.draft_entry_int 2 (l.flatMap entC_int)
def drO_int (v : Value) : AObj := .vec TY.draft_Draft_int (plains [v]) 1
structure DAt_int (L : List (Option (Nat × AObj))) (i k : Nat) (v : Value) (r : Option (Nat × AObj)) : Prop where
  p : L[i]? = some (some (k, drO_int v))
  q : L[i + 1]? = some r
def drE_int (k : Nat) (v : Value) (r : Option (Nat × AObj)) : List (Option (Nat × AObj)) := [some (k, drO_int v), r]

section
variable {B : RO} {h0 h h' : Heap} {L : List (Option (Nat × AObj))} {r : Option (Nat × AObj)} {i k : Nat} {a : Option Addr} {m c : Nat} {v : Value} {l : List (Int × Int)}
theorem DRow_int.len (R : DRow_int r (.slice a m c) l) : m = l.length := (Row.rd (B := fun _ => none) R entC_int_len (by omega)).1
theorem new_int {k4 : Nat} {h5 : Heap} (E : Keep B h0 L h) (a4 : h k4 = none) (b4 : B k4 = none) (e5 : h5 = h.set k4 (.vec TY.draft_Draft_int (plains [.slice none 0 0]) 1)) : Keep B h0 (L ++ drE_int k4 (.slice none 0 0) none) h5 ∧ DRow_int none (.slice none 0 0) [] := by
  have E1 := (E.made a4 b4 e5).gap
  rw [List.append_assoc] at E1
  exact ⟨E1, Row.nil _ _⟩
end
end Go.Proofs.Ytcncdfmnpmmikaa.H
