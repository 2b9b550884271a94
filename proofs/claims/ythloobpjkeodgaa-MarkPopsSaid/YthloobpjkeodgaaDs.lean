/- Drafts of string: contracts. No condition. -/
import Derived.Test.YthloobpjkeodgaaXfT
import Derived.Test.YthloobpjkeodgaaDi
namespace Go.Proofs.Ythloobpjkeodgaa.H
open Go
set_option linter.unusedVariables false
set_option maxRecDepth 100000

def entC_string (x : Int × ByteArray) : List Value := [.int .i64 x.1, .string x.2]
theorem entC_string_len (x : Int × ByteArray) : (entC_string x).length = 2 := rfl
theorem entC_string_one (x : Int × ByteArray) : ∀ y ∈ entC_string x, isOne y = true := fun y hy => by simp [entC_string] at hy; rcases hy with rfl | rfl <;> rfl
theorem TK.int_ent_string : intB PG TY.int = some .i64 := by kernel_rfl
section
variable {B : RO} {h0 h h' : Heap} {L : List (Option (Nat × AObj))} {r : Option (Nat × AObj)} {i k : Nat} {a : Option Addr} {m c : Nat} {v : Value} {l : List (Int × ByteArray)}
end
end Go.Proofs.Ythloobpjkeodgaa.H
