/- The heap logic, part 11: a contract over a world's blocks, read only, as the call that a row asks for. No condition. -/
import Derived.Test.YthloobpjkeodgaaHj
import Derived.Below
namespace Go.Proofs.Ythloobpjkeodgaa.H
open Go Go.RowKit
set_option linter.unusedVariables false

/-- A world's blocks, read only. -/
def roOf (W : World) : RO := fun k => W.heap[k]?
def noHeap : Heap := fun _ => none

theorem Spec.calls {P : Program} {W : World} {f : FuncId} {args : Array Value} {v0 : Value} (hs : Spec P (roOf W) f args noHeap (fun v _ => v = v0)) :
    Calls P f args W fun e w' => e = .returned v0 ∧ Below W.heap.size W w' := by
  have R : Rel (roOf W) ⟨fun _ => none, W.os, W.tape, W.output, W.heap.size⟩ noHeap W := by
    refine ⟨fun _ => none, rfl, rfl, rfl, Nat.le_refl _, fun b o e => (by cases e), fun b o e => ⟨e, rfl, rfl, rfl⟩, fun b o e => (by cases e), fun b p e => (by cases e)⟩
  refine (hs _ _ R).mono ?_
  rintro e w' ⟨v, h', rfl, ⟨own, R'⟩, rfl⟩
  refine ⟨rfl, R'.os, R'.tape, R'.output, R'.low, fun k hk => ?_⟩
  have h1 : roOf W k = some W.heap[k] := Array.getElem?_eq_getElem hk
  rw [(R'.ro k _ h1).1]
  exact (Array.getElem?_eq_getElem hk).symm
theorem Le.noHeap (h : Heap) : Le noHeap h := fun _ _ e => by cases e
end Go.Proofs.Ythloobpjkeodgaa.H
