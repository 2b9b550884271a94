/-
  No cell of these rows narrows 'for every input' (looked for: loops, veiled, ifaces, maps, wideKeys, modest, calm, conditions, laid).
  DERIVED. THE GIVEN ROWS OF THIS SEAT. 2 by the template 'for every input the law returns true; each argument reads behind the call as it read before'; 0 by the template 'total and deterministic' (their statements: YtlehephbflgblaaTotals.lean).
  GIVEN WITH THE SEED: the statements are not yours to turn. If you find one false, say at which input.
  Laid BY PROGRAM, IN A SANDBOX (cutbox-rows.mjs): the forced cells as the released guide's own fill.sh prints them over the translation c65ead0f4bd146f2… (all of the seat's roots in one cut). By AI agents, Wed Nov 11 2026. No macro, syntax, notation, axiom, sorry.
-/
import Derived.Test.YtlehephbflgblaaChecked
import GoSem.Claim
import GoSem.ClaimJoined
import GoSem.ClaimMapViews
import Derived.JoinedTies
import Derived.KernelRfl
namespace Go.Proofs.Ytlehephbflgblaa
/- THE CELL 'sum', in the pinned program and in every row, IS THE sha256 OF THE DUMP (.gsa) THAT YtlehephbflgblaaProg.lean LOADS. Nothing in Lean hashes anything: it is a label: what it is worth is what the hold of that sum in a sandbox is worth. -/
noncomputable def Try.pinned : Pinned := { name := "ytlehephbflgblaa", sum := "c65ead0f4bd146f2469d1040ead3776110ae1be2c08e59010de50d37f567ecf9", checked := Try.checked }
namespace Rows
def none {H : Type} : Left H := { results := [], args := [] }

/-- 'countermandlaw21.WorldOpens': WHATEVER THE INPUT: true; the input reads as it did. -/
def worldOpensSpec : ChangeSpec := { name := "worldOpens", fn := fun _ => fun
  | [d1, d2] => { results := [.lit (.bool true)], args := [d1, d2] }
  | _ => none }
def worldOpensRow : OpenClaim := { program := "ytlehephbflgblaa", sum := "c65ead0f4bd146f2469d1040ead3776110ae1be2c08e59010de50d37f567ecf9", func := "countermand/countermandlaw21.WorldOpens", spec := "worldOpens", unfollowed := true, recurses := true, apart := false }
def WorldOpensSaid : Prop := worldOpensRow.holds Try.pinned (OpenSpec.ofChange worldOpensSpec)

/-- ITS FALSE NEIGHBOUR: 'it returns false'. Refute it at one input. -/
def worldOpensWrong : ChangeSpec := { name := "worldOpens", fn := fun _ => fun
  | [d1, d2] => { results := [.lit (.bool false)], args := [d1, d2] }
  | _ => none }
def WorldOpensWrongFalsely : Prop := worldOpensRow.holds Try.pinned (OpenSpec.ofChange worldOpensWrong)

/-- 'countermandlaw21.WorldDoes': WHATEVER THE INPUT: true; the input reads as it did. -/
def worldDoesSpec : ChangeSpec := { name := "worldDoes", fn := fun _ => fun
  | [d] => { results := [.lit (.bool true)], args := [d] }
  | _ => none }
def worldDoesRow : OpenClaim := { program := "ytlehephbflgblaa", sum := "c65ead0f4bd146f2469d1040ead3776110ae1be2c08e59010de50d37f567ecf9", func := "countermand/countermandlaw21.WorldDoes", spec := "worldDoes", unfollowed := true, recurses := true, apart := false }
def WorldDoesSaid : Prop := worldDoesRow.holds Try.pinned (OpenSpec.ofChange worldDoesSpec)

/-- ITS FALSE NEIGHBOUR: 'it returns false'. Refute it at one input. -/
def worldDoesWrong : ChangeSpec := { name := "worldDoes", fn := fun _ => fun
  | [d] => { results := [.lit (.bool false)], args := [d] }
  | _ => none }
def WorldDoesWrongFalsely : Prop := worldDoesRow.holds Try.pinned (OpenSpec.ofChange worldDoesWrong)

/- THE SECOND FORM. 'bulk': how many values and letters a reading holds, each counted each time it is reached (what is shared counts as often as it is met; a slice's spare places count too). A statement '..UptoSaid' is the law's where the arguments, and the package variables that the reading takes, are together of bulk at most 1048576: NARROWER than '..Said'. Prove '..Said' where nothing that the law and all that it calls make is longer than what came in: it says more and counts as full. Else prove '..UptoSaid'. A law counts once. -/
mutual
def uptoBulk {H : Type} : DataW H → Nat
  | .lit (.string bytes) => bytes.length + 1
  | .lit _ => 1
  | .nil => 1
  | .ptr d => uptoBulk d + 1
  | .slice elems spare => uptoBulkAll elems + uptoBulkAll spare + 1
  | .agg parts => uptoBulkAll parts + 1
  | .iface _ d => uptoBulk d + 1
  | .map entries => uptoBulkEntries entries + 1
  | .held _ => 1
def uptoBulkAll {H : Type} : List (DataW H) → Nat
  | [] => 0
  | d :: r => uptoBulk d + uptoBulkAll r
def uptoBulkEntries {H : Type} : List (Lit × DataW H) → Nat
  | [] => 0
  | x :: r => uptoBulkEntry x + uptoBulkEntries r
def uptoBulkEntry {H : Type} : Lit × DataW H → Nat
  | (.string bytes, d) => bytes.length + uptoBulk d + 1
  | (_, d) => uptoBulk d + 1
 end
def uptoSmall : (H : Type) → List (DataW H) → Bool := fun _ ds => decide (uptoBulkAll ds ≤ 1048576)
def OpenSpec.upto (s : _root_.Go.ChangeSpec) : _root_.Go.OpenSpec := { _root_.Go.OpenSpec.ofChange s with cond := some uptoSmall }

/-- 'countermandlaw21.WorldOpens', WHERE WHAT IT READS IS OF BULK AT MOST 1048576: true; the input reads as it did. -/
def worldOpensUptoRow : OpenClaim := { program := "ytlehephbflgblaa", sum := "c65ead0f4bd146f2469d1040ead3776110ae1be2c08e59010de50d37f567ecf9", func := "countermand/countermandlaw21.WorldOpens", spec := "worldOpens", unfollowed := true, recurses := true, apart := false, narrowed := true }
def WorldOpensUptoSaid : Prop := worldOpensUptoRow.holds Try.pinned (OpenSpec.upto worldOpensSpec)

/-- 'countermandlaw21.WorldDoes', WHERE WHAT IT READS IS OF BULK AT MOST 1048576: true; the input reads as it did. -/
def worldDoesUptoRow : OpenClaim := { program := "ytlehephbflgblaa", sum := "c65ead0f4bd146f2469d1040ead3776110ae1be2c08e59010de50d37f567ecf9", func := "countermand/countermandlaw21.WorldDoes", spec := "worldDoes", unfollowed := true, recurses := true, apart := false, narrowed := true }
def WorldDoesUptoSaid : Prop := worldDoesUptoRow.holds Try.pinned (OpenSpec.upto worldDoesSpec)

end Rows
end Go.Proofs.Ytlehephbflgblaa
