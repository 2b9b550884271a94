/-
  No cell of these rows narrows 'for every input' (looked for: loops, veiled, ifaces, maps, wideKeys, modest, calm, conditions, laid).
  DERIVED. THE GIVEN ROWS OF THIS SEAT. 12 by the template 'for every input the law returns true; each argument reads behind the call as it read before'; 0 by the template 'total and deterministic' (their statements: YthlnibaechobmaaTotals.lean).
  GIVEN WITH THE SEED: the statements are not yours to turn. If you find one false, say at which input.
  Laid BY PROGRAM, IN A SANDBOX (cutbox-rows.mjs): the forced cells as the released guide's own fill.sh prints them over the translation e1891467c49a0e01… (all of the seat's roots in one cut). By AI agents, Wed Nov 11 2026. No macro, syntax, notation, axiom, sorry.
-/
import Derived.Test.YthlnibaechobmaaChecked
import GoSem.Claim
import GoSem.ClaimJoined
import GoSem.ClaimMapViews
import Derived.JoinedTies
import Derived.KernelRfl
namespace Go.Proofs.Ythlnibaechobmaa
/- THE CELL 'sum', in the pinned program and in every row, IS THE sha256 OF THE DUMP (.gsa) THAT YthlnibaechobmaaProg.lean LOADS. Nothing in Lean hashes anything: it is a label: what it is worth is what the hold of that sum in a sandbox is worth. -/
noncomputable def Try.pinned : Pinned := { name := "ythlnibaechobmaa", sum := "e1891467c49a0e0127e51b7c487d799c024dc83961b519049ec5cc71cfa5a960", checked := Try.checked }
namespace Rows
def none {H : Type} : Left H := { results := [], args := [] }

/-- 'countermandlaw01.StylusRises': WHATEVER THE INPUT: true; the input reads as it did. -/
def stylusRisesSpec : ChangeSpec := { name := "stylusRises", fn := fun _ => fun
  | [d1, d2] => { results := [.lit (.bool true)], args := [d1, d2] }
  | _ => none }
def stylusRisesRow : OpenClaim := { program := "ythlnibaechobmaa", sum := "e1891467c49a0e0127e51b7c487d799c024dc83961b519049ec5cc71cfa5a960", func := "countermand/countermandlaw01.StylusRises", spec := "stylusRises", apart := false }
def StylusRisesSaid : Prop := stylusRisesRow.holds Try.pinned (OpenSpec.ofChange stylusRisesSpec)

/-- ITS FALSE NEIGHBOUR: 'it returns false'. Refute it at one input. -/
def stylusRisesWrong : ChangeSpec := { name := "stylusRises", fn := fun _ => fun
  | [d1, d2] => { results := [.lit (.bool false)], args := [d1, d2] }
  | _ => none }
def StylusRisesWrongFalsely : Prop := stylusRisesRow.holds Try.pinned (OpenSpec.ofChange stylusRisesWrong)

/-- 'countermandlaw01.StylusWrites': WHATEVER THE INPUT: true; the input reads as it did. -/
def stylusWritesSpec : ChangeSpec := { name := "stylusWrites", fn := fun _ => fun
  | [d] => { results := [.lit (.bool true)], args := [d] }
  | _ => none }
def stylusWritesRow : OpenClaim := { program := "ythlnibaechobmaa", sum := "e1891467c49a0e0127e51b7c487d799c024dc83961b519049ec5cc71cfa5a960", func := "countermand/countermandlaw01.StylusWrites", spec := "stylusWrites", apart := false }
def StylusWritesSaid : Prop := stylusWritesRow.holds Try.pinned (OpenSpec.ofChange stylusWritesSpec)

/-- ITS FALSE NEIGHBOUR: 'it returns false'. Refute it at one input. -/
def stylusWritesWrong : ChangeSpec := { name := "stylusWrites", fn := fun _ => fun
  | [d] => { results := [.lit (.bool false)], args := [d] }
  | _ => none }
def StylusWritesWrongFalsely : Prop := stylusWritesRow.holds Try.pinned (OpenSpec.ofChange stylusWritesWrong)

/-- 'countermandlaw01.StylusParts': WHATEVER THE INPUT: true; the input reads as it did. -/
def stylusPartsSpec : ChangeSpec := { name := "stylusParts", fn := fun _ => fun
  | [d1, d2] => { results := [.lit (.bool true)], args := [d1, d2] }
  | _ => none }
def stylusPartsRow : OpenClaim := { program := "ythlnibaechobmaa", sum := "e1891467c49a0e0127e51b7c487d799c024dc83961b519049ec5cc71cfa5a960", func := "countermand/countermandlaw01.StylusParts", spec := "stylusParts", apart := false }
def StylusPartsSaid : Prop := stylusPartsRow.holds Try.pinned (OpenSpec.ofChange stylusPartsSpec)

/-- ITS FALSE NEIGHBOUR: 'it returns false'. Refute it at one input. -/
def stylusPartsWrong : ChangeSpec := { name := "stylusParts", fn := fun _ => fun
  | [d1, d2] => { results := [.lit (.bool false)], args := [d1, d2] }
  | _ => none }
def StylusPartsWrongFalsely : Prop := stylusPartsRow.holds Try.pinned (OpenSpec.ofChange stylusPartsWrong)

/-- 'countermandlaw08.CellNewest': WHATEVER THE INPUT: true; the input reads as it did. -/
def cellNewestSpec : ChangeSpec := { name := "cellNewest", fn := fun _ => fun
  | [d1, d2] => { results := [.lit (.bool true)], args := [d1, d2] }
  | _ => none }
def cellNewestRow : OpenClaim := { program := "ythlnibaechobmaa", sum := "e1891467c49a0e0127e51b7c487d799c024dc83961b519049ec5cc71cfa5a960", func := "countermand/countermandlaw08.CellNewest", spec := "cellNewest", apart := false }
def CellNewestSaid : Prop := cellNewestRow.holds Try.pinned (OpenSpec.ofChange cellNewestSpec)

/-- ITS FALSE NEIGHBOUR: 'it returns false'. Refute it at one input. -/
def cellNewestWrong : ChangeSpec := { name := "cellNewest", fn := fun _ => fun
  | [d1, d2] => { results := [.lit (.bool false)], args := [d1, d2] }
  | _ => none }
def CellNewestWrongFalsely : Prop := cellNewestRow.holds Try.pinned (OpenSpec.ofChange cellNewestWrong)

/-- 'countermandlaw08.CellApart': WHATEVER THE INPUT: true; the input reads as it did. -/
def cellApartSpec : ChangeSpec := { name := "cellApart", fn := fun _ => fun
  | [d1, d2, d3, d4] => { results := [.lit (.bool true)], args := [d1, d2, d3, d4] }
  | _ => none }
def cellApartRow : OpenClaim := { program := "ythlnibaechobmaa", sum := "e1891467c49a0e0127e51b7c487d799c024dc83961b519049ec5cc71cfa5a960", func := "countermand/countermandlaw08.CellApart", spec := "cellApart", unfollowed := true, recurses := true, apart := false }
def CellApartSaid : Prop := cellApartRow.holds Try.pinned (OpenSpec.ofChange cellApartSpec)

/-- ITS FALSE NEIGHBOUR: 'it returns false'. Refute it at one input. -/
def cellApartWrong : ChangeSpec := { name := "cellApart", fn := fun _ => fun
  | [d1, d2, d3, d4] => { results := [.lit (.bool false)], args := [d1, d2, d3, d4] }
  | _ => none }
def CellApartWrongFalsely : Prop := cellApartRow.holds Try.pinned (OpenSpec.ofChange cellApartWrong)

/-- 'countermandlaw08.CellSets': WHATEVER THE INPUT: true; the input reads as it did. -/
def cellSetsSpec : ChangeSpec := { name := "cellSets", fn := fun _ => fun
  | [d1, d2, d3, d4] => { results := [.lit (.bool true)], args := [d1, d2, d3, d4] }
  | _ => none }
def cellSetsRow : OpenClaim := { program := "ythlnibaechobmaa", sum := "e1891467c49a0e0127e51b7c487d799c024dc83961b519049ec5cc71cfa5a960", func := "countermand/countermandlaw08.CellSets", spec := "cellSets", unfollowed := true, recurses := true, apart := false }
def CellSetsSaid : Prop := cellSetsRow.holds Try.pinned (OpenSpec.ofChange cellSetsSpec)

/-- ITS FALSE NEIGHBOUR: 'it returns false'. Refute it at one input. -/
def cellSetsWrong : ChangeSpec := { name := "cellSets", fn := fun _ => fun
  | [d1, d2, d3, d4] => { results := [.lit (.bool false)], args := [d1, d2, d3, d4] }
  | _ => none }
def CellSetsWrongFalsely : Prop := cellSetsRow.holds Try.pinned (OpenSpec.ofChange cellSetsWrong)

/-- 'countermandlaw16.ActsNothing': WHATEVER THE INPUT: true; the input reads as it did. -/
def actsNothingSpec : ChangeSpec := { name := "actsNothing", fn := fun _ => fun
  | [d1, d2] => { results := [.lit (.bool true)], args := [d1, d2] }
  | _ => none }
def actsNothingRow : OpenClaim := { program := "ythlnibaechobmaa", sum := "e1891467c49a0e0127e51b7c487d799c024dc83961b519049ec5cc71cfa5a960", func := "countermand/countermandlaw16.ActsNothing", spec := "actsNothing", unfollowed := true, recurses := true, apart := false }
def ActsNothingSaid : Prop := actsNothingRow.holds Try.pinned (OpenSpec.ofChange actsNothingSpec)

/-- ITS FALSE NEIGHBOUR: 'it returns false'. Refute it at one input. -/
def actsNothingWrong : ChangeSpec := { name := "actsNothing", fn := fun _ => fun
  | [d1, d2] => { results := [.lit (.bool false)], args := [d1, d2] }
  | _ => none }
def ActsNothingWrongFalsely : Prop := actsNothingRow.holds Try.pinned (OpenSpec.ofChange actsNothingWrong)

/-- 'countermandlaw11.FeedDoes': WHATEVER THE INPUT: true; the input reads as it did. -/
def feedDoesSpec : ChangeSpec := { name := "feedDoes", fn := fun _ => fun
  | [d1, d2] => { results := [.lit (.bool true)], args := [d1, d2] }
  | _ => none }
def feedDoesRow : OpenClaim := { program := "ythlnibaechobmaa", sum := "e1891467c49a0e0127e51b7c487d799c024dc83961b519049ec5cc71cfa5a960", func := "countermand/countermandlaw11.FeedDoes", spec := "feedDoes", apart := false }
def FeedDoesSaid : Prop := feedDoesRow.holds Try.pinned (OpenSpec.ofChange feedDoesSpec)

/-- ITS FALSE NEIGHBOUR: 'it returns false'. Refute it at one input. -/
def feedDoesWrong : ChangeSpec := { name := "feedDoes", fn := fun _ => fun
  | [d1, d2] => { results := [.lit (.bool false)], args := [d1, d2] }
  | _ => none }
def FeedDoesWrongFalsely : Prop := feedDoesRow.holds Try.pinned (OpenSpec.ofChange feedDoesWrong)

/-- 'countermandlaw11.FeedStays': WHATEVER THE INPUT: true; the input reads as it did. -/
def feedStaysSpec : ChangeSpec := { name := "feedStays", fn := fun _ => fun
  | [d1, d2] => { results := [.lit (.bool true)], args := [d1, d2] }
  | _ => none }
def feedStaysRow : OpenClaim := { program := "ythlnibaechobmaa", sum := "e1891467c49a0e0127e51b7c487d799c024dc83961b519049ec5cc71cfa5a960", func := "countermand/countermandlaw11.FeedStays", spec := "feedStays", apart := false }
def FeedStaysSaid : Prop := feedStaysRow.holds Try.pinned (OpenSpec.ofChange feedStaysSpec)

/-- ITS FALSE NEIGHBOUR: 'it returns false'. Refute it at one input. -/
def feedStaysWrong : ChangeSpec := { name := "feedStays", fn := fun _ => fun
  | [d1, d2] => { results := [.lit (.bool false)], args := [d1, d2] }
  | _ => none }
def FeedStaysWrongFalsely : Prop := feedStaysRow.holds Try.pinned (OpenSpec.ofChange feedStaysWrong)

/-- 'countermandlaw11.FeedParts': WHATEVER THE INPUT: true; the input reads as it did. -/
def feedPartsSpec : ChangeSpec := { name := "feedParts", fn := fun _ => fun
  | [d1, d2, d3] => { results := [.lit (.bool true)], args := [d1, d2, d3] }
  | _ => none }
def feedPartsRow : OpenClaim := { program := "ythlnibaechobmaa", sum := "e1891467c49a0e0127e51b7c487d799c024dc83961b519049ec5cc71cfa5a960", func := "countermand/countermandlaw11.FeedParts", spec := "feedParts", apart := false }
def FeedPartsSaid : Prop := feedPartsRow.holds Try.pinned (OpenSpec.ofChange feedPartsSpec)

/-- ITS FALSE NEIGHBOUR: 'it returns false'. Refute it at one input. -/
def feedPartsWrong : ChangeSpec := { name := "feedParts", fn := fun _ => fun
  | [d1, d2, d3] => { results := [.lit (.bool false)], args := [d1, d2, d3] }
  | _ => none }
def FeedPartsWrongFalsely : Prop := feedPartsRow.holds Try.pinned (OpenSpec.ofChange feedPartsWrong)

/-- 'countermandlaw01.StylusNumbers': WHATEVER THE INPUT: true; the input reads as it did. -/
def stylusNumbersSpec : ChangeSpec := { name := "stylusNumbers", fn := fun _ => fun
  | [d1, d2, d3, d4] => { results := [.lit (.bool true)], args := [d1, d2, d3, d4] }
  | _ => none }
def stylusNumbersRow : OpenClaim := { program := "ythlnibaechobmaa", sum := "e1891467c49a0e0127e51b7c487d799c024dc83961b519049ec5cc71cfa5a960", func := "countermand/countermandlaw01.StylusNumbers", spec := "stylusNumbers", apart := false }
def StylusNumbersSaid : Prop := stylusNumbersRow.holds Try.pinned (OpenSpec.ofChange stylusNumbersSpec)

/-- ITS FALSE NEIGHBOUR: 'it returns false'. Refute it at one input. -/
def stylusNumbersWrong : ChangeSpec := { name := "stylusNumbers", fn := fun _ => fun
  | [d1, d2, d3, d4] => { results := [.lit (.bool false)], args := [d1, d2, d3, d4] }
  | _ => none }
def StylusNumbersWrongFalsely : Prop := stylusNumbersRow.holds Try.pinned (OpenSpec.ofChange stylusNumbersWrong)

/-- 'countermandlaw17.MarkStack': WHATEVER THE INPUT: true; the input reads as it did. -/
def markStackSpec : ChangeSpec := { name := "markStack", fn := fun _ => fun
  | [d] => { results := [.lit (.bool true)], args := [d] }
  | _ => none }
def markStackRow : OpenClaim := { program := "ythlnibaechobmaa", sum := "e1891467c49a0e0127e51b7c487d799c024dc83961b519049ec5cc71cfa5a960", func := "countermand/countermandlaw17.MarkStack", spec := "markStack", apart := false }
def MarkStackSaid : Prop := markStackRow.holds Try.pinned (OpenSpec.ofChange markStackSpec)

/-- ITS FALSE NEIGHBOUR: 'it returns false'. Refute it at one input. -/
def markStackWrong : ChangeSpec := { name := "markStack", fn := fun _ => fun
  | [d] => { results := [.lit (.bool false)], args := [d] }
  | _ => none }
def MarkStackWrongFalsely : Prop := markStackRow.holds Try.pinned (OpenSpec.ofChange markStackWrong)

/- THE SECOND FORM. 'bulk': how many values and letters a reading holds, each counted each time it is reached (what is shared counts as often as it is met; a slice's spare places count too). A statement '..UptoSaid' is the law's where the arguments, and the package variables that the reading takes, are together of bulk at most 1048576: NARROWER than '..Said'. Prove '..Said' where nothing that the law and all that it calls make is longer than what came in: it says more and counts as full. Else prove '..UptoSaid'. A law counts once. -/
mutual
def uptoBulk {H : Type} : DataW H → Nat
  | .lit (.string bytes) => bytes.length + 1
  | .lit _ => 1
  | .nil => 1
  | .ptr d => uptoBulk d + 1
  | .slice elems spare => uptoBulkAll elems + uptoBulkAll spare + 1
  | .agg parts => uptoBulkAll parts + 1
  | .iface _ d => uptoBulk d + 1
  | .map entries => uptoBulkEntries entries + 1
  | .held _ => 1
def uptoBulkAll {H : Type} : List (DataW H) → Nat
  | [] => 0
  | d :: r => uptoBulk d + uptoBulkAll r
def uptoBulkEntries {H : Type} : List (Lit × DataW H) → Nat
  | [] => 0
  | x :: r => uptoBulkEntry x + uptoBulkEntries r
def uptoBulkEntry {H : Type} : Lit × DataW H → Nat
  | (.string bytes, d) => bytes.length + uptoBulk d + 1
  | (_, d) => uptoBulk d + 1
 end
def uptoSmall : (H : Type) → List (DataW H) → Bool := fun _ ds => decide (uptoBulkAll ds ≤ 1048576)
def OpenSpec.upto (s : _root_.Go.ChangeSpec) : _root_.Go.OpenSpec := { _root_.Go.OpenSpec.ofChange s with cond := some uptoSmall }

/-- 'countermandlaw01.StylusRises', WHERE WHAT IT READS IS OF BULK AT MOST 1048576: true; the input reads as it did. -/
def stylusRisesUptoRow : OpenClaim := { program := "ythlnibaechobmaa", sum := "e1891467c49a0e0127e51b7c487d799c024dc83961b519049ec5cc71cfa5a960", func := "countermand/countermandlaw01.StylusRises", spec := "stylusRises", apart := false, narrowed := true }
def StylusRisesUptoSaid : Prop := stylusRisesUptoRow.holds Try.pinned (OpenSpec.upto stylusRisesSpec)

/-- 'countermandlaw01.StylusWrites', WHERE WHAT IT READS IS OF BULK AT MOST 1048576: true; the input reads as it did. -/
def stylusWritesUptoRow : OpenClaim := { program := "ythlnibaechobmaa", sum := "e1891467c49a0e0127e51b7c487d799c024dc83961b519049ec5cc71cfa5a960", func := "countermand/countermandlaw01.StylusWrites", spec := "stylusWrites", apart := false, narrowed := true }
def StylusWritesUptoSaid : Prop := stylusWritesUptoRow.holds Try.pinned (OpenSpec.upto stylusWritesSpec)

/-- 'countermandlaw01.StylusParts', WHERE WHAT IT READS IS OF BULK AT MOST 1048576: true; the input reads as it did. -/
def stylusPartsUptoRow : OpenClaim := { program := "ythlnibaechobmaa", sum := "e1891467c49a0e0127e51b7c487d799c024dc83961b519049ec5cc71cfa5a960", func := "countermand/countermandlaw01.StylusParts", spec := "stylusParts", apart := false, narrowed := true }
def StylusPartsUptoSaid : Prop := stylusPartsUptoRow.holds Try.pinned (OpenSpec.upto stylusPartsSpec)

/-- 'countermandlaw08.CellNewest', WHERE WHAT IT READS IS OF BULK AT MOST 1048576: true; the input reads as it did. -/
def cellNewestUptoRow : OpenClaim := { program := "ythlnibaechobmaa", sum := "e1891467c49a0e0127e51b7c487d799c024dc83961b519049ec5cc71cfa5a960", func := "countermand/countermandlaw08.CellNewest", spec := "cellNewest", apart := false, narrowed := true }
def CellNewestUptoSaid : Prop := cellNewestUptoRow.holds Try.pinned (OpenSpec.upto cellNewestSpec)

/-- 'countermandlaw08.CellApart', WHERE WHAT IT READS IS OF BULK AT MOST 1048576: true; the input reads as it did. -/
def cellApartUptoRow : OpenClaim := { program := "ythlnibaechobmaa", sum := "e1891467c49a0e0127e51b7c487d799c024dc83961b519049ec5cc71cfa5a960", func := "countermand/countermandlaw08.CellApart", spec := "cellApart", unfollowed := true, recurses := true, apart := false, narrowed := true }
def CellApartUptoSaid : Prop := cellApartUptoRow.holds Try.pinned (OpenSpec.upto cellApartSpec)

/-- 'countermandlaw08.CellSets', WHERE WHAT IT READS IS OF BULK AT MOST 1048576: true; the input reads as it did. -/
def cellSetsUptoRow : OpenClaim := { program := "ythlnibaechobmaa", sum := "e1891467c49a0e0127e51b7c487d799c024dc83961b519049ec5cc71cfa5a960", func := "countermand/countermandlaw08.CellSets", spec := "cellSets", unfollowed := true, recurses := true, apart := false, narrowed := true }
def CellSetsUptoSaid : Prop := cellSetsUptoRow.holds Try.pinned (OpenSpec.upto cellSetsSpec)

/-- 'countermandlaw16.ActsNothing', WHERE WHAT IT READS IS OF BULK AT MOST 1048576: true; the input reads as it did. -/
def actsNothingUptoRow : OpenClaim := { program := "ythlnibaechobmaa", sum := "e1891467c49a0e0127e51b7c487d799c024dc83961b519049ec5cc71cfa5a960", func := "countermand/countermandlaw16.ActsNothing", spec := "actsNothing", unfollowed := true, recurses := true, apart := false, narrowed := true }
def ActsNothingUptoSaid : Prop := actsNothingUptoRow.holds Try.pinned (OpenSpec.upto actsNothingSpec)

/-- 'countermandlaw11.FeedDoes', WHERE WHAT IT READS IS OF BULK AT MOST 1048576: true; the input reads as it did. -/
def feedDoesUptoRow : OpenClaim := { program := "ythlnibaechobmaa", sum := "e1891467c49a0e0127e51b7c487d799c024dc83961b519049ec5cc71cfa5a960", func := "countermand/countermandlaw11.FeedDoes", spec := "feedDoes", apart := false, narrowed := true }
def FeedDoesUptoSaid : Prop := feedDoesUptoRow.holds Try.pinned (OpenSpec.upto feedDoesSpec)

/-- 'countermandlaw11.FeedStays', WHERE WHAT IT READS IS OF BULK AT MOST 1048576: true; the input reads as it did. -/
def feedStaysUptoRow : OpenClaim := { program := "ythlnibaechobmaa", sum := "e1891467c49a0e0127e51b7c487d799c024dc83961b519049ec5cc71cfa5a960", func := "countermand/countermandlaw11.FeedStays", spec := "feedStays", apart := false, narrowed := true }
def FeedStaysUptoSaid : Prop := feedStaysUptoRow.holds Try.pinned (OpenSpec.upto feedStaysSpec)

/-- 'countermandlaw11.FeedParts', WHERE WHAT IT READS IS OF BULK AT MOST 1048576: true; the input reads as it did. -/
def feedPartsUptoRow : OpenClaim := { program := "ythlnibaechobmaa", sum := "e1891467c49a0e0127e51b7c487d799c024dc83961b519049ec5cc71cfa5a960", func := "countermand/countermandlaw11.FeedParts", spec := "feedParts", apart := false, narrowed := true }
def FeedPartsUptoSaid : Prop := feedPartsUptoRow.holds Try.pinned (OpenSpec.upto feedPartsSpec)

/-- 'countermandlaw01.StylusNumbers', WHERE WHAT IT READS IS OF BULK AT MOST 1048576: true; the input reads as it did. -/
def stylusNumbersUptoRow : OpenClaim := { program := "ythlnibaechobmaa", sum := "e1891467c49a0e0127e51b7c487d799c024dc83961b519049ec5cc71cfa5a960", func := "countermand/countermandlaw01.StylusNumbers", spec := "stylusNumbers", apart := false, narrowed := true }
def StylusNumbersUptoSaid : Prop := stylusNumbersUptoRow.holds Try.pinned (OpenSpec.upto stylusNumbersSpec)

/-- 'countermandlaw17.MarkStack', WHERE WHAT IT READS IS OF BULK AT MOST 1048576: true; the input reads as it did. -/
def markStackUptoRow : OpenClaim := { program := "ythlnibaechobmaa", sum := "e1891467c49a0e0127e51b7c487d799c024dc83961b519049ec5cc71cfa5a960", func := "countermand/countermandlaw17.MarkStack", spec := "markStack", apart := false, narrowed := true }
def MarkStackUptoSaid : Prop := markStackUptoRow.holds Try.pinned (OpenSpec.upto markStackSpec)

end Rows
end Go.Proofs.Ythlnibaechobmaa
