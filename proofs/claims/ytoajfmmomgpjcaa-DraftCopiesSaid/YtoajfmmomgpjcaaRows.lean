/-
  No cell of these rows narrows 'for every input' (looked for: loops, veiled, ifaces, maps, wideKeys, modest, calm, conditions, laid).
  DERIVED. THE GIVEN ROWS OF THIS SEAT. 12 by the template 'for every input the law returns true; each argument reads behind the call as it read before'; 0 by the template 'total and deterministic' (their statements: YtoajfmmomgpjcaaTotals.lean).
  GIVEN WITH THE SEED: the statements are not yours to turn. If you find one false, say at which input.
  Laid BY PROGRAM, IN A SANDBOX (cutbox-rows.mjs): the forced cells as the released guide's own fill.sh prints them over the translation ba2c20069f3e06d2… (all of the seat's roots in one cut). By AI agents, Wed Nov 11 2026. No macro, syntax, notation, axiom, sorry.
-/
import Derived.Test.YtoajfmmomgpjcaaChecked
import GoSem.Claim
import GoSem.ClaimJoined
import GoSem.ClaimMapViews
import Derived.JoinedTies
import Derived.KernelRfl
namespace Go.Proofs.Ytoajfmmomgpjcaa
/- THE CELL 'sum', in the pinned program and in every row, IS THE sha256 OF THE DUMP (.gsa) THAT YtoajfmmomgpjcaaProg.lean LOADS. Nothing in Lean hashes anything: it is a label: what it is worth is what the hold of that sum in a sandbox is worth. -/
noncomputable def Try.pinned : Pinned := { name := "ytoajfmmomgpjcaa", sum := "ba2c20069f3e06d27d37d83f7055f286b656a3488a8eb94f6c2acdd85f1bd414", checked := Try.checked }
namespace Rows
def none {H : Type} : Left H := { results := [], args := [] }

/-- 'countermandlaw01.StylusReads': WHATEVER THE INPUT: true; the input reads as it did. -/
def stylusReadsSpec : ChangeSpec := { name := "stylusReads", fn := fun _ => fun
  | [d1, d2] => { results := [.lit (.bool true)], args := [d1, d2] }
  | _ => none }
def stylusReadsRow : OpenClaim := { program := "ytoajfmmomgpjcaa", sum := "ba2c20069f3e06d27d37d83f7055f286b656a3488a8eb94f6c2acdd85f1bd414", func := "countermand/countermandlaw01.StylusReads", spec := "stylusReads", apart := false }
def StylusReadsSaid : Prop := stylusReadsRow.holds Try.pinned (OpenSpec.ofChange stylusReadsSpec)

/-- ITS FALSE NEIGHBOUR: 'it returns false'. Refute it at one input. -/
def stylusReadsWrong : ChangeSpec := { name := "stylusReads", fn := fun _ => fun
  | [d1, d2] => { results := [.lit (.bool false)], args := [d1, d2] }
  | _ => none }
def StylusReadsWrongFalsely : Prop := stylusReadsRow.holds Try.pinned (OpenSpec.ofChange stylusReadsWrong)

/-- 'countermandlaw01.StylusTexts': WHATEVER THE INPUT: true; the input reads as it did. -/
def stylusTextsSpec : ChangeSpec := { name := "stylusTexts", fn := fun _ => fun
  | [d1, d2] => { results := [.lit (.bool true)], args := [d1, d2] }
  | _ => none }
def stylusTextsRow : OpenClaim := { program := "ytoajfmmomgpjcaa", sum := "ba2c20069f3e06d27d37d83f7055f286b656a3488a8eb94f6c2acdd85f1bd414", func := "countermand/countermandlaw01.StylusTexts", spec := "stylusTexts", apart := false }
def StylusTextsSaid : Prop := stylusTextsRow.holds Try.pinned (OpenSpec.ofChange stylusTextsSpec)

/-- ITS FALSE NEIGHBOUR: 'it returns false'. Refute it at one input. -/
def stylusTextsWrong : ChangeSpec := { name := "stylusTexts", fn := fun _ => fun
  | [d1, d2] => { results := [.lit (.bool false)], args := [d1, d2] }
  | _ => none }
def StylusTextsWrongFalsely : Prop := stylusTextsRow.holds Try.pinned (OpenSpec.ofChange stylusTextsWrong)

/-- 'countermandlaw01.StylusReturns': WHATEVER THE INPUT: true; the input reads as it did. -/
def stylusReturnsSpec : ChangeSpec := { name := "stylusReturns", fn := fun _ => fun
  | [d] => { results := [.lit (.bool true)], args := [d] }
  | _ => none }
def stylusReturnsRow : OpenClaim := { program := "ytoajfmmomgpjcaa", sum := "ba2c20069f3e06d27d37d83f7055f286b656a3488a8eb94f6c2acdd85f1bd414", func := "countermand/countermandlaw01.StylusReturns", spec := "stylusReturns", apart := false }
def StylusReturnsSaid : Prop := stylusReturnsRow.holds Try.pinned (OpenSpec.ofChange stylusReturnsSpec)

/-- ITS FALSE NEIGHBOUR: 'it returns false'. Refute it at one input. -/
def stylusReturnsWrong : ChangeSpec := { name := "stylusReturns", fn := fun _ => fun
  | [d] => { results := [.lit (.bool false)], args := [d] }
  | _ => none }
def StylusReturnsWrongFalsely : Prop := stylusReturnsRow.holds Try.pinned (OpenSpec.ofChange stylusReturnsWrong)

/-- 'countermandlaw10.TomeApart': WHATEVER THE INPUT: true; the input reads as it did. -/
def tomeApartSpec : ChangeSpec := { name := "tomeApart", fn := fun _ => fun
  | [d1, d2] => { results := [.lit (.bool true)], args := [d1, d2] }
  | _ => none }
def tomeApartRow : OpenClaim := { program := "ytoajfmmomgpjcaa", sum := "ba2c20069f3e06d27d37d83f7055f286b656a3488a8eb94f6c2acdd85f1bd414", func := "countermand/countermandlaw10.TomeApart", spec := "tomeApart", unfollowed := true, recurses := true, apart := false }
def TomeApartSaid : Prop := tomeApartRow.holds Try.pinned (OpenSpec.ofChange tomeApartSpec)

/-- ITS FALSE NEIGHBOUR: 'it returns false'. Refute it at one input. -/
def tomeApartWrong : ChangeSpec := { name := "tomeApart", fn := fun _ => fun
  | [d1, d2] => { results := [.lit (.bool false)], args := [d1, d2] }
  | _ => none }
def TomeApartWrongFalsely : Prop := tomeApartRow.holds Try.pinned (OpenSpec.ofChange tomeApartWrong)

/-- 'countermandlaw10.TomeSets': WHATEVER THE INPUT: true; the input reads as it did. -/
def tomeSetsSpec : ChangeSpec := { name := "tomeSets", fn := fun _ => fun
  | [d1, d2] => { results := [.lit (.bool true)], args := [d1, d2] }
  | _ => none }
def tomeSetsRow : OpenClaim := { program := "ytoajfmmomgpjcaa", sum := "ba2c20069f3e06d27d37d83f7055f286b656a3488a8eb94f6c2acdd85f1bd414", func := "countermand/countermandlaw10.TomeSets", spec := "tomeSets", unfollowed := true, recurses := true, apart := false }
def TomeSetsSaid : Prop := tomeSetsRow.holds Try.pinned (OpenSpec.ofChange tomeSetsSpec)

/-- ITS FALSE NEIGHBOUR: 'it returns false'. Refute it at one input. -/
def tomeSetsWrong : ChangeSpec := { name := "tomeSets", fn := fun _ => fun
  | [d1, d2] => { results := [.lit (.bool false)], args := [d1, d2] }
  | _ => none }
def TomeSetsWrongFalsely : Prop := tomeSetsRow.holds Try.pinned (OpenSpec.ofChange tomeSetsWrong)

/-- 'countermandlaw10.TomeReturns': WHATEVER THE INPUT: true; the input reads as it did. -/
def tomeReturnsSpec : ChangeSpec := { name := "tomeReturns", fn := fun _ => fun
  | [d1, d2] => { results := [.lit (.bool true)], args := [d1, d2] }
  | _ => none }
def tomeReturnsRow : OpenClaim := { program := "ytoajfmmomgpjcaa", sum := "ba2c20069f3e06d27d37d83f7055f286b656a3488a8eb94f6c2acdd85f1bd414", func := "countermand/countermandlaw10.TomeReturns", spec := "tomeReturns", unfollowed := true, recurses := true, apart := false }
def TomeReturnsSaid : Prop := tomeReturnsRow.holds Try.pinned (OpenSpec.ofChange tomeReturnsSpec)

/-- ITS FALSE NEIGHBOUR: 'it returns false'. Refute it at one input. -/
def tomeReturnsWrong : ChangeSpec := { name := "tomeReturns", fn := fun _ => fun
  | [d1, d2] => { results := [.lit (.bool false)], args := [d1, d2] }
  | _ => none }
def TomeReturnsWrongFalsely : Prop := tomeReturnsRow.holds Try.pinned (OpenSpec.ofChange tomeReturnsWrong)

/-- 'countermandlaw10.TomeReads': WHATEVER THE INPUT: true; the input reads as it did. -/
def tomeReadsSpec : ChangeSpec := { name := "tomeReads", fn := fun _ => fun
  | [d] => { results := [.lit (.bool true)], args := [d] }
  | _ => none }
def tomeReadsRow : OpenClaim := { program := "ytoajfmmomgpjcaa", sum := "ba2c20069f3e06d27d37d83f7055f286b656a3488a8eb94f6c2acdd85f1bd414", func := "countermand/countermandlaw10.TomeReads", spec := "tomeReads", unfollowed := true, recurses := true, apart := false }
def TomeReadsSaid : Prop := tomeReadsRow.holds Try.pinned (OpenSpec.ofChange tomeReadsSpec)

/-- ITS FALSE NEIGHBOUR: 'it returns false'. Refute it at one input. -/
def tomeReadsWrong : ChangeSpec := { name := "tomeReads", fn := fun _ => fun
  | [d] => { results := [.lit (.bool false)], args := [d] }
  | _ => none }
def TomeReadsWrongFalsely : Prop := tomeReadsRow.holds Try.pinned (OpenSpec.ofChange tomeReadsWrong)

/-- 'countermandlaw16.ActsMarks': WHATEVER THE INPUT: true; the input reads as it did. -/
def actsMarksSpec : ChangeSpec := { name := "actsMarks", fn := fun _ => fun
  | [d1, d2] => { results := [.lit (.bool true)], args := [d1, d2] }
  | _ => none }
def actsMarksRow : OpenClaim := { program := "ytoajfmmomgpjcaa", sum := "ba2c20069f3e06d27d37d83f7055f286b656a3488a8eb94f6c2acdd85f1bd414", func := "countermand/countermandlaw16.ActsMarks", spec := "actsMarks", unfollowed := true, recurses := true, apart := false }
def ActsMarksSaid : Prop := actsMarksRow.holds Try.pinned (OpenSpec.ofChange actsMarksSpec)

/-- ITS FALSE NEIGHBOUR: 'it returns false'. Refute it at one input. -/
def actsMarksWrong : ChangeSpec := { name := "actsMarks", fn := fun _ => fun
  | [d1, d2] => { results := [.lit (.bool false)], args := [d1, d2] }
  | _ => none }
def ActsMarksWrongFalsely : Prop := actsMarksRow.holds Try.pinned (OpenSpec.ofChange actsMarksWrong)

/-- 'countermandlaw16.ActsDoes': WHATEVER THE INPUT: true; the input reads as it did. -/
def actsDoesSpec : ChangeSpec := { name := "actsDoes", fn := fun _ => fun
  | [d] => { results := [.lit (.bool true)], args := [d] }
  | _ => none }
def actsDoesRow : OpenClaim := { program := "ytoajfmmomgpjcaa", sum := "ba2c20069f3e06d27d37d83f7055f286b656a3488a8eb94f6c2acdd85f1bd414", func := "countermand/countermandlaw16.ActsDoes", spec := "actsDoes", unfollowed := true, recurses := true, apart := false }
def ActsDoesSaid : Prop := actsDoesRow.holds Try.pinned (OpenSpec.ofChange actsDoesSpec)

/-- ITS FALSE NEIGHBOUR: 'it returns false'. Refute it at one input. -/
def actsDoesWrong : ChangeSpec := { name := "actsDoes", fn := fun _ => fun
  | [d] => { results := [.lit (.bool false)], args := [d] }
  | _ => none }
def ActsDoesWrongFalsely : Prop := actsDoesRow.holds Try.pinned (OpenSpec.ofChange actsDoesWrong)

/-- 'countermandlaw13.DraftOrder': WHATEVER THE INPUT: true; the input reads as it did. -/
def draftOrderSpec : ChangeSpec := { name := "draftOrder", fn := fun _ => fun
  | [d1, d2] => { results := [.lit (.bool true)], args := [d1, d2] }
  | _ => none }
def draftOrderRow : OpenClaim := { program := "ytoajfmmomgpjcaa", sum := "ba2c20069f3e06d27d37d83f7055f286b656a3488a8eb94f6c2acdd85f1bd414", func := "countermand/countermandlaw13.DraftOrder", spec := "draftOrder", inPlace := ["slices.overlaps[countermand/draft.entry[string]]", "slices.overlaps[countermand/draft.entry[int]]"], unfollowed := true, recurses := true, apart := false }
def DraftOrderSaid : Prop := draftOrderRow.holds Try.pinned (OpenSpec.ofChange draftOrderSpec)

/-- ITS FALSE NEIGHBOUR: 'it returns false'. Refute it at one input. -/
def draftOrderWrong : ChangeSpec := { name := "draftOrder", fn := fun _ => fun
  | [d1, d2] => { results := [.lit (.bool false)], args := [d1, d2] }
  | _ => none }
def DraftOrderWrongFalsely : Prop := draftOrderRow.holds Try.pinned (OpenSpec.ofChange draftOrderWrong)

/-- 'countermandlaw13.DraftPuts': WHATEVER THE INPUT: true; the input reads as it did. -/
def draftPutsSpec : ChangeSpec := { name := "draftPuts", fn := fun _ => fun
  | [d1, d2] => { results := [.lit (.bool true)], args := [d1, d2] }
  | _ => none }
def draftPutsRow : OpenClaim := { program := "ytoajfmmomgpjcaa", sum := "ba2c20069f3e06d27d37d83f7055f286b656a3488a8eb94f6c2acdd85f1bd414", func := "countermand/countermandlaw13.DraftPuts", spec := "draftPuts", inPlace := ["slices.overlaps[countermand/draft.entry[string]]", "slices.overlaps[countermand/draft.entry[int]]"], unfollowed := true, recurses := true, apart := false }
def DraftPutsSaid : Prop := draftPutsRow.holds Try.pinned (OpenSpec.ofChange draftPutsSpec)

/-- ITS FALSE NEIGHBOUR: 'it returns false'. Refute it at one input. -/
def draftPutsWrong : ChangeSpec := { name := "draftPuts", fn := fun _ => fun
  | [d1, d2] => { results := [.lit (.bool false)], args := [d1, d2] }
  | _ => none }
def DraftPutsWrongFalsely : Prop := draftPutsRow.holds Try.pinned (OpenSpec.ofChange draftPutsWrong)

/-- 'countermandlaw13.DraftCopies': WHATEVER THE INPUT: true; the input reads as it did. -/
def draftCopiesSpec : ChangeSpec := { name := "draftCopies", fn := fun _ => fun
  | [d1, d2, d3] => { results := [.lit (.bool true)], args := [d1, d2, d3] }
  | _ => none }
def draftCopiesRow : OpenClaim := { program := "ytoajfmmomgpjcaa", sum := "ba2c20069f3e06d27d37d83f7055f286b656a3488a8eb94f6c2acdd85f1bd414", func := "countermand/countermandlaw13.DraftCopies", spec := "draftCopies", inPlace := ["slices.overlaps[countermand/draft.entry[string]]", "slices.overlaps[countermand/draft.entry[int]]"], unfollowed := true, recurses := true, apart := false }
def DraftCopiesSaid : Prop := draftCopiesRow.holds Try.pinned (OpenSpec.ofChange draftCopiesSpec)

/-- ITS FALSE NEIGHBOUR: 'it returns false'. Refute it at one input. -/
def draftCopiesWrong : ChangeSpec := { name := "draftCopies", fn := fun _ => fun
  | [d1, d2, d3] => { results := [.lit (.bool false)], args := [d1, d2, d3] }
  | _ => none }
def DraftCopiesWrongFalsely : Prop := draftCopiesRow.holds Try.pinned (OpenSpec.ofChange draftCopiesWrong)

/- THE SECOND FORM. 'bulk': how many values and letters a reading holds, each counted each time it is reached (what is shared counts as often as it is met; a slice's spare places count too). A statement '..UptoSaid' is the law's where the arguments, and the package variables that the reading takes, are together of bulk at most 1048576: NARROWER than '..Said'. Prove '..Said' where nothing that the law and all that it calls make is longer than what came in: it says more and counts as full. Else prove '..UptoSaid'. A law counts once. -/
mutual
def uptoBulk {H : Type} : DataW H → Nat
  | .lit (.string bytes) => bytes.length + 1
  | .lit _ => 1
  | .nil => 1
  | .ptr d => uptoBulk d + 1
  | .slice elems spare => uptoBulkAll elems + uptoBulkAll spare + 1
  | .agg parts => uptoBulkAll parts + 1
  | .iface _ d => uptoBulk d + 1
  | .map entries => uptoBulkEntries entries + 1
  | .held _ => 1
def uptoBulkAll {H : Type} : List (DataW H) → Nat
  | [] => 0
  | d :: r => uptoBulk d + uptoBulkAll r
def uptoBulkEntries {H : Type} : List (Lit × DataW H) → Nat
  | [] => 0
  | x :: r => uptoBulkEntry x + uptoBulkEntries r
def uptoBulkEntry {H : Type} : Lit × DataW H → Nat
  | (.string bytes, d) => bytes.length + uptoBulk d + 1
  | (_, d) => uptoBulk d + 1
 end
def uptoSmall : (H : Type) → List (DataW H) → Bool := fun _ ds => decide (uptoBulkAll ds ≤ 1048576)
def OpenSpec.upto (s : _root_.Go.ChangeSpec) : _root_.Go.OpenSpec := { _root_.Go.OpenSpec.ofChange s with cond := some uptoSmall }

/-- 'countermandlaw01.StylusReads', WHERE WHAT IT READS IS OF BULK AT MOST 1048576: true; the input reads as it did. -/
def stylusReadsUptoRow : OpenClaim := { program := "ytoajfmmomgpjcaa", sum := "ba2c20069f3e06d27d37d83f7055f286b656a3488a8eb94f6c2acdd85f1bd414", func := "countermand/countermandlaw01.StylusReads", spec := "stylusReads", apart := false, narrowed := true }
def StylusReadsUptoSaid : Prop := stylusReadsUptoRow.holds Try.pinned (OpenSpec.upto stylusReadsSpec)

/-- 'countermandlaw01.StylusTexts', WHERE WHAT IT READS IS OF BULK AT MOST 1048576: true; the input reads as it did. -/
def stylusTextsUptoRow : OpenClaim := { program := "ytoajfmmomgpjcaa", sum := "ba2c20069f3e06d27d37d83f7055f286b656a3488a8eb94f6c2acdd85f1bd414", func := "countermand/countermandlaw01.StylusTexts", spec := "stylusTexts", apart := false, narrowed := true }
def StylusTextsUptoSaid : Prop := stylusTextsUptoRow.holds Try.pinned (OpenSpec.upto stylusTextsSpec)

/-- 'countermandlaw01.StylusReturns', WHERE WHAT IT READS IS OF BULK AT MOST 1048576: true; the input reads as it did. -/
def stylusReturnsUptoRow : OpenClaim := { program := "ytoajfmmomgpjcaa", sum := "ba2c20069f3e06d27d37d83f7055f286b656a3488a8eb94f6c2acdd85f1bd414", func := "countermand/countermandlaw01.StylusReturns", spec := "stylusReturns", apart := false, narrowed := true }
def StylusReturnsUptoSaid : Prop := stylusReturnsUptoRow.holds Try.pinned (OpenSpec.upto stylusReturnsSpec)

/-- 'countermandlaw10.TomeApart', WHERE WHAT IT READS IS OF BULK AT MOST 1048576: true; the input reads as it did. -/
def tomeApartUptoRow : OpenClaim := { program := "ytoajfmmomgpjcaa", sum := "ba2c20069f3e06d27d37d83f7055f286b656a3488a8eb94f6c2acdd85f1bd414", func := "countermand/countermandlaw10.TomeApart", spec := "tomeApart", unfollowed := true, recurses := true, apart := false, narrowed := true }
def TomeApartUptoSaid : Prop := tomeApartUptoRow.holds Try.pinned (OpenSpec.upto tomeApartSpec)

/-- 'countermandlaw10.TomeSets', WHERE WHAT IT READS IS OF BULK AT MOST 1048576: true; the input reads as it did. -/
def tomeSetsUptoRow : OpenClaim := { program := "ytoajfmmomgpjcaa", sum := "ba2c20069f3e06d27d37d83f7055f286b656a3488a8eb94f6c2acdd85f1bd414", func := "countermand/countermandlaw10.TomeSets", spec := "tomeSets", unfollowed := true, recurses := true, apart := false, narrowed := true }
def TomeSetsUptoSaid : Prop := tomeSetsUptoRow.holds Try.pinned (OpenSpec.upto tomeSetsSpec)

/-- 'countermandlaw10.TomeReturns', WHERE WHAT IT READS IS OF BULK AT MOST 1048576: true; the input reads as it did. -/
def tomeReturnsUptoRow : OpenClaim := { program := "ytoajfmmomgpjcaa", sum := "ba2c20069f3e06d27d37d83f7055f286b656a3488a8eb94f6c2acdd85f1bd414", func := "countermand/countermandlaw10.TomeReturns", spec := "tomeReturns", unfollowed := true, recurses := true, apart := false, narrowed := true }
def TomeReturnsUptoSaid : Prop := tomeReturnsUptoRow.holds Try.pinned (OpenSpec.upto tomeReturnsSpec)

/-- 'countermandlaw10.TomeReads', WHERE WHAT IT READS IS OF BULK AT MOST 1048576: true; the input reads as it did. -/
def tomeReadsUptoRow : OpenClaim := { program := "ytoajfmmomgpjcaa", sum := "ba2c20069f3e06d27d37d83f7055f286b656a3488a8eb94f6c2acdd85f1bd414", func := "countermand/countermandlaw10.TomeReads", spec := "tomeReads", unfollowed := true, recurses := true, apart := false, narrowed := true }
def TomeReadsUptoSaid : Prop := tomeReadsUptoRow.holds Try.pinned (OpenSpec.upto tomeReadsSpec)

/-- 'countermandlaw16.ActsMarks', WHERE WHAT IT READS IS OF BULK AT MOST 1048576: true; the input reads as it did. -/
def actsMarksUptoRow : OpenClaim := { program := "ytoajfmmomgpjcaa", sum := "ba2c20069f3e06d27d37d83f7055f286b656a3488a8eb94f6c2acdd85f1bd414", func := "countermand/countermandlaw16.ActsMarks", spec := "actsMarks", unfollowed := true, recurses := true, apart := false, narrowed := true }
def ActsMarksUptoSaid : Prop := actsMarksUptoRow.holds Try.pinned (OpenSpec.upto actsMarksSpec)

/-- 'countermandlaw16.ActsDoes', WHERE WHAT IT READS IS OF BULK AT MOST 1048576: true; the input reads as it did. -/
def actsDoesUptoRow : OpenClaim := { program := "ytoajfmmomgpjcaa", sum := "ba2c20069f3e06d27d37d83f7055f286b656a3488a8eb94f6c2acdd85f1bd414", func := "countermand/countermandlaw16.ActsDoes", spec := "actsDoes", unfollowed := true, recurses := true, apart := false, narrowed := true }
def ActsDoesUptoSaid : Prop := actsDoesUptoRow.holds Try.pinned (OpenSpec.upto actsDoesSpec)

/-- 'countermandlaw13.DraftOrder', WHERE WHAT IT READS IS OF BULK AT MOST 1048576: true; the input reads as it did. -/
def draftOrderUptoRow : OpenClaim := { program := "ytoajfmmomgpjcaa", sum := "ba2c20069f3e06d27d37d83f7055f286b656a3488a8eb94f6c2acdd85f1bd414", func := "countermand/countermandlaw13.DraftOrder", spec := "draftOrder", inPlace := ["slices.overlaps[countermand/draft.entry[string]]", "slices.overlaps[countermand/draft.entry[int]]"], unfollowed := true, recurses := true, apart := false, narrowed := true }
def DraftOrderUptoSaid : Prop := draftOrderUptoRow.holds Try.pinned (OpenSpec.upto draftOrderSpec)

/-- 'countermandlaw13.DraftPuts', WHERE WHAT IT READS IS OF BULK AT MOST 1048576: true; the input reads as it did. -/
def draftPutsUptoRow : OpenClaim := { program := "ytoajfmmomgpjcaa", sum := "ba2c20069f3e06d27d37d83f7055f286b656a3488a8eb94f6c2acdd85f1bd414", func := "countermand/countermandlaw13.DraftPuts", spec := "draftPuts", inPlace := ["slices.overlaps[countermand/draft.entry[string]]", "slices.overlaps[countermand/draft.entry[int]]"], unfollowed := true, recurses := true, apart := false, narrowed := true }
def DraftPutsUptoSaid : Prop := draftPutsUptoRow.holds Try.pinned (OpenSpec.upto draftPutsSpec)

/-- 'countermandlaw13.DraftCopies', WHERE WHAT IT READS IS OF BULK AT MOST 1048576: true; the input reads as it did. -/
def draftCopiesUptoRow : OpenClaim := { program := "ytoajfmmomgpjcaa", sum := "ba2c20069f3e06d27d37d83f7055f286b656a3488a8eb94f6c2acdd85f1bd414", func := "countermand/countermandlaw13.DraftCopies", spec := "draftCopies", inPlace := ["slices.overlaps[countermand/draft.entry[string]]", "slices.overlaps[countermand/draft.entry[int]]"], unfollowed := true, recurses := true, apart := false, narrowed := true }
def DraftCopiesUptoSaid : Prop := draftCopiesUptoRow.holds Try.pinned (OpenSpec.upto draftCopiesSpec)

end Rows
end Go.Proofs.Ytoajfmmomgpjcaa
