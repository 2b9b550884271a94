/-
  No cell of these rows narrows 'for every input' (looked for: loops, veiled, ifaces, maps, wideKeys, modest, calm, conditions, laid).
  DERIVED. THE GIVEN ROWS OF THIS SEAT. 12 by the template 'for every input the law returns true; each argument reads behind the call as it read before'; 0 by the template 'total and deterministic' (their statements: YthloobpjkeodgaaTotals.lean).
  GIVEN WITH THE SEED: the statements are not yours to turn. If you find one false, say at which input.
  Laid BY PROGRAM, IN A SANDBOX (cutbox-rows.mjs): the forced cells as the released guide's own fill.sh prints them over the translation 7b9e05f0726d3b9a… (all of the seat's roots in one cut). By AI agents, Wed Nov 11 2026. No macro, syntax, notation, axiom, sorry.
-/
import Derived.Test.YthloobpjkeodgaaChecked
import GoSem.Claim
import GoSem.ClaimJoined
import GoSem.ClaimMapViews
import Derived.JoinedTies
import Derived.KernelRfl
namespace Go.Proofs.Ythloobpjkeodgaa
/- THE CELL 'sum', in the pinned program and in every row, IS THE sha256 OF THE DUMP (.gsa) THAT YthloobpjkeodgaaProg.lean LOADS. Nothing in Lean hashes anything: it is a label: what it is worth is what the hold of that sum in a sandbox is worth. -/
noncomputable def Try.pinned : Pinned := { name := "ythloobpjkeodgaa", sum := "7b9e05f0726d3b9acb3e088687ce1b2a3bbcf63f87a1520346c5b3c8601a3d24", checked := Try.checked }
namespace Rows
def none {H : Type} : Left H := { results := [], args := [] }

/-- 'countermandlaw16.ActsDoes': WHATEVER THE INPUT: true; the input reads as it did. -/
def actsDoesSpec : ChangeSpec := { name := "actsDoes", fn := fun _ => fun
  | [d] => { results := [.lit (.bool true)], args := [d] }
  | _ => none }
def actsDoesRow : OpenClaim := { program := "ythloobpjkeodgaa", sum := "7b9e05f0726d3b9acb3e088687ce1b2a3bbcf63f87a1520346c5b3c8601a3d24", func := "countermand/countermandlaw16.ActsDoes", spec := "actsDoes", unfollowed := true, recurses := true, apart := false }
def ActsDoesSaid : Prop := actsDoesRow.holds Try.pinned (OpenSpec.ofChange actsDoesSpec)

/-- ITS FALSE NEIGHBOUR: 'it returns false'. Refute it at one input. -/
def actsDoesWrong : ChangeSpec := { name := "actsDoes", fn := fun _ => fun
  | [d] => { results := [.lit (.bool false)], args := [d] }
  | _ => none }
def ActsDoesWrongFalsely : Prop := actsDoesRow.holds Try.pinned (OpenSpec.ofChange actsDoesWrong)

/-- 'countermandlaw04.WalStops': WHATEVER THE INPUT: true; the input reads as it did. -/
def walStopsSpec : ChangeSpec := { name := "walStops", fn := fun _ => fun
  | [d1, d2] => { results := [.lit (.bool true)], args := [d1, d2] }
  | _ => none }
def walStopsRow : OpenClaim := { program := "ythloobpjkeodgaa", sum := "7b9e05f0726d3b9acb3e088687ce1b2a3bbcf63f87a1520346c5b3c8601a3d24", func := "countermand/countermandlaw04.WalStops", spec := "walStops", unfollowed := true, recurses := true, apart := false }
def WalStopsSaid : Prop := walStopsRow.holds Try.pinned (OpenSpec.ofChange walStopsSpec)

/-- ITS FALSE NEIGHBOUR: 'it returns false'. Refute it at one input. -/
def walStopsWrong : ChangeSpec := { name := "walStops", fn := fun _ => fun
  | [d1, d2] => { results := [.lit (.bool false)], args := [d1, d2] }
  | _ => none }
def WalStopsWrongFalsely : Prop := walStopsRow.holds Try.pinned (OpenSpec.ofChange walStopsWrong)

/-- 'countermandlaw04.WalOther': WHATEVER THE INPUT: true; the input reads as it did. -/
def walOtherSpec : ChangeSpec := { name := "walOther", fn := fun _ => fun
  | [d1, d2] => { results := [.lit (.bool true)], args := [d1, d2] }
  | _ => none }
def walOtherRow : OpenClaim := { program := "ythloobpjkeodgaa", sum := "7b9e05f0726d3b9acb3e088687ce1b2a3bbcf63f87a1520346c5b3c8601a3d24", func := "countermand/countermandlaw04.WalOther", spec := "walOther", unfollowed := true, recurses := true, apart := false }
def WalOtherSaid : Prop := walOtherRow.holds Try.pinned (OpenSpec.ofChange walOtherSpec)

/-- ITS FALSE NEIGHBOUR: 'it returns false'. Refute it at one input. -/
def walOtherWrong : ChangeSpec := { name := "walOther", fn := fun _ => fun
  | [d1, d2] => { results := [.lit (.bool false)], args := [d1, d2] }
  | _ => none }
def WalOtherWrongFalsely : Prop := walOtherRow.holds Try.pinned (OpenSpec.ofChange walOtherWrong)

/-- 'countermandlaw04.WalLasts': WHATEVER THE INPUT: true; the input reads as it did. -/
def walLastsSpec : ChangeSpec := { name := "walLasts", fn := fun _ => fun
  | [d1, d2, d3, d4] => { results := [.lit (.bool true)], args := [d1, d2, d3, d4] }
  | _ => none }
def walLastsRow : OpenClaim := { program := "ythloobpjkeodgaa", sum := "7b9e05f0726d3b9acb3e088687ce1b2a3bbcf63f87a1520346c5b3c8601a3d24", func := "countermand/countermandlaw04.WalLasts", spec := "walLasts", unfollowed := true, recurses := true, apart := false }
def WalLastsSaid : Prop := walLastsRow.holds Try.pinned (OpenSpec.ofChange walLastsSpec)

/-- ITS FALSE NEIGHBOUR: 'it returns false'. Refute it at one input. -/
def walLastsWrong : ChangeSpec := { name := "walLasts", fn := fun _ => fun
  | [d1, d2, d3, d4] => { results := [.lit (.bool false)], args := [d1, d2, d3, d4] }
  | _ => none }
def WalLastsWrongFalsely : Prop := walLastsRow.holds Try.pinned (OpenSpec.ofChange walLastsWrong)

/-- 'countermandlaw04.WalClears': WHATEVER THE INPUT: true; the input reads as it did. -/
def walClearsSpec : ChangeSpec := { name := "walClears", fn := fun _ => fun
  | [d1, d2] => { results := [.lit (.bool true)], args := [d1, d2] }
  | _ => none }
def walClearsRow : OpenClaim := { program := "ythloobpjkeodgaa", sum := "7b9e05f0726d3b9acb3e088687ce1b2a3bbcf63f87a1520346c5b3c8601a3d24", func := "countermand/countermandlaw04.WalClears", spec := "walClears", unfollowed := true, recurses := true, apart := false }
def WalClearsSaid : Prop := walClearsRow.holds Try.pinned (OpenSpec.ofChange walClearsSpec)

/-- ITS FALSE NEIGHBOUR: 'it returns false'. Refute it at one input. -/
def walClearsWrong : ChangeSpec := { name := "walClears", fn := fun _ => fun
  | [d1, d2] => { results := [.lit (.bool false)], args := [d1, d2] }
  | _ => none }
def WalClearsWrongFalsely : Prop := walClearsRow.holds Try.pinned (OpenSpec.ofChange walClearsWrong)

/-- 'countermandlaw04.WalDoes': WHATEVER THE INPUT: true; the input reads as it did. -/
def walDoesSpec : ChangeSpec := { name := "walDoes", fn := fun _ => fun
  | [d1, d2] => { results := [.lit (.bool true)], args := [d1, d2] }
  | _ => none }
def walDoesRow : OpenClaim := { program := "ythloobpjkeodgaa", sum := "7b9e05f0726d3b9acb3e088687ce1b2a3bbcf63f87a1520346c5b3c8601a3d24", func := "countermand/countermandlaw04.WalDoes", spec := "walDoes", unfollowed := true, recurses := true, apart := false }
def WalDoesSaid : Prop := walDoesRow.holds Try.pinned (OpenSpec.ofChange walDoesSpec)

/-- ITS FALSE NEIGHBOUR: 'it returns false'. Refute it at one input. -/
def walDoesWrong : ChangeSpec := { name := "walDoes", fn := fun _ => fun
  | [d1, d2] => { results := [.lit (.bool false)], args := [d1, d2] }
  | _ => none }
def WalDoesWrongFalsely : Prop := walDoesRow.holds Try.pinned (OpenSpec.ofChange walDoesWrong)

/-- 'countermandlaw18.RedoReads': WHATEVER THE INPUT: true; the input reads as it did. -/
def redoReadsSpec : ChangeSpec := { name := "redoReads", fn := fun _ => fun
  | [d] => { results := [.lit (.bool true)], args := [d] }
  | _ => none }
def redoReadsRow : OpenClaim := { program := "ythloobpjkeodgaa", sum := "7b9e05f0726d3b9acb3e088687ce1b2a3bbcf63f87a1520346c5b3c8601a3d24", func := "countermand/countermandlaw18.RedoReads", spec := "redoReads", inPlace := ["slices.overlaps[countermand/draft.entry[countermand/file.File]]"], unfollowed := true, recurses := true, apart := false }
def RedoReadsSaid : Prop := redoReadsRow.holds Try.pinned (OpenSpec.ofChange redoReadsSpec)

/-- ITS FALSE NEIGHBOUR: 'it returns false'. Refute it at one input. -/
def redoReadsWrong : ChangeSpec := { name := "redoReads", fn := fun _ => fun
  | [d] => { results := [.lit (.bool false)], args := [d] }
  | _ => none }
def RedoReadsWrongFalsely : Prop := redoReadsRow.holds Try.pinned (OpenSpec.ofChange redoReadsWrong)

/-- 'countermandlaw18.RedoBytes': WHATEVER THE INPUT: true; the input reads as it did. -/
def redoBytesSpec : ChangeSpec := { name := "redoBytes", fn := fun _ => fun
  | [d1, d2] => { results := [.lit (.bool true)], args := [d1, d2] }
  | _ => none }
def redoBytesRow : OpenClaim := { program := "ythloobpjkeodgaa", sum := "7b9e05f0726d3b9acb3e088687ce1b2a3bbcf63f87a1520346c5b3c8601a3d24", func := "countermand/countermandlaw18.RedoBytes", spec := "redoBytes", inPlace := ["slices.overlaps[countermand/draft.entry[countermand/file.File]]"], unfollowed := true, recurses := true, apart := false }
def RedoBytesSaid : Prop := redoBytesRow.holds Try.pinned (OpenSpec.ofChange redoBytesSpec)

/-- ITS FALSE NEIGHBOUR: 'it returns false'. Refute it at one input. -/
def redoBytesWrong : ChangeSpec := { name := "redoBytes", fn := fun _ => fun
  | [d1, d2] => { results := [.lit (.bool false)], args := [d1, d2] }
  | _ => none }
def RedoBytesWrongFalsely : Prop := redoBytesRow.holds Try.pinned (OpenSpec.ofChange redoBytesWrong)

/-- 'countermandlaw18.RedoApplies': WHATEVER THE INPUT: true; the input reads as it did. -/
def redoAppliesSpec : ChangeSpec := { name := "redoApplies", fn := fun _ => fun
  | [d1, d2, d3] => { results := [.lit (.bool true)], args := [d1, d2, d3] }
  | _ => none }
def redoAppliesRow : OpenClaim := { program := "ythloobpjkeodgaa", sum := "7b9e05f0726d3b9acb3e088687ce1b2a3bbcf63f87a1520346c5b3c8601a3d24", func := "countermand/countermandlaw18.RedoApplies", spec := "redoApplies", inPlace := ["slices.overlaps[countermand/draft.entry[countermand/file.File]]"], unfollowed := true, recurses := true, apart := false }
def RedoAppliesSaid : Prop := redoAppliesRow.holds Try.pinned (OpenSpec.ofChange redoAppliesSpec)

/-- ITS FALSE NEIGHBOUR: 'it returns false'. Refute it at one input. -/
def redoAppliesWrong : ChangeSpec := { name := "redoApplies", fn := fun _ => fun
  | [d1, d2, d3] => { results := [.lit (.bool false)], args := [d1, d2, d3] }
  | _ => none }
def RedoAppliesWrongFalsely : Prop := redoAppliesRow.holds Try.pinned (OpenSpec.ofChange redoAppliesWrong)

/-- 'countermandlaw18.RedoReplays': WHATEVER THE INPUT: true; the input reads as it did. -/
def redoReplaysSpec : ChangeSpec := { name := "redoReplays", fn := fun _ => fun
  | [d1, d2] => { results := [.lit (.bool true)], args := [d1, d2] }
  | _ => none }
def redoReplaysRow : OpenClaim := { program := "ythloobpjkeodgaa", sum := "7b9e05f0726d3b9acb3e088687ce1b2a3bbcf63f87a1520346c5b3c8601a3d24", func := "countermand/countermandlaw18.RedoReplays", spec := "redoReplays", inPlace := ["slices.overlaps[countermand/draft.entry[countermand/file.File]]"], unfollowed := true, recurses := true, apart := false }
def RedoReplaysSaid : Prop := redoReplaysRow.holds Try.pinned (OpenSpec.ofChange redoReplaysSpec)

/-- ITS FALSE NEIGHBOUR: 'it returns false'. Refute it at one input. -/
def redoReplaysWrong : ChangeSpec := { name := "redoReplays", fn := fun _ => fun
  | [d1, d2] => { results := [.lit (.bool false)], args := [d1, d2] }
  | _ => none }
def RedoReplaysWrongFalsely : Prop := redoReplaysRow.holds Try.pinned (OpenSpec.ofChange redoReplaysWrong)

/-- 'countermandlaw18.RedoLast': WHATEVER THE INPUT: true; the input reads as it did. -/
def redoLastSpec : ChangeSpec := { name := "redoLast", fn := fun _ => fun
  | [d1, d2, d3] => { results := [.lit (.bool true)], args := [d1, d2, d3] }
  | _ => none }
def redoLastRow : OpenClaim := { program := "ythloobpjkeodgaa", sum := "7b9e05f0726d3b9acb3e088687ce1b2a3bbcf63f87a1520346c5b3c8601a3d24", func := "countermand/countermandlaw18.RedoLast", spec := "redoLast", inPlace := ["slices.overlaps[countermand/draft.entry[countermand/file.File]]"], unfollowed := true, recurses := true, apart := false }
def RedoLastSaid : Prop := redoLastRow.holds Try.pinned (OpenSpec.ofChange redoLastSpec)

/-- ITS FALSE NEIGHBOUR: 'it returns false'. Refute it at one input. -/
def redoLastWrong : ChangeSpec := { name := "redoLast", fn := fun _ => fun
  | [d1, d2, d3] => { results := [.lit (.bool false)], args := [d1, d2, d3] }
  | _ => none }
def RedoLastWrongFalsely : Prop := redoLastRow.holds Try.pinned (OpenSpec.ofChange redoLastWrong)

/-- 'countermandlaw17.MarkPops': WHATEVER THE INPUT: true; the input reads as it did. -/
def markPopsSpec : ChangeSpec := { name := "markPops", fn := fun _ => fun
  | [d] => { results := [.lit (.bool true)], args := [d] }
  | _ => none }
def markPopsRow : OpenClaim := { program := "ythloobpjkeodgaa", sum := "7b9e05f0726d3b9acb3e088687ce1b2a3bbcf63f87a1520346c5b3c8601a3d24", func := "countermand/countermandlaw17.MarkPops", spec := "markPops", inPlace := ["slices.overlaps[countermand/draft.entry[int]]"], unfollowed := true, recurses := true, apart := false }
def MarkPopsSaid : Prop := markPopsRow.holds Try.pinned (OpenSpec.ofChange markPopsSpec)

/-- ITS FALSE NEIGHBOUR: 'it returns false'. Refute it at one input. -/
def markPopsWrong : ChangeSpec := { name := "markPops", fn := fun _ => fun
  | [d] => { results := [.lit (.bool false)], args := [d] }
  | _ => none }
def MarkPopsWrongFalsely : Prop := markPopsRow.holds Try.pinned (OpenSpec.ofChange markPopsWrong)

/- THE SECOND FORM. 'bulk': how many values and letters a reading holds, each counted each time it is reached (what is shared counts as often as it is met; a slice's spare places count too). A statement '..UptoSaid' is the law's where the arguments, and the package variables that the reading takes, are together of bulk at most 1048576: NARROWER than '..Said'. Prove '..Said' where nothing that the law and all that it calls make is longer than what came in: it says more and counts as full. Else prove '..UptoSaid'. A law counts once. -/
mutual
def uptoBulk {H : Type} : DataW H → Nat
  | .lit (.string bytes) => bytes.length + 1
  | .lit _ => 1
  | .nil => 1
  | .ptr d => uptoBulk d + 1
  | .slice elems spare => uptoBulkAll elems + uptoBulkAll spare + 1
  | .agg parts => uptoBulkAll parts + 1
  | .iface _ d => uptoBulk d + 1
  | .map entries => uptoBulkEntries entries + 1
  | .held _ => 1
def uptoBulkAll {H : Type} : List (DataW H) → Nat
  | [] => 0
  | d :: r => uptoBulk d + uptoBulkAll r
def uptoBulkEntries {H : Type} : List (Lit × DataW H) → Nat
  | [] => 0
  | x :: r => uptoBulkEntry x + uptoBulkEntries r
def uptoBulkEntry {H : Type} : Lit × DataW H → Nat
  | (.string bytes, d) => bytes.length + uptoBulk d + 1
  | (_, d) => uptoBulk d + 1
 end
def uptoSmall : (H : Type) → List (DataW H) → Bool := fun _ ds => decide (uptoBulkAll ds ≤ 1048576)
def OpenSpec.upto (s : _root_.Go.ChangeSpec) : _root_.Go.OpenSpec := { _root_.Go.OpenSpec.ofChange s with cond := some uptoSmall }

/-- 'countermandlaw16.ActsDoes', WHERE WHAT IT READS IS OF BULK AT MOST 1048576: true; the input reads as it did. -/
def actsDoesUptoRow : OpenClaim := { program := "ythloobpjkeodgaa", sum := "7b9e05f0726d3b9acb3e088687ce1b2a3bbcf63f87a1520346c5b3c8601a3d24", func := "countermand/countermandlaw16.ActsDoes", spec := "actsDoes", unfollowed := true, recurses := true, apart := false, narrowed := true }
def ActsDoesUptoSaid : Prop := actsDoesUptoRow.holds Try.pinned (OpenSpec.upto actsDoesSpec)

/-- 'countermandlaw04.WalStops', WHERE WHAT IT READS IS OF BULK AT MOST 1048576: true; the input reads as it did. -/
def walStopsUptoRow : OpenClaim := { program := "ythloobpjkeodgaa", sum := "7b9e05f0726d3b9acb3e088687ce1b2a3bbcf63f87a1520346c5b3c8601a3d24", func := "countermand/countermandlaw04.WalStops", spec := "walStops", unfollowed := true, recurses := true, apart := false, narrowed := true }
def WalStopsUptoSaid : Prop := walStopsUptoRow.holds Try.pinned (OpenSpec.upto walStopsSpec)

/-- 'countermandlaw04.WalOther', WHERE WHAT IT READS IS OF BULK AT MOST 1048576: true; the input reads as it did. -/
def walOtherUptoRow : OpenClaim := { program := "ythloobpjkeodgaa", sum := "7b9e05f0726d3b9acb3e088687ce1b2a3bbcf63f87a1520346c5b3c8601a3d24", func := "countermand/countermandlaw04.WalOther", spec := "walOther", unfollowed := true, recurses := true, apart := false, narrowed := true }
def WalOtherUptoSaid : Prop := walOtherUptoRow.holds Try.pinned (OpenSpec.upto walOtherSpec)

/-- 'countermandlaw04.WalLasts', WHERE WHAT IT READS IS OF BULK AT MOST 1048576: true; the input reads as it did. -/
def walLastsUptoRow : OpenClaim := { program := "ythloobpjkeodgaa", sum := "7b9e05f0726d3b9acb3e088687ce1b2a3bbcf63f87a1520346c5b3c8601a3d24", func := "countermand/countermandlaw04.WalLasts", spec := "walLasts", unfollowed := true, recurses := true, apart := false, narrowed := true }
def WalLastsUptoSaid : Prop := walLastsUptoRow.holds Try.pinned (OpenSpec.upto walLastsSpec)

/-- 'countermandlaw04.WalClears', WHERE WHAT IT READS IS OF BULK AT MOST 1048576: true; the input reads as it did. -/
def walClearsUptoRow : OpenClaim := { program := "ythloobpjkeodgaa", sum := "7b9e05f0726d3b9acb3e088687ce1b2a3bbcf63f87a1520346c5b3c8601a3d24", func := "countermand/countermandlaw04.WalClears", spec := "walClears", unfollowed := true, recurses := true, apart := false, narrowed := true }
def WalClearsUptoSaid : Prop := walClearsUptoRow.holds Try.pinned (OpenSpec.upto walClearsSpec)

/-- 'countermandlaw04.WalDoes', WHERE WHAT IT READS IS OF BULK AT MOST 1048576: true; the input reads as it did. -/
def walDoesUptoRow : OpenClaim := { program := "ythloobpjkeodgaa", sum := "7b9e05f0726d3b9acb3e088687ce1b2a3bbcf63f87a1520346c5b3c8601a3d24", func := "countermand/countermandlaw04.WalDoes", spec := "walDoes", unfollowed := true, recurses := true, apart := false, narrowed := true }
def WalDoesUptoSaid : Prop := walDoesUptoRow.holds Try.pinned (OpenSpec.upto walDoesSpec)

/-- 'countermandlaw18.RedoReads', WHERE WHAT IT READS IS OF BULK AT MOST 1048576: true; the input reads as it did. -/
def redoReadsUptoRow : OpenClaim := { program := "ythloobpjkeodgaa", sum := "7b9e05f0726d3b9acb3e088687ce1b2a3bbcf63f87a1520346c5b3c8601a3d24", func := "countermand/countermandlaw18.RedoReads", spec := "redoReads", inPlace := ["slices.overlaps[countermand/draft.entry[countermand/file.File]]"], unfollowed := true, recurses := true, apart := false, narrowed := true }
def RedoReadsUptoSaid : Prop := redoReadsUptoRow.holds Try.pinned (OpenSpec.upto redoReadsSpec)

/-- 'countermandlaw18.RedoBytes', WHERE WHAT IT READS IS OF BULK AT MOST 1048576: true; the input reads as it did. -/
def redoBytesUptoRow : OpenClaim := { program := "ythloobpjkeodgaa", sum := "7b9e05f0726d3b9acb3e088687ce1b2a3bbcf63f87a1520346c5b3c8601a3d24", func := "countermand/countermandlaw18.RedoBytes", spec := "redoBytes", inPlace := ["slices.overlaps[countermand/draft.entry[countermand/file.File]]"], unfollowed := true, recurses := true, apart := false, narrowed := true }
def RedoBytesUptoSaid : Prop := redoBytesUptoRow.holds Try.pinned (OpenSpec.upto redoBytesSpec)

/-- 'countermandlaw18.RedoApplies', WHERE WHAT IT READS IS OF BULK AT MOST 1048576: true; the input reads as it did. -/
def redoAppliesUptoRow : OpenClaim := { program := "ythloobpjkeodgaa", sum := "7b9e05f0726d3b9acb3e088687ce1b2a3bbcf63f87a1520346c5b3c8601a3d24", func := "countermand/countermandlaw18.RedoApplies", spec := "redoApplies", inPlace := ["slices.overlaps[countermand/draft.entry[countermand/file.File]]"], unfollowed := true, recurses := true, apart := false, narrowed := true }
def RedoAppliesUptoSaid : Prop := redoAppliesUptoRow.holds Try.pinned (OpenSpec.upto redoAppliesSpec)

/-- 'countermandlaw18.RedoReplays', WHERE WHAT IT READS IS OF BULK AT MOST 1048576: true; the input reads as it did. -/
def redoReplaysUptoRow : OpenClaim := { program := "ythloobpjkeodgaa", sum := "7b9e05f0726d3b9acb3e088687ce1b2a3bbcf63f87a1520346c5b3c8601a3d24", func := "countermand/countermandlaw18.RedoReplays", spec := "redoReplays", inPlace := ["slices.overlaps[countermand/draft.entry[countermand/file.File]]"], unfollowed := true, recurses := true, apart := false, narrowed := true }
def RedoReplaysUptoSaid : Prop := redoReplaysUptoRow.holds Try.pinned (OpenSpec.upto redoReplaysSpec)

/-- 'countermandlaw18.RedoLast', WHERE WHAT IT READS IS OF BULK AT MOST 1048576: true; the input reads as it did. -/
def redoLastUptoRow : OpenClaim := { program := "ythloobpjkeodgaa", sum := "7b9e05f0726d3b9acb3e088687ce1b2a3bbcf63f87a1520346c5b3c8601a3d24", func := "countermand/countermandlaw18.RedoLast", spec := "redoLast", inPlace := ["slices.overlaps[countermand/draft.entry[countermand/file.File]]"], unfollowed := true, recurses := true, apart := false, narrowed := true }
def RedoLastUptoSaid : Prop := redoLastUptoRow.holds Try.pinned (OpenSpec.upto redoLastSpec)

/-- 'countermandlaw17.MarkPops', WHERE WHAT IT READS IS OF BULK AT MOST 1048576: true; the input reads as it did. -/
def markPopsUptoRow : OpenClaim := { program := "ythloobpjkeodgaa", sum := "7b9e05f0726d3b9acb3e088687ce1b2a3bbcf63f87a1520346c5b3c8601a3d24", func := "countermand/countermandlaw17.MarkPops", spec := "markPops", inPlace := ["slices.overlaps[countermand/draft.entry[int]]"], unfollowed := true, recurses := true, apart := false, narrowed := true }
def MarkPopsUptoSaid : Prop := markPopsUptoRow.holds Try.pinned (OpenSpec.upto markPopsSpec)

end Rows
end Go.Proofs.Ythloobpjkeodgaa
