/-
  No cell of these rows narrows 'for every input' (looked for: loops, veiled, ifaces, maps, wideKeys, modest, calm, conditions, laid).
  DERIVED. THE GIVEN ROWS OF THIS SEAT. 6 by the template 'for every input the law returns true; each argument reads behind the call as it read before'; 0 by the template 'total and deterministic' (their statements: YtgldgabefiialaaGreatTotals.lean).
  GIVEN WITH THE SEED: the statements are not yours to turn. If you find one false, say at which input.
  Laid BY PROGRAM, IN A SANDBOX (cutbox-rows.mjs): the forced cells as the released guide's own fill.sh prints them over the translation 95c460a1e5178944… (all of the seat's roots in one cut). By AI agents, Wed Nov 11 2026. No macro, syntax, notation, axiom, sorry.
-/
import Derived.Test.YtgldgabefiialaaGreatChecked
import GoSem.Claim
import GoSem.ClaimJoined
import GoSem.ClaimMapViews
import Derived.JoinedTies
import Derived.KernelRfl
namespace Go.Proofs.YtgldgabefiialaaGreat
/- THE CELL 'sum', in the pinned program and in every row, IS THE sha256 OF THE DUMP (.gsa) THAT YtgldgabefiialaaGreatProg.lean LOADS. Nothing in Lean hashes anything: it is a label: what it is worth is what the hold of that sum in a sandbox is worth. -/
noncomputable def Tryz.pinned : Pinned := { name := "ytgldgabefiialaagreat", sum := "95c460a1e51789449a4809d0437a5a6c209012f23cb64c3a614a1625218a60fc", checked := Tryz.checked }
namespace Rows
def none {H : Type} : Left H := { results := [], args := [] }

/-- 'countermandlaw20.AttemptStale': WHATEVER THE INPUT: true; the input reads as it did. -/
def attemptStaleSpec : ChangeSpec := { name := "attemptStale", fn := fun _ => fun
  | [d1, d2, d3, d4] => { results := [.lit (.bool true)], args := [d1, d2, d3, d4] }
  | _ => none }
def attemptStaleRow : OpenClaim := { program := "ytgldgabefiialaagreat", sum := "95c460a1e51789449a4809d0437a5a6c209012f23cb64c3a614a1625218a60fc", func := "countermand/countermandlaw20.AttemptStale", spec := "attemptStale", inPlace := ["slices.overlaps[countermand/draft.entry[int]]", "slices.overlaps[countermand/draft.entry[countermand/file.File]]", "internal/abi.NoEscape", "internal/bytealg.MakeNoZero"], unfollowed := true, recurses := true, apart := false }
def AttemptStaleSaid : Prop := attemptStaleRow.holds Tryz.pinned (OpenSpec.ofChange attemptStaleSpec)

/-- ITS FALSE NEIGHBOUR: 'it returns false'. Refute it at one input. -/
def attemptStaleWrong : ChangeSpec := { name := "attemptStale", fn := fun _ => fun
  | [d1, d2, d3, d4] => { results := [.lit (.bool false)], args := [d1, d2, d3, d4] }
  | _ => none }
def AttemptStaleWrongFalsely : Prop := attemptStaleRow.holds Tryz.pinned (OpenSpec.ofChange attemptStaleWrong)

/-- 'countermandlaw20.AttemptLands': WHATEVER THE INPUT: true; the input reads as it did. -/
def attemptLandsSpec : ChangeSpec := { name := "attemptLands", fn := fun _ => fun
  | [d1, d2] => { results := [.lit (.bool true)], args := [d1, d2] }
  | _ => none }
def attemptLandsRow : OpenClaim := { program := "ytgldgabefiialaagreat", sum := "95c460a1e51789449a4809d0437a5a6c209012f23cb64c3a614a1625218a60fc", func := "countermand/countermandlaw20.AttemptLands", spec := "attemptLands", inPlace := ["slices.overlaps[countermand/draft.entry[int]]", "slices.overlaps[countermand/draft.entry[countermand/file.File]]", "internal/abi.NoEscape", "internal/bytealg.MakeNoZero"], unfollowed := true, recurses := true, apart := false }
def AttemptLandsSaid : Prop := attemptLandsRow.holds Tryz.pinned (OpenSpec.ofChange attemptLandsSpec)

/-- ITS FALSE NEIGHBOUR: 'it returns false'. Refute it at one input. -/
def attemptLandsWrong : ChangeSpec := { name := "attemptLands", fn := fun _ => fun
  | [d1, d2] => { results := [.lit (.bool false)], args := [d1, d2] }
  | _ => none }
def AttemptLandsWrongFalsely : Prop := attemptLandsRow.holds Tryz.pinned (OpenSpec.ofChange attemptLandsWrong)

/-- 'countermandlaw20.AttemptOwn': WHATEVER THE INPUT: true; the input reads as it did. -/
def attemptOwnSpec : ChangeSpec := { name := "attemptOwn", fn := fun _ => fun
  | [d1, d2, d3] => { results := [.lit (.bool true)], args := [d1, d2, d3] }
  | _ => none }
def attemptOwnRow : OpenClaim := { program := "ytgldgabefiialaagreat", sum := "95c460a1e51789449a4809d0437a5a6c209012f23cb64c3a614a1625218a60fc", func := "countermand/countermandlaw20.AttemptOwn", spec := "attemptOwn", inPlace := ["slices.overlaps[countermand/draft.entry[int]]", "slices.overlaps[countermand/draft.entry[countermand/file.File]]", "internal/abi.NoEscape", "internal/bytealg.MakeNoZero"], unfollowed := true, recurses := true, apart := false }
def AttemptOwnSaid : Prop := attemptOwnRow.holds Tryz.pinned (OpenSpec.ofChange attemptOwnSpec)

/-- ITS FALSE NEIGHBOUR: 'it returns false'. Refute it at one input. -/
def attemptOwnWrong : ChangeSpec := { name := "attemptOwn", fn := fun _ => fun
  | [d1, d2, d3] => { results := [.lit (.bool false)], args := [d1, d2, d3] }
  | _ => none }
def AttemptOwnWrongFalsely : Prop := attemptOwnRow.holds Tryz.pinned (OpenSpec.ofChange attemptOwnWrong)

/-- 'countermandlaw20.AttemptWays': WHATEVER THE INPUT: true; the input reads as it did. -/
def attemptWaysSpec : ChangeSpec := { name := "attemptWays", fn := fun _ => fun
  | [d1, d2] => { results := [.lit (.bool true)], args := [d1, d2] }
  | _ => none }
def attemptWaysRow : OpenClaim := { program := "ytgldgabefiialaagreat", sum := "95c460a1e51789449a4809d0437a5a6c209012f23cb64c3a614a1625218a60fc", func := "countermand/countermandlaw20.AttemptWays", spec := "attemptWays", inPlace := ["slices.overlaps[countermand/draft.entry[int]]", "slices.overlaps[countermand/draft.entry[countermand/file.File]]", "internal/abi.NoEscape", "internal/bytealg.MakeNoZero"], unfollowed := true, recurses := true, apart := false }
def AttemptWaysSaid : Prop := attemptWaysRow.holds Tryz.pinned (OpenSpec.ofChange attemptWaysSpec)

/-- ITS FALSE NEIGHBOUR: 'it returns false'. Refute it at one input. -/
def attemptWaysWrong : ChangeSpec := { name := "attemptWays", fn := fun _ => fun
  | [d1, d2] => { results := [.lit (.bool false)], args := [d1, d2] }
  | _ => none }
def AttemptWaysWrongFalsely : Prop := attemptWaysRow.holds Tryz.pinned (OpenSpec.ofChange attemptWaysWrong)

/-- 'countermandlaw20.AttemptReads': WHATEVER THE INPUT: true; the input reads as it did. -/
def attemptReadsSpec : ChangeSpec := { name := "attemptReads", fn := fun _ => fun
  | [d1, d2] => { results := [.lit (.bool true)], args := [d1, d2] }
  | _ => none }
def attemptReadsRow : OpenClaim := { program := "ytgldgabefiialaagreat", sum := "95c460a1e51789449a4809d0437a5a6c209012f23cb64c3a614a1625218a60fc", func := "countermand/countermandlaw20.AttemptReads", spec := "attemptReads", inPlace := ["slices.overlaps[countermand/draft.entry[int]]", "slices.overlaps[countermand/draft.entry[countermand/file.File]]", "internal/abi.NoEscape", "internal/bytealg.MakeNoZero"], unfollowed := true, recurses := true, apart := false }
def AttemptReadsSaid : Prop := attemptReadsRow.holds Tryz.pinned (OpenSpec.ofChange attemptReadsSpec)

/-- ITS FALSE NEIGHBOUR: 'it returns false'. Refute it at one input. -/
def attemptReadsWrong : ChangeSpec := { name := "attemptReads", fn := fun _ => fun
  | [d1, d2] => { results := [.lit (.bool false)], args := [d1, d2] }
  | _ => none }
def AttemptReadsWrongFalsely : Prop := attemptReadsRow.holds Tryz.pinned (OpenSpec.ofChange attemptReadsWrong)

/-- 'countermandlaw20.AttemptBack': WHATEVER THE INPUT: true; the input reads as it did. -/
def attemptBackSpec : ChangeSpec := { name := "attemptBack", fn := fun _ => fun
  | [d1, d2, d3, d4, d5, d6] => { results := [.lit (.bool true)], args := [d1, d2, d3, d4, d5, d6] }
  | _ => none }
def attemptBackRow : OpenClaim := { program := "ytgldgabefiialaagreat", sum := "95c460a1e51789449a4809d0437a5a6c209012f23cb64c3a614a1625218a60fc", func := "countermand/countermandlaw20.AttemptBack", spec := "attemptBack", inPlace := ["slices.overlaps[countermand/draft.entry[int]]", "slices.overlaps[countermand/draft.entry[countermand/file.File]]", "internal/abi.NoEscape", "internal/bytealg.MakeNoZero"], unfollowed := true, recurses := true, apart := false }
def AttemptBackSaid : Prop := attemptBackRow.holds Tryz.pinned (OpenSpec.ofChange attemptBackSpec)

/-- ITS FALSE NEIGHBOUR: 'it returns false'. Refute it at one input. -/
def attemptBackWrong : ChangeSpec := { name := "attemptBack", fn := fun _ => fun
  | [d1, d2, d3, d4, d5, d6] => { results := [.lit (.bool false)], args := [d1, d2, d3, d4, d5, d6] }
  | _ => none }
def AttemptBackWrongFalsely : Prop := attemptBackRow.holds Tryz.pinned (OpenSpec.ofChange attemptBackWrong)

/- THE SECOND FORM. 'bulk': how many values and letters a reading holds, each counted each time it is reached (what is shared counts as often as it is met; a slice's spare places count too). A statement '..UptoSaid' is the law's where the arguments, and the package variables that the reading takes, are together of bulk at most 1048576: NARROWER than '..Said'. Prove '..Said' where nothing that the law and all that it calls make is longer than what came in: it says more and counts as full. Else prove '..UptoSaid'. A law counts once. -/
mutual
def uptoBulk {H : Type} : DataW H → Nat
  | .lit (.string bytes) => bytes.length + 1
  | .lit _ => 1
  | .nil => 1
  | .ptr d => uptoBulk d + 1
  | .slice elems spare => uptoBulkAll elems + uptoBulkAll spare + 1
  | .agg parts => uptoBulkAll parts + 1
  | .iface _ d => uptoBulk d + 1
  | .map entries => uptoBulkEntries entries + 1
  | .held _ => 1
def uptoBulkAll {H : Type} : List (DataW H) → Nat
  | [] => 0
  | d :: r => uptoBulk d + uptoBulkAll r
def uptoBulkEntries {H : Type} : List (Lit × DataW H) → Nat
  | [] => 0
  | x :: r => uptoBulkEntry x + uptoBulkEntries r
def uptoBulkEntry {H : Type} : Lit × DataW H → Nat
  | (.string bytes, d) => bytes.length + uptoBulk d + 1
  | (_, d) => uptoBulk d + 1
 end
def uptoSmall : (H : Type) → List (DataW H) → Bool := fun _ ds => decide (uptoBulkAll ds ≤ 1048576)
def OpenSpec.upto (s : _root_.Go.ChangeSpec) : _root_.Go.OpenSpec := { _root_.Go.OpenSpec.ofChange s with cond := some uptoSmall }

/-- 'countermandlaw20.AttemptStale', WHERE WHAT IT READS IS OF BULK AT MOST 1048576: true; the input reads as it did. -/
def attemptStaleUptoRow : OpenClaim := { program := "ytgldgabefiialaagreat", sum := "95c460a1e51789449a4809d0437a5a6c209012f23cb64c3a614a1625218a60fc", func := "countermand/countermandlaw20.AttemptStale", spec := "attemptStale", inPlace := ["slices.overlaps[countermand/draft.entry[int]]", "slices.overlaps[countermand/draft.entry[countermand/file.File]]", "internal/abi.NoEscape", "internal/bytealg.MakeNoZero"], unfollowed := true, recurses := true, apart := false, narrowed := true }
def AttemptStaleUptoSaid : Prop := attemptStaleUptoRow.holds Tryz.pinned (OpenSpec.upto attemptStaleSpec)

/-- 'countermandlaw20.AttemptLands', WHERE WHAT IT READS IS OF BULK AT MOST 1048576: true; the input reads as it did. -/
def attemptLandsUptoRow : OpenClaim := { program := "ytgldgabefiialaagreat", sum := "95c460a1e51789449a4809d0437a5a6c209012f23cb64c3a614a1625218a60fc", func := "countermand/countermandlaw20.AttemptLands", spec := "attemptLands", inPlace := ["slices.overlaps[countermand/draft.entry[int]]", "slices.overlaps[countermand/draft.entry[countermand/file.File]]", "internal/abi.NoEscape", "internal/bytealg.MakeNoZero"], unfollowed := true, recurses := true, apart := false, narrowed := true }
def AttemptLandsUptoSaid : Prop := attemptLandsUptoRow.holds Tryz.pinned (OpenSpec.upto attemptLandsSpec)

/-- 'countermandlaw20.AttemptOwn', WHERE WHAT IT READS IS OF BULK AT MOST 1048576: true; the input reads as it did. -/
def attemptOwnUptoRow : OpenClaim := { program := "ytgldgabefiialaagreat", sum := "95c460a1e51789449a4809d0437a5a6c209012f23cb64c3a614a1625218a60fc", func := "countermand/countermandlaw20.AttemptOwn", spec := "attemptOwn", inPlace := ["slices.overlaps[countermand/draft.entry[int]]", "slices.overlaps[countermand/draft.entry[countermand/file.File]]", "internal/abi.NoEscape", "internal/bytealg.MakeNoZero"], unfollowed := true, recurses := true, apart := false, narrowed := true }
def AttemptOwnUptoSaid : Prop := attemptOwnUptoRow.holds Tryz.pinned (OpenSpec.upto attemptOwnSpec)

/-- 'countermandlaw20.AttemptWays', WHERE WHAT IT READS IS OF BULK AT MOST 1048576: true; the input reads as it did. -/
def attemptWaysUptoRow : OpenClaim := { program := "ytgldgabefiialaagreat", sum := "95c460a1e51789449a4809d0437a5a6c209012f23cb64c3a614a1625218a60fc", func := "countermand/countermandlaw20.AttemptWays", spec := "attemptWays", inPlace := ["slices.overlaps[countermand/draft.entry[int]]", "slices.overlaps[countermand/draft.entry[countermand/file.File]]", "internal/abi.NoEscape", "internal/bytealg.MakeNoZero"], unfollowed := true, recurses := true, apart := false, narrowed := true }
def AttemptWaysUptoSaid : Prop := attemptWaysUptoRow.holds Tryz.pinned (OpenSpec.upto attemptWaysSpec)

/-- 'countermandlaw20.AttemptReads', WHERE WHAT IT READS IS OF BULK AT MOST 1048576: true; the input reads as it did. -/
def attemptReadsUptoRow : OpenClaim := { program := "ytgldgabefiialaagreat", sum := "95c460a1e51789449a4809d0437a5a6c209012f23cb64c3a614a1625218a60fc", func := "countermand/countermandlaw20.AttemptReads", spec := "attemptReads", inPlace := ["slices.overlaps[countermand/draft.entry[int]]", "slices.overlaps[countermand/draft.entry[countermand/file.File]]", "internal/abi.NoEscape", "internal/bytealg.MakeNoZero"], unfollowed := true, recurses := true, apart := false, narrowed := true }
def AttemptReadsUptoSaid : Prop := attemptReadsUptoRow.holds Tryz.pinned (OpenSpec.upto attemptReadsSpec)

/-- 'countermandlaw20.AttemptBack', WHERE WHAT IT READS IS OF BULK AT MOST 1048576: true; the input reads as it did. -/
def attemptBackUptoRow : OpenClaim := { program := "ytgldgabefiialaagreat", sum := "95c460a1e51789449a4809d0437a5a6c209012f23cb64c3a614a1625218a60fc", func := "countermand/countermandlaw20.AttemptBack", spec := "attemptBack", inPlace := ["slices.overlaps[countermand/draft.entry[int]]", "slices.overlaps[countermand/draft.entry[countermand/file.File]]", "internal/abi.NoEscape", "internal/bytealg.MakeNoZero"], unfollowed := true, recurses := true, apart := false, narrowed := true }
def AttemptBackUptoSaid : Prop := attemptBackUptoRow.holds Tryz.pinned (OpenSpec.upto attemptBackSpec)

end Rows
end Go.Proofs.YtgldgabefiialaaGreat
