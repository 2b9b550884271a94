/-
  No cell of these rows narrows 'for every input' (looked for: loops, veiled, ifaces, maps, wideKeys, modest, calm, conditions, laid).
  DERIVED. THE GIVEN ROWS OF THIS SEAT. 11 by the template 'for every input the law returns true; each argument reads behind the call as it read before'; 0 by the template 'total and deterministic' (their statements: YtcncdfmnpmmikaaTotals.lean).
  GIVEN WITH THE SEED: the statements are not yours to turn. If you find one false, say at which input.
  Laid BY PROGRAM, IN A SANDBOX (cutbox-rows.mjs): the forced cells as the released guide's own fill.sh prints them over the translation 2c637f70de9e93a1… (all of the seat's roots in one cut). By AI agents, Wed Nov 11 2026. No macro, syntax, notation, axiom, sorry.
-/
import Derived.Test.YtcncdfmnpmmikaaChecked
import GoSem.Claim
import GoSem.ClaimJoined
import GoSem.ClaimMapViews
import Derived.JoinedTies
import Derived.KernelRfl
namespace Go.Proofs.Ytcncdfmnpmmikaa
/- THE CELL 'sum', in the pinned program and in every row, IS THE sha256 OF THE DUMP (.gsa) THAT YtcncdfmnpmmikaaProg.lean LOADS. Nothing in Lean hashes anything: it is a label: what it is worth is what the hold of that sum in a sandbox is worth. -/
noncomputable def Try.pinned : Pinned := { name := "ytcncdfmnpmmikaa", sum := "2c637f70de9e93a18f079310221679e6908376ba03f791d58afa33b11dbff166", checked := Try.checked }
namespace Rows
def none {H : Type} : Left H := { results := [], args := [] }

/-- 'countermandlaw17.MarkCopies': WHATEVER THE INPUT: true; the input reads as it did. -/
def markCopiesSpec : ChangeSpec := { name := "markCopies", fn := fun _ => fun
  | [d1, d2, d3, d4, d5] => { results := [.lit (.bool true)], args := [d1, d2, d3, d4, d5] }
  | _ => none }
def markCopiesRow : OpenClaim := { program := "ytcncdfmnpmmikaa", sum := "2c637f70de9e93a18f079310221679e6908376ba03f791d58afa33b11dbff166", func := "countermand/countermandlaw17.MarkCopies", spec := "markCopies", inPlace := ["slices.overlaps[countermand/draft.entry[int]]", "slices.overlaps[countermand/draft.entry[countermand/file.File]]"], unfollowed := true, recurses := true, apart := false }
def MarkCopiesSaid : Prop := markCopiesRow.holds Try.pinned (OpenSpec.ofChange markCopiesSpec)

/-- ITS FALSE NEIGHBOUR: 'it returns false'. Refute it at one input. -/
def markCopiesWrong : ChangeSpec := { name := "markCopies", fn := fun _ => fun
  | [d1, d2, d3, d4, d5] => { results := [.lit (.bool false)], args := [d1, d2, d3, d4, d5] }
  | _ => none }
def MarkCopiesWrongFalsely : Prop := markCopiesRow.holds Try.pinned (OpenSpec.ofChange markCopiesWrong)

/-- 'countermandlaw05.VaultSettles': WHATEVER THE INPUT: true; the input reads as it did. -/
def vaultSettlesSpec : ChangeSpec := { name := "vaultSettles", fn := fun _ => fun
  | [d1, d2, d3, d4, d5] => { results := [.lit (.bool true)], args := [d1, d2, d3, d4, d5] }
  | _ => none }
def vaultSettlesRow : OpenClaim := { program := "ytcncdfmnpmmikaa", sum := "2c637f70de9e93a18f079310221679e6908376ba03f791d58afa33b11dbff166", func := "countermand/countermandlaw05.VaultSettles", spec := "vaultSettles", unfollowed := true, recurses := true, apart := false }
def VaultSettlesSaid : Prop := vaultSettlesRow.holds Try.pinned (OpenSpec.ofChange vaultSettlesSpec)

/-- ITS FALSE NEIGHBOUR: 'it returns false'. Refute it at one input. -/
def vaultSettlesWrong : ChangeSpec := { name := "vaultSettles", fn := fun _ => fun
  | [d1, d2, d3, d4, d5] => { results := [.lit (.bool false)], args := [d1, d2, d3, d4, d5] }
  | _ => none }
def VaultSettlesWrongFalsely : Prop := vaultSettlesRow.holds Try.pinned (OpenSpec.ofChange vaultSettlesWrong)

/-- 'countermandlaw05.VaultOpens': WHATEVER THE INPUT: true; the input reads as it did. -/
def vaultOpensSpec : ChangeSpec := { name := "vaultOpens", fn := fun _ => fun
  | [d1, d2] => { results := [.lit (.bool true)], args := [d1, d2] }
  | _ => none }
def vaultOpensRow : OpenClaim := { program := "ytcncdfmnpmmikaa", sum := "2c637f70de9e93a18f079310221679e6908376ba03f791d58afa33b11dbff166", func := "countermand/countermandlaw05.VaultOpens", spec := "vaultOpens", unfollowed := true, recurses := true, apart := false }
def VaultOpensSaid : Prop := vaultOpensRow.holds Try.pinned (OpenSpec.ofChange vaultOpensSpec)

/-- ITS FALSE NEIGHBOUR: 'it returns false'. Refute it at one input. -/
def vaultOpensWrong : ChangeSpec := { name := "vaultOpens", fn := fun _ => fun
  | [d1, d2] => { results := [.lit (.bool false)], args := [d1, d2] }
  | _ => none }
def VaultOpensWrongFalsely : Prop := vaultOpensRow.holds Try.pinned (OpenSpec.ofChange vaultOpensWrong)

/-- 'countermandlaw05.VaultEpochs': WHATEVER THE INPUT: true; the input reads as it did. -/
def vaultEpochsSpec : ChangeSpec := { name := "vaultEpochs", fn := fun _ => fun
  | [d1, d2] => { results := [.lit (.bool true)], args := [d1, d2] }
  | _ => none }
def vaultEpochsRow : OpenClaim := { program := "ytcncdfmnpmmikaa", sum := "2c637f70de9e93a18f079310221679e6908376ba03f791d58afa33b11dbff166", func := "countermand/countermandlaw05.VaultEpochs", spec := "vaultEpochs", unfollowed := true, recurses := true, apart := false }
def VaultEpochsSaid : Prop := vaultEpochsRow.holds Try.pinned (OpenSpec.ofChange vaultEpochsSpec)

/-- ITS FALSE NEIGHBOUR: 'it returns false'. Refute it at one input. -/
def vaultEpochsWrong : ChangeSpec := { name := "vaultEpochs", fn := fun _ => fun
  | [d1, d2] => { results := [.lit (.bool false)], args := [d1, d2] }
  | _ => none }
def VaultEpochsWrongFalsely : Prop := vaultEpochsRow.holds Try.pinned (OpenSpec.ofChange vaultEpochsWrong)

/-- 'countermandlaw05.VaultFull': WHATEVER THE INPUT: true; the input reads as it did. -/
def vaultFullSpec : ChangeSpec := { name := "vaultFull", fn := fun _ => fun
  | [d1, d2, d3] => { results := [.lit (.bool true)], args := [d1, d2, d3] }
  | _ => none }
def vaultFullRow : OpenClaim := { program := "ytcncdfmnpmmikaa", sum := "2c637f70de9e93a18f079310221679e6908376ba03f791d58afa33b11dbff166", func := "countermand/countermandlaw05.VaultFull", spec := "vaultFull", unfollowed := true, recurses := true, apart := false }
def VaultFullSaid : Prop := vaultFullRow.holds Try.pinned (OpenSpec.ofChange vaultFullSpec)

/-- ITS FALSE NEIGHBOUR: 'it returns false'. Refute it at one input. -/
def vaultFullWrong : ChangeSpec := { name := "vaultFull", fn := fun _ => fun
  | [d1, d2, d3] => { results := [.lit (.bool false)], args := [d1, d2, d3] }
  | _ => none }
def VaultFullWrongFalsely : Prop := vaultFullRow.holds Try.pinned (OpenSpec.ofChange vaultFullWrong)

/-- 'countermandlaw05.VaultNil': WHATEVER THE INPUT: true; the input reads as it did. -/
def vaultNilSpec : ChangeSpec := { name := "vaultNil", fn := fun _ => fun
  | [d] => { results := [.lit (.bool true)], args := [d] }
  | _ => none }
def vaultNilRow : OpenClaim := { program := "ytcncdfmnpmmikaa", sum := "2c637f70de9e93a18f079310221679e6908376ba03f791d58afa33b11dbff166", func := "countermand/countermandlaw05.VaultNil", spec := "vaultNil", unfollowed := true, recurses := true, apart := false }
def VaultNilSaid : Prop := vaultNilRow.holds Try.pinned (OpenSpec.ofChange vaultNilSpec)

/-- ITS FALSE NEIGHBOUR: 'it returns false'. Refute it at one input. -/
def vaultNilWrong : ChangeSpec := { name := "vaultNil", fn := fun _ => fun
  | [d] => { results := [.lit (.bool false)], args := [d] }
  | _ => none }
def VaultNilWrongFalsely : Prop := vaultNilRow.holds Try.pinned (OpenSpec.ofChange vaultNilWrong)

/-- 'countermandlaw05.VaultTwice': WHATEVER THE INPUT: true; the input reads as it did. -/
def vaultTwiceSpec : ChangeSpec := { name := "vaultTwice", fn := fun _ => fun
  | [d1, d2] => { results := [.lit (.bool true)], args := [d1, d2] }
  | _ => none }
def vaultTwiceRow : OpenClaim := { program := "ytcncdfmnpmmikaa", sum := "2c637f70de9e93a18f079310221679e6908376ba03f791d58afa33b11dbff166", func := "countermand/countermandlaw05.VaultTwice", spec := "vaultTwice", unfollowed := true, recurses := true, apart := false }
def VaultTwiceSaid : Prop := vaultTwiceRow.holds Try.pinned (OpenSpec.ofChange vaultTwiceSpec)

/-- ITS FALSE NEIGHBOUR: 'it returns false'. Refute it at one input. -/
def vaultTwiceWrong : ChangeSpec := { name := "vaultTwice", fn := fun _ => fun
  | [d1, d2] => { results := [.lit (.bool false)], args := [d1, d2] }
  | _ => none }
def VaultTwiceWrongFalsely : Prop := vaultTwiceRow.holds Try.pinned (OpenSpec.ofChange vaultTwiceWrong)

/-- 'countermandlaw14.SheetRenames': WHATEVER THE INPUT: true; the input reads as it did. -/
def sheetRenamesSpec : ChangeSpec := { name := "sheetRenames", fn := fun _ => fun
  | [d1, d2, d3] => { results := [.lit (.bool true)], args := [d1, d2, d3] }
  | _ => none }
def sheetRenamesRow : OpenClaim := { program := "ytcncdfmnpmmikaa", sum := "2c637f70de9e93a18f079310221679e6908376ba03f791d58afa33b11dbff166", func := "countermand/countermandlaw14.SheetRenames", spec := "sheetRenames", inPlace := ["slices.overlaps[countermand/draft.entry[countermand/file.File]]"], unfollowed := true, recurses := true, apart := false }
def SheetRenamesSaid : Prop := sheetRenamesRow.holds Try.pinned (OpenSpec.ofChange sheetRenamesSpec)

/-- ITS FALSE NEIGHBOUR: 'it returns false'. Refute it at one input. -/
def sheetRenamesWrong : ChangeSpec := { name := "sheetRenames", fn := fun _ => fun
  | [d1, d2, d3] => { results := [.lit (.bool false)], args := [d1, d2, d3] }
  | _ => none }
def SheetRenamesWrongFalsely : Prop := sheetRenamesRow.holds Try.pinned (OpenSpec.ofChange sheetRenamesWrong)

/-- 'countermandlaw14.SheetCopies': WHATEVER THE INPUT: true; the input reads as it did. -/
def sheetCopiesSpec : ChangeSpec := { name := "sheetCopies", fn := fun _ => fun
  | [d1, d2, d3] => { results := [.lit (.bool true)], args := [d1, d2, d3] }
  | _ => none }
def sheetCopiesRow : OpenClaim := { program := "ytcncdfmnpmmikaa", sum := "2c637f70de9e93a18f079310221679e6908376ba03f791d58afa33b11dbff166", func := "countermand/countermandlaw14.SheetCopies", spec := "sheetCopies", inPlace := ["slices.overlaps[countermand/draft.entry[countermand/file.File]]", "internal/abi.NoEscape", "internal/bytealg.MakeNoZero"], unfollowed := true, recurses := true, apart := false }
def SheetCopiesSaid : Prop := sheetCopiesRow.holds Try.pinned (OpenSpec.ofChange sheetCopiesSpec)

/-- ITS FALSE NEIGHBOUR: 'it returns false'. Refute it at one input. -/
def sheetCopiesWrong : ChangeSpec := { name := "sheetCopies", fn := fun _ => fun
  | [d1, d2, d3] => { results := [.lit (.bool false)], args := [d1, d2, d3] }
  | _ => none }
def SheetCopiesWrongFalsely : Prop := sheetCopiesRow.holds Try.pinned (OpenSpec.ofChange sheetCopiesWrong)

/-- 'countermandlaw14.SheetOver': WHATEVER THE INPUT: true; the input reads as it did. -/
def sheetOverSpec : ChangeSpec := { name := "sheetOver", fn := fun _ => fun
  | [d1, d2, d3] => { results := [.lit (.bool true)], args := [d1, d2, d3] }
  | _ => none }
def sheetOverRow : OpenClaim := { program := "ytcncdfmnpmmikaa", sum := "2c637f70de9e93a18f079310221679e6908376ba03f791d58afa33b11dbff166", func := "countermand/countermandlaw14.SheetOver", spec := "sheetOver", inPlace := ["slices.overlaps[countermand/draft.entry[countermand/file.File]]", "internal/abi.NoEscape", "internal/bytealg.MakeNoZero"], unfollowed := true, recurses := true, apart := false }
def SheetOverSaid : Prop := sheetOverRow.holds Try.pinned (OpenSpec.ofChange sheetOverSpec)

/-- ITS FALSE NEIGHBOUR: 'it returns false'. Refute it at one input. -/
def sheetOverWrong : ChangeSpec := { name := "sheetOver", fn := fun _ => fun
  | [d1, d2, d3] => { results := [.lit (.bool false)], args := [d1, d2, d3] }
  | _ => none }
def SheetOverWrongFalsely : Prop := sheetOverRow.holds Try.pinned (OpenSpec.ofChange sheetOverWrong)

/-- 'countermandlaw14.SheetDoes': WHATEVER THE INPUT: true; the input reads as it did. -/
def sheetDoesSpec : ChangeSpec := { name := "sheetDoes", fn := fun _ => fun
  | [d1, d2] => { results := [.lit (.bool true)], args := [d1, d2] }
  | _ => none }
def sheetDoesRow : OpenClaim := { program := "ytcncdfmnpmmikaa", sum := "2c637f70de9e93a18f079310221679e6908376ba03f791d58afa33b11dbff166", func := "countermand/countermandlaw14.SheetDoes", spec := "sheetDoes", inPlace := ["slices.overlaps[countermand/draft.entry[countermand/file.File]]", "internal/abi.NoEscape", "internal/bytealg.MakeNoZero"], unfollowed := true, recurses := true, apart := false }
def SheetDoesSaid : Prop := sheetDoesRow.holds Try.pinned (OpenSpec.ofChange sheetDoesSpec)

/-- ITS FALSE NEIGHBOUR: 'it returns false'. Refute it at one input. -/
def sheetDoesWrong : ChangeSpec := { name := "sheetDoes", fn := fun _ => fun
  | [d1, d2] => { results := [.lit (.bool false)], args := [d1, d2] }
  | _ => none }
def SheetDoesWrongFalsely : Prop := sheetDoesRow.holds Try.pinned (OpenSpec.ofChange sheetDoesWrong)

/- THE SECOND FORM. 'bulk': how many values and letters a reading holds, each counted each time it is reached (what is shared counts as often as it is met; a slice's spare places count too). A statement '..UptoSaid' is the law's where the arguments, and the package variables that the reading takes, are together of bulk at most 1048576: NARROWER than '..Said'. Prove '..Said' where nothing that the law and all that it calls make is longer than what came in: it says more and counts as full. Else prove '..UptoSaid'. A law counts once. -/
mutual
def uptoBulk {H : Type} : DataW H → Nat
  | .lit (.string bytes) => bytes.length + 1
  | .lit _ => 1
  | .nil => 1
  | .ptr d => uptoBulk d + 1
  | .slice elems spare => uptoBulkAll elems + uptoBulkAll spare + 1
  | .agg parts => uptoBulkAll parts + 1
  | .iface _ d => uptoBulk d + 1
  | .map entries => uptoBulkEntries entries + 1
  | .held _ => 1
def uptoBulkAll {H : Type} : List (DataW H) → Nat
  | [] => 0
  | d :: r => uptoBulk d + uptoBulkAll r
def uptoBulkEntries {H : Type} : List (Lit × DataW H) → Nat
  | [] => 0
  | x :: r => uptoBulkEntry x + uptoBulkEntries r
def uptoBulkEntry {H : Type} : Lit × DataW H → Nat
  | (.string bytes, d) => bytes.length + uptoBulk d + 1
  | (_, d) => uptoBulk d + 1
 end
def uptoSmall : (H : Type) → List (DataW H) → Bool := fun _ ds => decide (uptoBulkAll ds ≤ 1048576)
def OpenSpec.upto (s : _root_.Go.ChangeSpec) : _root_.Go.OpenSpec := { _root_.Go.OpenSpec.ofChange s with cond := some uptoSmall }

/-- 'countermandlaw17.MarkCopies', WHERE WHAT IT READS IS OF BULK AT MOST 1048576: true; the input reads as it did. -/
def markCopiesUptoRow : OpenClaim := { program := "ytcncdfmnpmmikaa", sum := "2c637f70de9e93a18f079310221679e6908376ba03f791d58afa33b11dbff166", func := "countermand/countermandlaw17.MarkCopies", spec := "markCopies", inPlace := ["slices.overlaps[countermand/draft.entry[int]]", "slices.overlaps[countermand/draft.entry[countermand/file.File]]"], unfollowed := true, recurses := true, apart := false, narrowed := true }
def MarkCopiesUptoSaid : Prop := markCopiesUptoRow.holds Try.pinned (OpenSpec.upto markCopiesSpec)

/-- 'countermandlaw05.VaultSettles', WHERE WHAT IT READS IS OF BULK AT MOST 1048576: true; the input reads as it did. -/
def vaultSettlesUptoRow : OpenClaim := { program := "ytcncdfmnpmmikaa", sum := "2c637f70de9e93a18f079310221679e6908376ba03f791d58afa33b11dbff166", func := "countermand/countermandlaw05.VaultSettles", spec := "vaultSettles", unfollowed := true, recurses := true, apart := false, narrowed := true }
def VaultSettlesUptoSaid : Prop := vaultSettlesUptoRow.holds Try.pinned (OpenSpec.upto vaultSettlesSpec)

/-- 'countermandlaw05.VaultOpens', WHERE WHAT IT READS IS OF BULK AT MOST 1048576: true; the input reads as it did. -/
def vaultOpensUptoRow : OpenClaim := { program := "ytcncdfmnpmmikaa", sum := "2c637f70de9e93a18f079310221679e6908376ba03f791d58afa33b11dbff166", func := "countermand/countermandlaw05.VaultOpens", spec := "vaultOpens", unfollowed := true, recurses := true, apart := false, narrowed := true }
def VaultOpensUptoSaid : Prop := vaultOpensUptoRow.holds Try.pinned (OpenSpec.upto vaultOpensSpec)

/-- 'countermandlaw05.VaultEpochs', WHERE WHAT IT READS IS OF BULK AT MOST 1048576: true; the input reads as it did. -/
def vaultEpochsUptoRow : OpenClaim := { program := "ytcncdfmnpmmikaa", sum := "2c637f70de9e93a18f079310221679e6908376ba03f791d58afa33b11dbff166", func := "countermand/countermandlaw05.VaultEpochs", spec := "vaultEpochs", unfollowed := true, recurses := true, apart := false, narrowed := true }
def VaultEpochsUptoSaid : Prop := vaultEpochsUptoRow.holds Try.pinned (OpenSpec.upto vaultEpochsSpec)

/-- 'countermandlaw05.VaultFull', WHERE WHAT IT READS IS OF BULK AT MOST 1048576: true; the input reads as it did. -/
def vaultFullUptoRow : OpenClaim := { program := "ytcncdfmnpmmikaa", sum := "2c637f70de9e93a18f079310221679e6908376ba03f791d58afa33b11dbff166", func := "countermand/countermandlaw05.VaultFull", spec := "vaultFull", unfollowed := true, recurses := true, apart := false, narrowed := true }
def VaultFullUptoSaid : Prop := vaultFullUptoRow.holds Try.pinned (OpenSpec.upto vaultFullSpec)

/-- 'countermandlaw05.VaultNil', WHERE WHAT IT READS IS OF BULK AT MOST 1048576: true; the input reads as it did. -/
def vaultNilUptoRow : OpenClaim := { program := "ytcncdfmnpmmikaa", sum := "2c637f70de9e93a18f079310221679e6908376ba03f791d58afa33b11dbff166", func := "countermand/countermandlaw05.VaultNil", spec := "vaultNil", unfollowed := true, recurses := true, apart := false, narrowed := true }
def VaultNilUptoSaid : Prop := vaultNilUptoRow.holds Try.pinned (OpenSpec.upto vaultNilSpec)

/-- 'countermandlaw05.VaultTwice', WHERE WHAT IT READS IS OF BULK AT MOST 1048576: true; the input reads as it did. -/
def vaultTwiceUptoRow : OpenClaim := { program := "ytcncdfmnpmmikaa", sum := "2c637f70de9e93a18f079310221679e6908376ba03f791d58afa33b11dbff166", func := "countermand/countermandlaw05.VaultTwice", spec := "vaultTwice", unfollowed := true, recurses := true, apart := false, narrowed := true }
def VaultTwiceUptoSaid : Prop := vaultTwiceUptoRow.holds Try.pinned (OpenSpec.upto vaultTwiceSpec)

/-- 'countermandlaw14.SheetRenames', WHERE WHAT IT READS IS OF BULK AT MOST 1048576: true; the input reads as it did. -/
def sheetRenamesUptoRow : OpenClaim := { program := "ytcncdfmnpmmikaa", sum := "2c637f70de9e93a18f079310221679e6908376ba03f791d58afa33b11dbff166", func := "countermand/countermandlaw14.SheetRenames", spec := "sheetRenames", inPlace := ["slices.overlaps[countermand/draft.entry[countermand/file.File]]"], unfollowed := true, recurses := true, apart := false, narrowed := true }
def SheetRenamesUptoSaid : Prop := sheetRenamesUptoRow.holds Try.pinned (OpenSpec.upto sheetRenamesSpec)

/-- 'countermandlaw14.SheetCopies', WHERE WHAT IT READS IS OF BULK AT MOST 1048576: true; the input reads as it did. -/
def sheetCopiesUptoRow : OpenClaim := { program := "ytcncdfmnpmmikaa", sum := "2c637f70de9e93a18f079310221679e6908376ba03f791d58afa33b11dbff166", func := "countermand/countermandlaw14.SheetCopies", spec := "sheetCopies", inPlace := ["slices.overlaps[countermand/draft.entry[countermand/file.File]]", "internal/abi.NoEscape", "internal/bytealg.MakeNoZero"], unfollowed := true, recurses := true, apart := false, narrowed := true }
def SheetCopiesUptoSaid : Prop := sheetCopiesUptoRow.holds Try.pinned (OpenSpec.upto sheetCopiesSpec)

/-- 'countermandlaw14.SheetOver', WHERE WHAT IT READS IS OF BULK AT MOST 1048576: true; the input reads as it did. -/
def sheetOverUptoRow : OpenClaim := { program := "ytcncdfmnpmmikaa", sum := "2c637f70de9e93a18f079310221679e6908376ba03f791d58afa33b11dbff166", func := "countermand/countermandlaw14.SheetOver", spec := "sheetOver", inPlace := ["slices.overlaps[countermand/draft.entry[countermand/file.File]]", "internal/abi.NoEscape", "internal/bytealg.MakeNoZero"], unfollowed := true, recurses := true, apart := false, narrowed := true }
def SheetOverUptoSaid : Prop := sheetOverUptoRow.holds Try.pinned (OpenSpec.upto sheetOverSpec)

/-- 'countermandlaw14.SheetDoes', WHERE WHAT IT READS IS OF BULK AT MOST 1048576: true; the input reads as it did. -/
def sheetDoesUptoRow : OpenClaim := { program := "ytcncdfmnpmmikaa", sum := "2c637f70de9e93a18f079310221679e6908376ba03f791d58afa33b11dbff166", func := "countermand/countermandlaw14.SheetDoes", spec := "sheetDoes", inPlace := ["slices.overlaps[countermand/draft.entry[countermand/file.File]]", "internal/abi.NoEscape", "internal/bytealg.MakeNoZero"], unfollowed := true, recurses := true, apart := false, narrowed := true }
def SheetDoesUptoSaid : Prop := sheetDoesUptoRow.holds Try.pinned (OpenSpec.upto sheetDoesSpec)

end Rows
end Go.Proofs.Ytcncdfmnpmmikaa
