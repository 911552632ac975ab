/-
  No cell of these rows narrows 'for every input' (looked for: loops, veiled, ifaces, maps, wideKeys, modest, calm, conditions, laid).
  DERIVED. THE GIVEN ROWS OF THIS SEAT. 7 by the template 'for every input the law returns true; each argument reads behind the call as it read before'; 0 by the template 'total and deterministic' (their statements: YtmeaiancebgkoaaTotals.lean).
  GIVEN WITH THE SEED: the statements are not yours to turn. If you find one false, say at which input.
  Laid BY PROGRAM, IN A SANDBOX (cutbox-rows.mjs): the forced cells as the released guide's own fill.sh prints them over the translation 45cf3c286413caf4… (all of the seat's roots in one cut). By AI agents, Wed Nov 11 2026. No macro, syntax, notation, axiom, sorry.
-/
import Derived.Test.YtmeaiancebgkoaaChecked
import GoSem.Claim
import GoSem.ClaimJoined
import GoSem.ClaimMapViews
import Derived.JoinedTies
import Derived.KernelRfl
namespace Go.Proofs.Ytmeaiancebgkoaa
/- THE CELL 'sum', in the pinned program and in every row, IS THE sha256 OF THE DUMP (.gsa) THAT YtmeaiancebgkoaaProg.lean LOADS. Nothing in Lean hashes anything: it is a label: what it is worth is what the hold of that sum in a sandbox is worth. -/
noncomputable def Try.pinned : Pinned := { name := "ytmeaiancebgkoaa", sum := "45cf3c286413caf4f0d1d2fca8b27d4709e592d5c61c95bba27de4ce0e64a44e", checked := Try.checked }
namespace Rows
def none {H : Type} : Left H := { results := [], args := [] }

/-- 'sphragislaw10.RowsRight': WHATEVER THE INPUT: true; the input reads as it did. -/
def rowsRightSpec : ChangeSpec := { name := "rowsRight", fn := fun _ => fun
  | [d1, d2] => { results := [.lit (.bool true)], args := [d1, d2] }
  | _ => none }
def rowsRightRow : OpenClaim := { program := "ytmeaiancebgkoaa", sum := "45cf3c286413caf4f0d1d2fca8b27d4709e592d5c61c95bba27de4ce0e64a44e", func := "sphragis/sphragislaw10.RowsRight", spec := "rowsRight", inPlace := ["internal/abi.NoEscape", "internal/bytealg.MakeNoZero"], unfollowed := true, recurses := true, apart := false }
def RowsRightSaid : Prop := rowsRightRow.holds Try.pinned (OpenSpec.ofChange rowsRightSpec)

/-- ITS FALSE NEIGHBOUR: 'it returns false'. Refute it at one input. -/
def rowsRightWrong : ChangeSpec := { name := "rowsRight", fn := fun _ => fun
  | [d1, d2] => { results := [.lit (.bool false)], args := [d1, d2] }
  | _ => none }
def RowsRightWrongFalsely : Prop := rowsRightRow.holds Try.pinned (OpenSpec.ofChange rowsRightWrong)

/-- 'sphragislaw10.RowsBytes': WHATEVER THE INPUT: true; the input reads as it did. -/
def rowsBytesSpec : ChangeSpec := { name := "rowsBytes", fn := fun _ => fun
  | [d] => { results := [.lit (.bool true)], args := [d] }
  | _ => none }
def rowsBytesRow : OpenClaim := { program := "ytmeaiancebgkoaa", sum := "45cf3c286413caf4f0d1d2fca8b27d4709e592d5c61c95bba27de4ce0e64a44e", func := "sphragis/sphragislaw10.RowsBytes", spec := "rowsBytes", inPlace := ["internal/abi.NoEscape", "internal/bytealg.MakeNoZero"], unfollowed := true, recurses := true, apart := false }
def RowsBytesSaid : Prop := rowsBytesRow.holds Try.pinned (OpenSpec.ofChange rowsBytesSpec)

/-- ITS FALSE NEIGHBOUR: 'it returns false'. Refute it at one input. -/
def rowsBytesWrong : ChangeSpec := { name := "rowsBytes", fn := fun _ => fun
  | [d] => { results := [.lit (.bool false)], args := [d] }
  | _ => none }
def RowsBytesWrongFalsely : Prop := rowsBytesRow.holds Try.pinned (OpenSpec.ofChange rowsBytesWrong)

/-- 'sphragislaw10.RowsDecodes': WHATEVER THE INPUT: true; the input reads as it did. -/
def rowsDecodesSpec : ChangeSpec := { name := "rowsDecodes", fn := fun _ => fun
  | [d] => { results := [.lit (.bool true)], args := [d] }
  | _ => none }
def rowsDecodesRow : OpenClaim := { program := "ytmeaiancebgkoaa", sum := "45cf3c286413caf4f0d1d2fca8b27d4709e592d5c61c95bba27de4ce0e64a44e", func := "sphragis/sphragislaw10.RowsDecodes", spec := "rowsDecodes", inPlace := ["internal/abi.NoEscape", "internal/bytealg.MakeNoZero"], unfollowed := true, recurses := true, apart := false }
def RowsDecodesSaid : Prop := rowsDecodesRow.holds Try.pinned (OpenSpec.ofChange rowsDecodesSpec)

/-- ITS FALSE NEIGHBOUR: 'it returns false'. Refute it at one input. -/
def rowsDecodesWrong : ChangeSpec := { name := "rowsDecodes", fn := fun _ => fun
  | [d] => { results := [.lit (.bool false)], args := [d] }
  | _ => none }
def RowsDecodesWrongFalsely : Prop := rowsDecodesRow.holds Try.pinned (OpenSpec.ofChange rowsDecodesWrong)

/-- 'sphragislaw10.RowsBack': WHATEVER THE INPUT: true; the input reads as it did. -/
def rowsBackSpec : ChangeSpec := { name := "rowsBack", fn := fun _ => fun
  | [d] => { results := [.lit (.bool true)], args := [d] }
  | _ => none }
def rowsBackRow : OpenClaim := { program := "ytmeaiancebgkoaa", sum := "45cf3c286413caf4f0d1d2fca8b27d4709e592d5c61c95bba27de4ce0e64a44e", func := "sphragis/sphragislaw10.RowsBack", spec := "rowsBack", inPlace := ["internal/abi.NoEscape", "internal/bytealg.MakeNoZero"], unfollowed := true, recurses := true, apart := false }
def RowsBackSaid : Prop := rowsBackRow.holds Try.pinned (OpenSpec.ofChange rowsBackSpec)

/-- ITS FALSE NEIGHBOUR: 'it returns false'. Refute it at one input. -/
def rowsBackWrong : ChangeSpec := { name := "rowsBack", fn := fun _ => fun
  | [d] => { results := [.lit (.bool false)], args := [d] }
  | _ => none }
def RowsBackWrongFalsely : Prop := rowsBackRow.holds Try.pinned (OpenSpec.ofChange rowsBackWrong)

/-- 'sphragislaw10.RowsOne': WHATEVER THE INPUT: true; the input reads as it did. -/
def rowsOneSpec : ChangeSpec := { name := "rowsOne", fn := fun _ => fun
  | [d] => { results := [.lit (.bool true)], args := [d] }
  | _ => none }
def rowsOneRow : OpenClaim := { program := "ytmeaiancebgkoaa", sum := "45cf3c286413caf4f0d1d2fca8b27d4709e592d5c61c95bba27de4ce0e64a44e", func := "sphragis/sphragislaw10.RowsOne", spec := "rowsOne", inPlace := ["internal/abi.NoEscape", "internal/bytealg.MakeNoZero"], unfollowed := true, recurses := true, apart := false }
def RowsOneSaid : Prop := rowsOneRow.holds Try.pinned (OpenSpec.ofChange rowsOneSpec)

/-- ITS FALSE NEIGHBOUR: 'it returns false'. Refute it at one input. -/
def rowsOneWrong : ChangeSpec := { name := "rowsOne", fn := fun _ => fun
  | [d] => { results := [.lit (.bool false)], args := [d] }
  | _ => none }
def RowsOneWrongFalsely : Prop := rowsOneRow.holds Try.pinned (OpenSpec.ofChange rowsOneWrong)

/-- 'sphragislaw10.RowsApart': WHATEVER THE INPUT: true; the input reads as it did. -/
def rowsApartSpec : ChangeSpec := { name := "rowsApart", fn := fun _ => fun
  | [d1, d2] => { results := [.lit (.bool true)], args := [d1, d2] }
  | _ => none }
def rowsApartRow : OpenClaim := { program := "ytmeaiancebgkoaa", sum := "45cf3c286413caf4f0d1d2fca8b27d4709e592d5c61c95bba27de4ce0e64a44e", func := "sphragis/sphragislaw10.RowsApart", spec := "rowsApart", inPlace := ["internal/abi.NoEscape", "internal/bytealg.MakeNoZero"], unfollowed := true, recurses := true, apart := false }
def RowsApartSaid : Prop := rowsApartRow.holds Try.pinned (OpenSpec.ofChange rowsApartSpec)

/-- ITS FALSE NEIGHBOUR: 'it returns false'. Refute it at one input. -/
def rowsApartWrong : ChangeSpec := { name := "rowsApart", fn := fun _ => fun
  | [d1, d2] => { results := [.lit (.bool false)], args := [d1, d2] }
  | _ => none }
def RowsApartWrongFalsely : Prop := rowsApartRow.holds Try.pinned (OpenSpec.ofChange rowsApartWrong)

/-- 'sphragislaw10.RowsEnds': WHATEVER THE INPUT: true; the input reads as it did. -/
def rowsEndsSpec : ChangeSpec := { name := "rowsEnds", fn := fun _ => fun
  | [d1, d2, d3] => { results := [.lit (.bool true)], args := [d1, d2, d3] }
  | _ => none }
def rowsEndsRow : OpenClaim := { program := "ytmeaiancebgkoaa", sum := "45cf3c286413caf4f0d1d2fca8b27d4709e592d5c61c95bba27de4ce0e64a44e", func := "sphragis/sphragislaw10.RowsEnds", spec := "rowsEnds", inPlace := ["internal/abi.NoEscape", "internal/bytealg.MakeNoZero"], unfollowed := true, recurses := true, apart := false }
def RowsEndsSaid : Prop := rowsEndsRow.holds Try.pinned (OpenSpec.ofChange rowsEndsSpec)

/-- ITS FALSE NEIGHBOUR: 'it returns false'. Refute it at one input. -/
def rowsEndsWrong : ChangeSpec := { name := "rowsEnds", fn := fun _ => fun
  | [d1, d2, d3] => { results := [.lit (.bool false)], args := [d1, d2, d3] }
  | _ => none }
def RowsEndsWrongFalsely : Prop := rowsEndsRow.holds Try.pinned (OpenSpec.ofChange rowsEndsWrong)

/- THE SECOND FORM. 'bulk': how many values and letters a reading holds, each counted each time it is reached (what is shared counts as often as it is met; a slice's spare places count too). A statement '..UptoSaid' is the law's where the arguments, and the package variables that the reading takes, are together of bulk at most 1048576: NARROWER than '..Said'. Prove '..Said' where nothing that the law and all that it calls make is longer than what came in: it says more and counts as full. Else prove '..UptoSaid'. A law counts once. -/
mutual
def uptoBulk {H : Type} : DataW H → Nat
  | .lit (.string bytes) => bytes.length + 1
  | .lit _ => 1
  | .nil => 1
  | .ptr d => uptoBulk d + 1
  | .slice elems spare => uptoBulkAll elems + uptoBulkAll spare + 1
  | .agg parts => uptoBulkAll parts + 1
  | .iface _ d => uptoBulk d + 1
  | .map entries => uptoBulkEntries entries + 1
  | .held _ => 1
def uptoBulkAll {H : Type} : List (DataW H) → Nat
  | [] => 0
  | d :: r => uptoBulk d + uptoBulkAll r
def uptoBulkEntries {H : Type} : List (Lit × DataW H) → Nat
  | [] => 0
  | x :: r => uptoBulkEntry x + uptoBulkEntries r
def uptoBulkEntry {H : Type} : Lit × DataW H → Nat
  | (.string bytes, d) => bytes.length + uptoBulk d + 1
  | (_, d) => uptoBulk d + 1
 end
def uptoSmall : (H : Type) → List (DataW H) → Bool := fun _ ds => decide (uptoBulkAll ds ≤ 1048576)
def OpenSpec.upto (s : _root_.Go.ChangeSpec) : _root_.Go.OpenSpec := { _root_.Go.OpenSpec.ofChange s with cond := some uptoSmall }

/-- 'sphragislaw10.RowsRight', WHERE WHAT IT READS IS OF BULK AT MOST 1048576: true; the input reads as it did. -/
def rowsRightUptoRow : OpenClaim := { program := "ytmeaiancebgkoaa", sum := "45cf3c286413caf4f0d1d2fca8b27d4709e592d5c61c95bba27de4ce0e64a44e", func := "sphragis/sphragislaw10.RowsRight", spec := "rowsRight", inPlace := ["internal/abi.NoEscape", "internal/bytealg.MakeNoZero"], unfollowed := true, recurses := true, apart := false, narrowed := true }
def RowsRightUptoSaid : Prop := rowsRightUptoRow.holds Try.pinned (OpenSpec.upto rowsRightSpec)

/-- 'sphragislaw10.RowsBytes', WHERE WHAT IT READS IS OF BULK AT MOST 1048576: true; the input reads as it did. -/
def rowsBytesUptoRow : OpenClaim := { program := "ytmeaiancebgkoaa", sum := "45cf3c286413caf4f0d1d2fca8b27d4709e592d5c61c95bba27de4ce0e64a44e", func := "sphragis/sphragislaw10.RowsBytes", spec := "rowsBytes", inPlace := ["internal/abi.NoEscape", "internal/bytealg.MakeNoZero"], unfollowed := true, recurses := true, apart := false, narrowed := true }
def RowsBytesUptoSaid : Prop := rowsBytesUptoRow.holds Try.pinned (OpenSpec.upto rowsBytesSpec)

/-- 'sphragislaw10.RowsDecodes', WHERE WHAT IT READS IS OF BULK AT MOST 1048576: true; the input reads as it did. -/
def rowsDecodesUptoRow : OpenClaim := { program := "ytmeaiancebgkoaa", sum := "45cf3c286413caf4f0d1d2fca8b27d4709e592d5c61c95bba27de4ce0e64a44e", func := "sphragis/sphragislaw10.RowsDecodes", spec := "rowsDecodes", inPlace := ["internal/abi.NoEscape", "internal/bytealg.MakeNoZero"], unfollowed := true, recurses := true, apart := false, narrowed := true }
def RowsDecodesUptoSaid : Prop := rowsDecodesUptoRow.holds Try.pinned (OpenSpec.upto rowsDecodesSpec)

/-- 'sphragislaw10.RowsBack', WHERE WHAT IT READS IS OF BULK AT MOST 1048576: true; the input reads as it did. -/
def rowsBackUptoRow : OpenClaim := { program := "ytmeaiancebgkoaa", sum := "45cf3c286413caf4f0d1d2fca8b27d4709e592d5c61c95bba27de4ce0e64a44e", func := "sphragis/sphragislaw10.RowsBack", spec := "rowsBack", inPlace := ["internal/abi.NoEscape", "internal/bytealg.MakeNoZero"], unfollowed := true, recurses := true, apart := false, narrowed := true }
def RowsBackUptoSaid : Prop := rowsBackUptoRow.holds Try.pinned (OpenSpec.upto rowsBackSpec)

/-- 'sphragislaw10.RowsOne', WHERE WHAT IT READS IS OF BULK AT MOST 1048576: true; the input reads as it did. -/
def rowsOneUptoRow : OpenClaim := { program := "ytmeaiancebgkoaa", sum := "45cf3c286413caf4f0d1d2fca8b27d4709e592d5c61c95bba27de4ce0e64a44e", func := "sphragis/sphragislaw10.RowsOne", spec := "rowsOne", inPlace := ["internal/abi.NoEscape", "internal/bytealg.MakeNoZero"], unfollowed := true, recurses := true, apart := false, narrowed := true }
def RowsOneUptoSaid : Prop := rowsOneUptoRow.holds Try.pinned (OpenSpec.upto rowsOneSpec)

/-- 'sphragislaw10.RowsApart', WHERE WHAT IT READS IS OF BULK AT MOST 1048576: true; the input reads as it did. -/
def rowsApartUptoRow : OpenClaim := { program := "ytmeaiancebgkoaa", sum := "45cf3c286413caf4f0d1d2fca8b27d4709e592d5c61c95bba27de4ce0e64a44e", func := "sphragis/sphragislaw10.RowsApart", spec := "rowsApart", inPlace := ["internal/abi.NoEscape", "internal/bytealg.MakeNoZero"], unfollowed := true, recurses := true, apart := false, narrowed := true }
def RowsApartUptoSaid : Prop := rowsApartUptoRow.holds Try.pinned (OpenSpec.upto rowsApartSpec)

/-- 'sphragislaw10.RowsEnds', WHERE WHAT IT READS IS OF BULK AT MOST 1048576: true; the input reads as it did. -/
def rowsEndsUptoRow : OpenClaim := { program := "ytmeaiancebgkoaa", sum := "45cf3c286413caf4f0d1d2fca8b27d4709e592d5c61c95bba27de4ce0e64a44e", func := "sphragis/sphragislaw10.RowsEnds", spec := "rowsEnds", inPlace := ["internal/abi.NoEscape", "internal/bytealg.MakeNoZero"], unfollowed := true, recurses := true, apart := false, narrowed := true }
def RowsEndsUptoSaid : Prop := rowsEndsUptoRow.holds Try.pinned (OpenSpec.upto rowsEndsSpec)

end Rows
end Go.Proofs.Ytmeaiancebgkoaa
