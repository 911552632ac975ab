/-
  No cell of these rows narrows 'for every input' (looked for: loops, veiled, ifaces, maps, wideKeys, modest, calm, conditions, laid).
  DERIVED. THE GIVEN ROWS OF THIS SEAT. 7 by the template 'for every input the law returns true; each argument reads behind the call as it read before'; 0 by the template 'total and deterministic' (their statements: YtfbfpjgnplhodaaTotals.lean).
  GIVEN WITH THE SEED: the statements are not yours to turn. If you find one false, say at which input.
  Laid BY PROGRAM, IN A SANDBOX (cutbox-rows.mjs): the forced cells as the released guide's own fill.sh prints them over the translation a5f99110e921fb23… (all of the seat's roots in one cut). By AI agents, Wed Nov 11 2026. No macro, syntax, notation, axiom, sorry.
-/
import Derived.Test.YtfbfpjgnplhodaaChecked
import GoSem.Claim
import GoSem.ClaimJoined
import GoSem.ClaimMapViews
import Derived.JoinedTies
import Derived.KernelRfl
namespace Go.Proofs.Ytfbfpjgnplhodaa
/- THE CELL 'sum', in the pinned program and in every row, IS THE sha256 OF THE DUMP (.gsa) THAT YtfbfpjgnplhodaaProg.lean LOADS. Nothing in Lean hashes anything: it is a label: what it is worth is what the hold of that sum in a sandbox is worth. -/
noncomputable def Try.pinned : Pinned := { name := "ytfbfpjgnplhodaa", sum := "a5f99110e921fb2315a931ff34fbe0073174fb75e4394bf7a0aa5c117f85d6d6", checked := Try.checked }
namespace Rows
def none {H : Type} : Left H := { results := [], args := [] }

/-- 'sphragislaw15.RootBytes': WHATEVER THE INPUT: true; the input reads as it did. -/
def rootBytesSpec : ChangeSpec := { name := "rootBytes", fn := fun _ => fun
  | [d] => { results := [.lit (.bool true)], args := [d] }
  | _ => none }
def rootBytesRow : OpenClaim := { program := "ytfbfpjgnplhodaa", sum := "a5f99110e921fb2315a931ff34fbe0073174fb75e4394bf7a0aa5c117f85d6d6", func := "sphragis/sphragislaw15.RootBytes", spec := "rootBytes", inPlace := ["internal/abi.NoEscape", "internal/bytealg.MakeNoZero"], apart := false }
def RootBytesSaid : Prop := rootBytesRow.holds Try.pinned (OpenSpec.ofChange rootBytesSpec)

/-- ITS FALSE NEIGHBOUR: 'it returns false'. Refute it at one input. -/
def rootBytesWrong : ChangeSpec := { name := "rootBytes", fn := fun _ => fun
  | [d] => { results := [.lit (.bool false)], args := [d] }
  | _ => none }
def RootBytesWrongFalsely : Prop := rootBytesRow.holds Try.pinned (OpenSpec.ofChange rootBytesWrong)

/-- 'sphragislaw15.RootNexts': WHATEVER THE INPUT: true; the input reads as it did. -/
def rootNextsSpec : ChangeSpec := { name := "rootNexts", fn := fun _ => fun
  | [d1, d2, d3, d4] => { results := [.lit (.bool true)], args := [d1, d2, d3, d4] }
  | _ => none }
def rootNextsRow : OpenClaim := { program := "ytfbfpjgnplhodaa", sum := "a5f99110e921fb2315a931ff34fbe0073174fb75e4394bf7a0aa5c117f85d6d6", func := "sphragis/sphragislaw15.RootNexts", spec := "rootNexts", inPlace := ["internal/abi.NoEscape", "internal/bytealg.MakeNoZero"], apart := false }
def RootNextsSaid : Prop := rootNextsRow.holds Try.pinned (OpenSpec.ofChange rootNextsSpec)

/-- ITS FALSE NEIGHBOUR: 'it returns false'. Refute it at one input. -/
def rootNextsWrong : ChangeSpec := { name := "rootNexts", fn := fun _ => fun
  | [d1, d2, d3, d4] => { results := [.lit (.bool false)], args := [d1, d2, d3, d4] }
  | _ => none }
def RootNextsWrongFalsely : Prop := rootNextsRow.holds Try.pinned (OpenSpec.ofChange rootNextsWrong)

/-- 'sphragislaw15.RootTurns': WHATEVER THE INPUT: true; the input reads as it did. -/
def rootTurnsSpec : ChangeSpec := { name := "rootTurns", fn := fun _ => fun
  | [d1, d2, d3, d4] => { results := [.lit (.bool true)], args := [d1, d2, d3, d4] }
  | _ => none }
def rootTurnsRow : OpenClaim := { program := "ytfbfpjgnplhodaa", sum := "a5f99110e921fb2315a931ff34fbe0073174fb75e4394bf7a0aa5c117f85d6d6", func := "sphragis/sphragislaw15.RootTurns", spec := "rootTurns", inPlace := ["internal/abi.NoEscape", "internal/bytealg.MakeNoZero"], apart := false }
def RootTurnsSaid : Prop := rootTurnsRow.holds Try.pinned (OpenSpec.ofChange rootTurnsSpec)

/-- ITS FALSE NEIGHBOUR: 'it returns false'. Refute it at one input. -/
def rootTurnsWrong : ChangeSpec := { name := "rootTurns", fn := fun _ => fun
  | [d1, d2, d3, d4] => { results := [.lit (.bool false)], args := [d1, d2, d3, d4] }
  | _ => none }
def RootTurnsWrongFalsely : Prop := rootTurnsRow.holds Try.pinned (OpenSpec.ofChange rootTurnsWrong)

/-- 'sphragislaw15.RootApart': WHATEVER THE INPUT: true; the input reads as it did. -/
def rootApartSpec : ChangeSpec := { name := "rootApart", fn := fun _ => fun
  | [d1, d2] => { results := [.lit (.bool true)], args := [d1, d2] }
  | _ => none }
def rootApartRow : OpenClaim := { program := "ytfbfpjgnplhodaa", sum := "a5f99110e921fb2315a931ff34fbe0073174fb75e4394bf7a0aa5c117f85d6d6", func := "sphragis/sphragislaw15.RootApart", spec := "rootApart", inPlace := ["internal/abi.NoEscape", "internal/bytealg.MakeNoZero"], apart := false }
def RootApartSaid : Prop := rootApartRow.holds Try.pinned (OpenSpec.ofChange rootApartSpec)

/-- ITS FALSE NEIGHBOUR: 'it returns false'. Refute it at one input. -/
def rootApartWrong : ChangeSpec := { name := "rootApart", fn := fun _ => fun
  | [d1, d2] => { results := [.lit (.bool false)], args := [d1, d2] }
  | _ => none }
def RootApartWrongFalsely : Prop := rootApartRow.holds Try.pinned (OpenSpec.ofChange rootApartWrong)

/-- 'sphragislaw15.RootDecodes': WHATEVER THE INPUT: true; the input reads as it did. -/
def rootDecodesSpec : ChangeSpec := { name := "rootDecodes", fn := fun _ => fun
  | [d] => { results := [.lit (.bool true)], args := [d] }
  | _ => none }
def rootDecodesRow : OpenClaim := { program := "ytfbfpjgnplhodaa", sum := "a5f99110e921fb2315a931ff34fbe0073174fb75e4394bf7a0aa5c117f85d6d6", func := "sphragis/sphragislaw15.RootDecodes", spec := "rootDecodes", inPlace := ["internal/abi.NoEscape", "internal/bytealg.MakeNoZero"], unfollowed := true, recurses := true, apart := false }
def RootDecodesSaid : Prop := rootDecodesRow.holds Try.pinned (OpenSpec.ofChange rootDecodesSpec)

/-- ITS FALSE NEIGHBOUR: 'it returns false'. Refute it at one input. -/
def rootDecodesWrong : ChangeSpec := { name := "rootDecodes", fn := fun _ => fun
  | [d] => { results := [.lit (.bool false)], args := [d] }
  | _ => none }
def RootDecodesWrongFalsely : Prop := rootDecodesRow.holds Try.pinned (OpenSpec.ofChange rootDecodesWrong)

/-- 'sphragislaw15.RootBack': WHATEVER THE INPUT: true; the input reads as it did. -/
def rootBackSpec : ChangeSpec := { name := "rootBack", fn := fun _ => fun
  | [d1, d2] => { results := [.lit (.bool true)], args := [d1, d2] }
  | _ => none }
def rootBackRow : OpenClaim := { program := "ytfbfpjgnplhodaa", sum := "a5f99110e921fb2315a931ff34fbe0073174fb75e4394bf7a0aa5c117f85d6d6", func := "sphragis/sphragislaw15.RootBack", spec := "rootBack", inPlace := ["internal/abi.NoEscape", "internal/bytealg.MakeNoZero"], unfollowed := true, recurses := true, apart := false }
def RootBackSaid : Prop := rootBackRow.holds Try.pinned (OpenSpec.ofChange rootBackSpec)

/-- ITS FALSE NEIGHBOUR: 'it returns false'. Refute it at one input. -/
def rootBackWrong : ChangeSpec := { name := "rootBack", fn := fun _ => fun
  | [d1, d2] => { results := [.lit (.bool false)], args := [d1, d2] }
  | _ => none }
def RootBackWrongFalsely : Prop := rootBackRow.holds Try.pinned (OpenSpec.ofChange rootBackWrong)

/-- 'sphragislaw15.RootEnds': WHATEVER THE INPUT: true; the input reads as it did. -/
def rootEndsSpec : ChangeSpec := { name := "rootEnds", fn := fun _ => fun
  | [d1, d2, d3] => { results := [.lit (.bool true)], args := [d1, d2, d3] }
  | _ => none }
def rootEndsRow : OpenClaim := { program := "ytfbfpjgnplhodaa", sum := "a5f99110e921fb2315a931ff34fbe0073174fb75e4394bf7a0aa5c117f85d6d6", func := "sphragis/sphragislaw15.RootEnds", spec := "rootEnds", inPlace := ["internal/abi.NoEscape", "internal/bytealg.MakeNoZero"], unfollowed := true, recurses := true, apart := false }
def RootEndsSaid : Prop := rootEndsRow.holds Try.pinned (OpenSpec.ofChange rootEndsSpec)

/-- ITS FALSE NEIGHBOUR: 'it returns false'. Refute it at one input. -/
def rootEndsWrong : ChangeSpec := { name := "rootEnds", fn := fun _ => fun
  | [d1, d2, d3] => { results := [.lit (.bool false)], args := [d1, d2, d3] }
  | _ => none }
def RootEndsWrongFalsely : Prop := rootEndsRow.holds Try.pinned (OpenSpec.ofChange rootEndsWrong)

/- THE SECOND FORM. 'bulk': how many values and letters a reading holds, each counted each time it is reached (what is shared counts as often as it is met; a slice's spare places count too). A statement '..UptoSaid' is the law's where the arguments, and the package variables that the reading takes, are together of bulk at most 1048576: NARROWER than '..Said'. Prove '..Said' where nothing that the law and all that it calls make is longer than what came in: it says more and counts as full. Else prove '..UptoSaid'. A law counts once. -/
mutual
def uptoBulk {H : Type} : DataW H → Nat
  | .lit (.string bytes) => bytes.length + 1
  | .lit _ => 1
  | .nil => 1
  | .ptr d => uptoBulk d + 1
  | .slice elems spare => uptoBulkAll elems + uptoBulkAll spare + 1
  | .agg parts => uptoBulkAll parts + 1
  | .iface _ d => uptoBulk d + 1
  | .map entries => uptoBulkEntries entries + 1
  | .held _ => 1
def uptoBulkAll {H : Type} : List (DataW H) → Nat
  | [] => 0
  | d :: r => uptoBulk d + uptoBulkAll r
def uptoBulkEntries {H : Type} : List (Lit × DataW H) → Nat
  | [] => 0
  | x :: r => uptoBulkEntry x + uptoBulkEntries r
def uptoBulkEntry {H : Type} : Lit × DataW H → Nat
  | (.string bytes, d) => bytes.length + uptoBulk d + 1
  | (_, d) => uptoBulk d + 1
 end
def uptoSmall : (H : Type) → List (DataW H) → Bool := fun _ ds => decide (uptoBulkAll ds ≤ 1048576)
def OpenSpec.upto (s : _root_.Go.ChangeSpec) : _root_.Go.OpenSpec := { _root_.Go.OpenSpec.ofChange s with cond := some uptoSmall }

/-- 'sphragislaw15.RootBytes', WHERE WHAT IT READS IS OF BULK AT MOST 1048576: true; the input reads as it did. -/
def rootBytesUptoRow : OpenClaim := { program := "ytfbfpjgnplhodaa", sum := "a5f99110e921fb2315a931ff34fbe0073174fb75e4394bf7a0aa5c117f85d6d6", func := "sphragis/sphragislaw15.RootBytes", spec := "rootBytes", inPlace := ["internal/abi.NoEscape", "internal/bytealg.MakeNoZero"], apart := false, narrowed := true }
def RootBytesUptoSaid : Prop := rootBytesUptoRow.holds Try.pinned (OpenSpec.upto rootBytesSpec)

/-- 'sphragislaw15.RootNexts', WHERE WHAT IT READS IS OF BULK AT MOST 1048576: true; the input reads as it did. -/
def rootNextsUptoRow : OpenClaim := { program := "ytfbfpjgnplhodaa", sum := "a5f99110e921fb2315a931ff34fbe0073174fb75e4394bf7a0aa5c117f85d6d6", func := "sphragis/sphragislaw15.RootNexts", spec := "rootNexts", inPlace := ["internal/abi.NoEscape", "internal/bytealg.MakeNoZero"], apart := false, narrowed := true }
def RootNextsUptoSaid : Prop := rootNextsUptoRow.holds Try.pinned (OpenSpec.upto rootNextsSpec)

/-- 'sphragislaw15.RootTurns', WHERE WHAT IT READS IS OF BULK AT MOST 1048576: true; the input reads as it did. -/
def rootTurnsUptoRow : OpenClaim := { program := "ytfbfpjgnplhodaa", sum := "a5f99110e921fb2315a931ff34fbe0073174fb75e4394bf7a0aa5c117f85d6d6", func := "sphragis/sphragislaw15.RootTurns", spec := "rootTurns", inPlace := ["internal/abi.NoEscape", "internal/bytealg.MakeNoZero"], apart := false, narrowed := true }
def RootTurnsUptoSaid : Prop := rootTurnsUptoRow.holds Try.pinned (OpenSpec.upto rootTurnsSpec)

/-- 'sphragislaw15.RootApart', WHERE WHAT IT READS IS OF BULK AT MOST 1048576: true; the input reads as it did. -/
def rootApartUptoRow : OpenClaim := { program := "ytfbfpjgnplhodaa", sum := "a5f99110e921fb2315a931ff34fbe0073174fb75e4394bf7a0aa5c117f85d6d6", func := "sphragis/sphragislaw15.RootApart", spec := "rootApart", inPlace := ["internal/abi.NoEscape", "internal/bytealg.MakeNoZero"], apart := false, narrowed := true }
def RootApartUptoSaid : Prop := rootApartUptoRow.holds Try.pinned (OpenSpec.upto rootApartSpec)

/-- 'sphragislaw15.RootDecodes', WHERE WHAT IT READS IS OF BULK AT MOST 1048576: true; the input reads as it did. -/
def rootDecodesUptoRow : OpenClaim := { program := "ytfbfpjgnplhodaa", sum := "a5f99110e921fb2315a931ff34fbe0073174fb75e4394bf7a0aa5c117f85d6d6", func := "sphragis/sphragislaw15.RootDecodes", spec := "rootDecodes", inPlace := ["internal/abi.NoEscape", "internal/bytealg.MakeNoZero"], unfollowed := true, recurses := true, apart := false, narrowed := true }
def RootDecodesUptoSaid : Prop := rootDecodesUptoRow.holds Try.pinned (OpenSpec.upto rootDecodesSpec)

/-- 'sphragislaw15.RootBack', WHERE WHAT IT READS IS OF BULK AT MOST 1048576: true; the input reads as it did. -/
def rootBackUptoRow : OpenClaim := { program := "ytfbfpjgnplhodaa", sum := "a5f99110e921fb2315a931ff34fbe0073174fb75e4394bf7a0aa5c117f85d6d6", func := "sphragis/sphragislaw15.RootBack", spec := "rootBack", inPlace := ["internal/abi.NoEscape", "internal/bytealg.MakeNoZero"], unfollowed := true, recurses := true, apart := false, narrowed := true }
def RootBackUptoSaid : Prop := rootBackUptoRow.holds Try.pinned (OpenSpec.upto rootBackSpec)

/-- 'sphragislaw15.RootEnds', WHERE WHAT IT READS IS OF BULK AT MOST 1048576: true; the input reads as it did. -/
def rootEndsUptoRow : OpenClaim := { program := "ytfbfpjgnplhodaa", sum := "a5f99110e921fb2315a931ff34fbe0073174fb75e4394bf7a0aa5c117f85d6d6", func := "sphragis/sphragislaw15.RootEnds", spec := "rootEnds", inPlace := ["internal/abi.NoEscape", "internal/bytealg.MakeNoZero"], unfollowed := true, recurses := true, apart := false, narrowed := true }
def RootEndsUptoSaid : Prop := rootEndsUptoRow.holds Try.pinned (OpenSpec.upto rootEndsSpec)

end Rows
end Go.Proofs.Ytfbfpjgnplhodaa
