/-
  No cell of these rows narrows 'for every input' (looked for: loops, veiled, ifaces, maps, wideKeys, modest, calm, conditions, laid).
  DERIVED. THE GIVEN ROWS OF THIS SEAT. 7 by the template 'for every input the law returns true; each argument reads behind the call as it read before'; 0 by the template 'total and deterministic' (their statements: YtnadbgcllejleaaTotals.lean).
  GIVEN WITH THE SEED: the statements are not yours to turn. If you find one false, say at which input.
  Laid BY PROGRAM, IN A SANDBOX (cutbox-rows.mjs): the forced cells as the released guide's own fill.sh prints them over the translation aa272a20cf04e1eb… (all of the seat's roots in one cut). By AI agents, Wed Nov 11 2026. No macro, syntax, notation, axiom, sorry.
-/
import Derived.Test.YtnadbgcllejleaaChecked
import GoSem.Claim
import GoSem.ClaimJoined
import GoSem.ClaimMapViews
import Derived.JoinedTies
import Derived.KernelRfl
namespace Go.Proofs.Ytnadbgcllejleaa
/- THE CELL 'sum', in the pinned program and in every row, IS THE sha256 OF THE DUMP (.gsa) THAT YtnadbgcllejleaaProg.lean LOADS. Nothing in Lean hashes anything: it is a label: what it is worth is what the hold of that sum in a sandbox is worth. -/
noncomputable def Try.pinned : Pinned := { name := "ytnadbgcllejleaa", sum := "aa272a20cf04e1eb605cf0aff9b0611bea1e1362da76dfd22df09489e836cc7c", checked := Try.checked }
namespace Rows
def none {H : Type} : Left H := { results := [], args := [] }

/-- 'sphragislaw05.PadPads': WHATEVER THE INPUT: true; the input reads as it did. -/
def padPadsSpec : ChangeSpec := { name := "padPads", fn := fun _ => fun
  | [d] => { results := [.lit (.bool true)], args := [d] }
  | _ => none }
def padPadsRow : OpenClaim := { program := "ytnadbgcllejleaa", sum := "aa272a20cf04e1eb605cf0aff9b0611bea1e1362da76dfd22df09489e836cc7c", func := "sphragis/sphragislaw05.PadPads", spec := "padPads", inPlace := ["internal/abi.NoEscape", "internal/bytealg.MakeNoZero"], apart := false }
def PadPadsSaid : Prop := padPadsRow.holds Try.pinned (OpenSpec.ofChange padPadsSpec)

/-- ITS FALSE NEIGHBOUR: 'it returns false'. Refute it at one input. -/
def padPadsWrong : ChangeSpec := { name := "padPads", fn := fun _ => fun
  | [d] => { results := [.lit (.bool false)], args := [d] }
  | _ => none }
def PadPadsWrongFalsely : Prop := padPadsRow.holds Try.pinned (OpenSpec.ofChange padPadsWrong)

/-- 'sphragislaw05.PadUnpads': WHATEVER THE INPUT: true; the input reads as it did. -/
def padUnpadsSpec : ChangeSpec := { name := "padUnpads", fn := fun _ => fun
  | [d] => { results := [.lit (.bool true)], args := [d] }
  | _ => none }
def padUnpadsRow : OpenClaim := { program := "ytnadbgcllejleaa", sum := "aa272a20cf04e1eb605cf0aff9b0611bea1e1362da76dfd22df09489e836cc7c", func := "sphragis/sphragislaw05.PadUnpads", spec := "padUnpads", inPlace := ["internal/abi.NoEscape", "internal/bytealg.MakeNoZero"], apart := false }
def PadUnpadsSaid : Prop := padUnpadsRow.holds Try.pinned (OpenSpec.ofChange padUnpadsSpec)

/-- ITS FALSE NEIGHBOUR: 'it returns false'. Refute it at one input. -/
def padUnpadsWrong : ChangeSpec := { name := "padUnpads", fn := fun _ => fun
  | [d] => { results := [.lit (.bool false)], args := [d] }
  | _ => none }
def PadUnpadsWrongFalsely : Prop := padUnpadsRow.holds Try.pinned (OpenSpec.ofChange padUnpadsWrong)

/-- 'sphragislaw05.PadBack': WHATEVER THE INPUT: true; the input reads as it did. -/
def padBackSpec : ChangeSpec := { name := "padBack", fn := fun _ => fun
  | [d1, d2] => { results := [.lit (.bool true)], args := [d1, d2] }
  | _ => none }
def padBackRow : OpenClaim := { program := "ytnadbgcllejleaa", sum := "aa272a20cf04e1eb605cf0aff9b0611bea1e1362da76dfd22df09489e836cc7c", func := "sphragis/sphragislaw05.PadBack", spec := "padBack", inPlace := ["internal/abi.NoEscape", "internal/bytealg.MakeNoZero"], apart := false }
def PadBackSaid : Prop := padBackRow.holds Try.pinned (OpenSpec.ofChange padBackSpec)

/-- ITS FALSE NEIGHBOUR: 'it returns false'. Refute it at one input. -/
def padBackWrong : ChangeSpec := { name := "padBack", fn := fun _ => fun
  | [d1, d2] => { results := [.lit (.bool false)], args := [d1, d2] }
  | _ => none }
def PadBackWrongFalsely : Prop := padBackRow.holds Try.pinned (OpenSpec.ofChange padBackWrong)

/-- 'sphragislaw05.PadTurns': WHATEVER THE INPUT: true; the input reads as it did. -/
def padTurnsSpec : ChangeSpec := { name := "padTurns", fn := fun _ => fun
  | [d1, d2, d3] => { results := [.lit (.bool true)], args := [d1, d2, d3] }
  | _ => none }
def padTurnsRow : OpenClaim := { program := "ytnadbgcllejleaa", sum := "aa272a20cf04e1eb605cf0aff9b0611bea1e1362da76dfd22df09489e836cc7c", func := "sphragis/sphragislaw05.PadTurns", spec := "padTurns", inPlace := ["internal/abi.NoEscape", "internal/bytealg.MakeNoZero"], apart := false }
def PadTurnsSaid : Prop := padTurnsRow.holds Try.pinned (OpenSpec.ofChange padTurnsSpec)

/-- ITS FALSE NEIGHBOUR: 'it returns false'. Refute it at one input. -/
def padTurnsWrong : ChangeSpec := { name := "padTurns", fn := fun _ => fun
  | [d1, d2, d3] => { results := [.lit (.bool false)], args := [d1, d2, d3] }
  | _ => none }
def PadTurnsWrongFalsely : Prop := padTurnsRow.holds Try.pinned (OpenSpec.ofChange padTurnsWrong)

/-- 'sphragislaw05.PadSizes': WHATEVER THE INPUT: true; the input reads as it did. -/
def padSizesSpec : ChangeSpec := { name := "padSizes", fn := fun _ => fun
  | [d1, d2, d3] => { results := [.lit (.bool true)], args := [d1, d2, d3] }
  | _ => none }
def padSizesRow : OpenClaim := { program := "ytnadbgcllejleaa", sum := "aa272a20cf04e1eb605cf0aff9b0611bea1e1362da76dfd22df09489e836cc7c", func := "sphragis/sphragislaw05.PadSizes", spec := "padSizes", inPlace := ["internal/abi.NoEscape", "internal/bytealg.MakeNoZero"], apart := false }
def PadSizesSaid : Prop := padSizesRow.holds Try.pinned (OpenSpec.ofChange padSizesSpec)

/-- ITS FALSE NEIGHBOUR: 'it returns false'. Refute it at one input. -/
def padSizesWrong : ChangeSpec := { name := "padSizes", fn := fun _ => fun
  | [d1, d2, d3] => { results := [.lit (.bool false)], args := [d1, d2, d3] }
  | _ => none }
def PadSizesWrongFalsely : Prop := padSizesRow.holds Try.pinned (OpenSpec.ofChange padSizesWrong)

/-- 'sphragislaw05.PadCuts': WHATEVER THE INPUT: true; the input reads as it did. -/
def padCutsSpec : ChangeSpec := { name := "padCuts", fn := fun _ => fun
  | [d] => { results := [.lit (.bool true)], args := [d] }
  | _ => none }
def padCutsRow : OpenClaim := { program := "ytnadbgcllejleaa", sum := "aa272a20cf04e1eb605cf0aff9b0611bea1e1362da76dfd22df09489e836cc7c", func := "sphragis/sphragislaw05.PadCuts", spec := "padCuts", inPlace := ["internal/abi.NoEscape", "internal/bytealg.MakeNoZero"], unfollowed := true, recurses := true, apart := false }
def PadCutsSaid : Prop := padCutsRow.holds Try.pinned (OpenSpec.ofChange padCutsSpec)

/-- ITS FALSE NEIGHBOUR: 'it returns false'. Refute it at one input. -/
def padCutsWrong : ChangeSpec := { name := "padCuts", fn := fun _ => fun
  | [d] => { results := [.lit (.bool false)], args := [d] }
  | _ => none }
def PadCutsWrongFalsely : Prop := padCutsRow.holds Try.pinned (OpenSpec.ofChange padCutsWrong)

/-- 'sphragislaw05.PadWhole': WHATEVER THE INPUT: true; the input reads as it did. -/
def padWholeSpec : ChangeSpec := { name := "padWhole", fn := fun _ => fun
  | [d] => { results := [.lit (.bool true)], args := [d] }
  | _ => none }
def padWholeRow : OpenClaim := { program := "ytnadbgcllejleaa", sum := "aa272a20cf04e1eb605cf0aff9b0611bea1e1362da76dfd22df09489e836cc7c", func := "sphragis/sphragislaw05.PadWhole", spec := "padWhole", inPlace := ["internal/abi.NoEscape", "internal/bytealg.MakeNoZero"], unfollowed := true, recurses := true, apart := false }
def PadWholeSaid : Prop := padWholeRow.holds Try.pinned (OpenSpec.ofChange padWholeSpec)

/-- ITS FALSE NEIGHBOUR: 'it returns false'. Refute it at one input. -/
def padWholeWrong : ChangeSpec := { name := "padWhole", fn := fun _ => fun
  | [d] => { results := [.lit (.bool false)], args := [d] }
  | _ => none }
def PadWholeWrongFalsely : Prop := padWholeRow.holds Try.pinned (OpenSpec.ofChange padWholeWrong)

/- THE SECOND FORM. 'bulk': how many values and letters a reading holds, each counted each time it is reached (what is shared counts as often as it is met; a slice's spare places count too). A statement '..UptoSaid' is the law's where the arguments, and the package variables that the reading takes, are together of bulk at most 1048576: NARROWER than '..Said'. Prove '..Said' where nothing that the law and all that it calls make is longer than what came in: it says more and counts as full. Else prove '..UptoSaid'. A law counts once. -/
mutual
def uptoBulk {H : Type} : DataW H → Nat
  | .lit (.string bytes) => bytes.length + 1
  | .lit _ => 1
  | .nil => 1
  | .ptr d => uptoBulk d + 1
  | .slice elems spare => uptoBulkAll elems + uptoBulkAll spare + 1
  | .agg parts => uptoBulkAll parts + 1
  | .iface _ d => uptoBulk d + 1
  | .map entries => uptoBulkEntries entries + 1
  | .held _ => 1
def uptoBulkAll {H : Type} : List (DataW H) → Nat
  | [] => 0
  | d :: r => uptoBulk d + uptoBulkAll r
def uptoBulkEntries {H : Type} : List (Lit × DataW H) → Nat
  | [] => 0
  | x :: r => uptoBulkEntry x + uptoBulkEntries r
def uptoBulkEntry {H : Type} : Lit × DataW H → Nat
  | (.string bytes, d) => bytes.length + uptoBulk d + 1
  | (_, d) => uptoBulk d + 1
 end
def uptoSmall : (H : Type) → List (DataW H) → Bool := fun _ ds => decide (uptoBulkAll ds ≤ 1048576)
def OpenSpec.upto (s : _root_.Go.ChangeSpec) : _root_.Go.OpenSpec := { _root_.Go.OpenSpec.ofChange s with cond := some uptoSmall }

/-- 'sphragislaw05.PadPads', WHERE WHAT IT READS IS OF BULK AT MOST 1048576: true; the input reads as it did. -/
def padPadsUptoRow : OpenClaim := { program := "ytnadbgcllejleaa", sum := "aa272a20cf04e1eb605cf0aff9b0611bea1e1362da76dfd22df09489e836cc7c", func := "sphragis/sphragislaw05.PadPads", spec := "padPads", inPlace := ["internal/abi.NoEscape", "internal/bytealg.MakeNoZero"], apart := false, narrowed := true }
def PadPadsUptoSaid : Prop := padPadsUptoRow.holds Try.pinned (OpenSpec.upto padPadsSpec)

/-- 'sphragislaw05.PadUnpads', WHERE WHAT IT READS IS OF BULK AT MOST 1048576: true; the input reads as it did. -/
def padUnpadsUptoRow : OpenClaim := { program := "ytnadbgcllejleaa", sum := "aa272a20cf04e1eb605cf0aff9b0611bea1e1362da76dfd22df09489e836cc7c", func := "sphragis/sphragislaw05.PadUnpads", spec := "padUnpads", inPlace := ["internal/abi.NoEscape", "internal/bytealg.MakeNoZero"], apart := false, narrowed := true }
def PadUnpadsUptoSaid : Prop := padUnpadsUptoRow.holds Try.pinned (OpenSpec.upto padUnpadsSpec)

/-- 'sphragislaw05.PadBack', WHERE WHAT IT READS IS OF BULK AT MOST 1048576: true; the input reads as it did. -/
def padBackUptoRow : OpenClaim := { program := "ytnadbgcllejleaa", sum := "aa272a20cf04e1eb605cf0aff9b0611bea1e1362da76dfd22df09489e836cc7c", func := "sphragis/sphragislaw05.PadBack", spec := "padBack", inPlace := ["internal/abi.NoEscape", "internal/bytealg.MakeNoZero"], apart := false, narrowed := true }
def PadBackUptoSaid : Prop := padBackUptoRow.holds Try.pinned (OpenSpec.upto padBackSpec)

/-- 'sphragislaw05.PadTurns', WHERE WHAT IT READS IS OF BULK AT MOST 1048576: true; the input reads as it did. -/
def padTurnsUptoRow : OpenClaim := { program := "ytnadbgcllejleaa", sum := "aa272a20cf04e1eb605cf0aff9b0611bea1e1362da76dfd22df09489e836cc7c", func := "sphragis/sphragislaw05.PadTurns", spec := "padTurns", inPlace := ["internal/abi.NoEscape", "internal/bytealg.MakeNoZero"], apart := false, narrowed := true }
def PadTurnsUptoSaid : Prop := padTurnsUptoRow.holds Try.pinned (OpenSpec.upto padTurnsSpec)

/-- 'sphragislaw05.PadSizes', WHERE WHAT IT READS IS OF BULK AT MOST 1048576: true; the input reads as it did. -/
def padSizesUptoRow : OpenClaim := { program := "ytnadbgcllejleaa", sum := "aa272a20cf04e1eb605cf0aff9b0611bea1e1362da76dfd22df09489e836cc7c", func := "sphragis/sphragislaw05.PadSizes", spec := "padSizes", inPlace := ["internal/abi.NoEscape", "internal/bytealg.MakeNoZero"], apart := false, narrowed := true }
def PadSizesUptoSaid : Prop := padSizesUptoRow.holds Try.pinned (OpenSpec.upto padSizesSpec)

/-- 'sphragislaw05.PadCuts', WHERE WHAT IT READS IS OF BULK AT MOST 1048576: true; the input reads as it did. -/
def padCutsUptoRow : OpenClaim := { program := "ytnadbgcllejleaa", sum := "aa272a20cf04e1eb605cf0aff9b0611bea1e1362da76dfd22df09489e836cc7c", func := "sphragis/sphragislaw05.PadCuts", spec := "padCuts", inPlace := ["internal/abi.NoEscape", "internal/bytealg.MakeNoZero"], unfollowed := true, recurses := true, apart := false, narrowed := true }
def PadCutsUptoSaid : Prop := padCutsUptoRow.holds Try.pinned (OpenSpec.upto padCutsSpec)

/-- 'sphragislaw05.PadWhole', WHERE WHAT IT READS IS OF BULK AT MOST 1048576: true; the input reads as it did. -/
def padWholeUptoRow : OpenClaim := { program := "ytnadbgcllejleaa", sum := "aa272a20cf04e1eb605cf0aff9b0611bea1e1362da76dfd22df09489e836cc7c", func := "sphragis/sphragislaw05.PadWhole", spec := "padWhole", inPlace := ["internal/abi.NoEscape", "internal/bytealg.MakeNoZero"], unfollowed := true, recurses := true, apart := false, narrowed := true }
def PadWholeUptoSaid : Prop := padWholeUptoRow.holds Try.pinned (OpenSpec.upto padWholeSpec)

end Rows
end Go.Proofs.Ytnadbgcllejleaa
