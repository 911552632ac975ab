/-
  No cell of these rows narrows 'for every input' (looked for: loops, veiled, ifaces, maps, wideKeys, modest, calm, conditions, laid).
  DERIVED. THE GIVEN ROWS OF THIS SEAT. 6 by the template 'for every input the law returns true; each argument reads behind the call as it read before'; 0 by the template 'total and deterministic' (their statements: YtdoaohmjhbefdaaTotals.lean).
  GIVEN WITH THE SEED: the statements are not yours to turn. If you find one false, say at which input.
  Laid BY PROGRAM, IN A SANDBOX (cutbox-rows.mjs): the forced cells as the released guide's own fill.sh prints them over the translation 4da586bfa4ba5099… (all of the seat's roots in one cut). By AI agents, Wed Nov 11 2026. No macro, syntax, notation, axiom, sorry.
-/
import Derived.Test.YtdoaohmjhbefdaaChecked
import GoSem.Claim
import GoSem.ClaimJoined
import GoSem.ClaimMapViews
import Derived.JoinedTies
import Derived.KernelRfl
namespace Go.Proofs.Ytdoaohmjhbefdaa
/- THE CELL 'sum', in the pinned program and in every row, IS THE sha256 OF THE DUMP (.gsa) THAT YtdoaohmjhbefdaaProg.lean LOADS. Nothing in Lean hashes anything: it is a label: what it is worth is what the hold of that sum in a sandbox is worth. -/
noncomputable def Try.pinned : Pinned := { name := "ytdoaohmjhbefdaa", sum := "4da586bfa4ba509999be39ed7062dbbed41358e0d4bcde956c50d286f1bfc673", checked := Try.checked }
namespace Rows
def none {H : Type} : Left H := { results := [], args := [] }

/-- 'sphragislaw04.KeysAdds': WHATEVER THE INPUT: true; the input reads as it did. -/
def keysAddsSpec : ChangeSpec := { name := "keysAdds", fn := fun _ => fun
  | [d1, d2] => { results := [.lit (.bool true)], args := [d1, d2] }
  | _ => none }
def keysAddsRow : OpenClaim := { program := "ytdoaohmjhbefdaa", sum := "4da586bfa4ba509999be39ed7062dbbed41358e0d4bcde956c50d286f1bfc673", func := "sphragis/sphragislaw04.KeysAdds", spec := "keysAdds", inPlace := ["slices.overlaps[sphragis/api.Key]"], unfollowed := true, recurses := true, apart := false }
def KeysAddsSaid : Prop := keysAddsRow.holds Try.pinned (OpenSpec.ofChange keysAddsSpec)

/-- ITS FALSE NEIGHBOUR: 'it returns false'. Refute it at one input. -/
def keysAddsWrong : ChangeSpec := { name := "keysAdds", fn := fun _ => fun
  | [d1, d2] => { results := [.lit (.bool false)], args := [d1, d2] }
  | _ => none }
def KeysAddsWrongFalsely : Prop := keysAddsRow.holds Try.pinned (OpenSpec.ofChange keysAddsWrong)

/-- 'sphragislaw04.KeysOrder': WHATEVER THE INPUT: true; the input reads as it did. -/
def keysOrderSpec : ChangeSpec := { name := "keysOrder", fn := fun _ => fun
  | [d1, d2, d3] => { results := [.lit (.bool true)], args := [d1, d2, d3] }
  | _ => none }
def keysOrderRow : OpenClaim := { program := "ytdoaohmjhbefdaa", sum := "4da586bfa4ba509999be39ed7062dbbed41358e0d4bcde956c50d286f1bfc673", func := "sphragis/sphragislaw04.KeysOrder", spec := "keysOrder", inPlace := ["slices.overlaps[sphragis/api.Key]"], unfollowed := true, recurses := true, apart := false }
def KeysOrderSaid : Prop := keysOrderRow.holds Try.pinned (OpenSpec.ofChange keysOrderSpec)

/-- ITS FALSE NEIGHBOUR: 'it returns false'. Refute it at one input. -/
def keysOrderWrong : ChangeSpec := { name := "keysOrder", fn := fun _ => fun
  | [d1, d2, d3] => { results := [.lit (.bool false)], args := [d1, d2, d3] }
  | _ => none }
def KeysOrderWrongFalsely : Prop := keysOrderRow.holds Try.pinned (OpenSpec.ofChange keysOrderWrong)

/-- 'sphragislaw04.KeysDrops': WHATEVER THE INPUT: true; the input reads as it did. -/
def keysDropsSpec : ChangeSpec := { name := "keysDrops", fn := fun _ => fun
  | [d1, d2] => { results := [.lit (.bool true)], args := [d1, d2] }
  | _ => none }
def keysDropsRow : OpenClaim := { program := "ytdoaohmjhbefdaa", sum := "4da586bfa4ba509999be39ed7062dbbed41358e0d4bcde956c50d286f1bfc673", func := "sphragis/sphragislaw04.KeysDrops", spec := "keysDrops", inPlace := ["slices.overlaps[sphragis/api.Key]"], unfollowed := true, recurses := true, apart := false }
def KeysDropsSaid : Prop := keysDropsRow.holds Try.pinned (OpenSpec.ofChange keysDropsSpec)

/-- ITS FALSE NEIGHBOUR: 'it returns false'. Refute it at one input. -/
def keysDropsWrong : ChangeSpec := { name := "keysDrops", fn := fun _ => fun
  | [d1, d2] => { results := [.lit (.bool false)], args := [d1, d2] }
  | _ => none }
def KeysDropsWrongFalsely : Prop := keysDropsRow.holds Try.pinned (OpenSpec.ofChange keysDropsWrong)

/-- 'sphragislaw04.KeysBack': WHATEVER THE INPUT: true; the input reads as it did. -/
def keysBackSpec : ChangeSpec := { name := "keysBack", fn := fun _ => fun
  | [d1, d2, d3] => { results := [.lit (.bool true)], args := [d1, d2, d3] }
  | _ => none }
def keysBackRow : OpenClaim := { program := "ytdoaohmjhbefdaa", sum := "4da586bfa4ba509999be39ed7062dbbed41358e0d4bcde956c50d286f1bfc673", func := "sphragis/sphragislaw04.KeysBack", spec := "keysBack", inPlace := ["slices.overlaps[sphragis/api.Key]"], unfollowed := true, recurses := true, apart := false }
def KeysBackSaid : Prop := keysBackRow.holds Try.pinned (OpenSpec.ofChange keysBackSpec)

/-- ITS FALSE NEIGHBOUR: 'it returns false'. Refute it at one input. -/
def keysBackWrong : ChangeSpec := { name := "keysBack", fn := fun _ => fun
  | [d1, d2, d3] => { results := [.lit (.bool false)], args := [d1, d2, d3] }
  | _ => none }
def KeysBackWrongFalsely : Prop := keysBackRow.holds Try.pinned (OpenSpec.ofChange keysBackWrong)

/-- 'sphragislaw04.KeysRight': WHATEVER THE INPUT: true; the input reads as it did. -/
def keysRightSpec : ChangeSpec := { name := "keysRight", fn := fun _ => fun
  | [d] => { results := [.lit (.bool true)], args := [d] }
  | _ => none }
def keysRightRow : OpenClaim := { program := "ytdoaohmjhbefdaa", sum := "4da586bfa4ba509999be39ed7062dbbed41358e0d4bcde956c50d286f1bfc673", func := "sphragis/sphragislaw04.KeysRight", spec := "keysRight", inPlace := ["slices.overlaps[sphragis/api.Key]"], unfollowed := true, recurses := true, apart := false }
def KeysRightSaid : Prop := keysRightRow.holds Try.pinned (OpenSpec.ofChange keysRightSpec)

/-- ITS FALSE NEIGHBOUR: 'it returns false'. Refute it at one input. -/
def keysRightWrong : ChangeSpec := { name := "keysRight", fn := fun _ => fun
  | [d] => { results := [.lit (.bool false)], args := [d] }
  | _ => none }
def KeysRightWrongFalsely : Prop := keysRightRow.holds Try.pinned (OpenSpec.ofChange keysRightWrong)

/-- 'sphragislaw04.KeysLeft': WHATEVER THE INPUT: true; the input reads as it did. -/
def keysLeftSpec : ChangeSpec := { name := "keysLeft", fn := fun _ => fun
  | [d] => { results := [.lit (.bool true)], args := [d] }
  | _ => none }
def keysLeftRow : OpenClaim := { program := "ytdoaohmjhbefdaa", sum := "4da586bfa4ba509999be39ed7062dbbed41358e0d4bcde956c50d286f1bfc673", func := "sphragis/sphragislaw04.KeysLeft", spec := "keysLeft", inPlace := ["slices.overlaps[sphragis/api.Key]"], unfollowed := true, recurses := true, apart := false }
def KeysLeftSaid : Prop := keysLeftRow.holds Try.pinned (OpenSpec.ofChange keysLeftSpec)

/-- ITS FALSE NEIGHBOUR: 'it returns false'. Refute it at one input. -/
def keysLeftWrong : ChangeSpec := { name := "keysLeft", fn := fun _ => fun
  | [d] => { results := [.lit (.bool false)], args := [d] }
  | _ => none }
def KeysLeftWrongFalsely : Prop := keysLeftRow.holds Try.pinned (OpenSpec.ofChange keysLeftWrong)

/- THE SECOND FORM. 'bulk': how many values and letters a reading holds, each counted each time it is reached (what is shared counts as often as it is met; a slice's spare places count too). A statement '..UptoSaid' is the law's where the arguments, and the package variables that the reading takes, are together of bulk at most 1048576: NARROWER than '..Said'. Prove '..Said' where nothing that the law and all that it calls make is longer than what came in: it says more and counts as full. Else prove '..UptoSaid'. A law counts once. -/
mutual
def uptoBulk {H : Type} : DataW H → Nat
  | .lit (.string bytes) => bytes.length + 1
  | .lit _ => 1
  | .nil => 1
  | .ptr d => uptoBulk d + 1
  | .slice elems spare => uptoBulkAll elems + uptoBulkAll spare + 1
  | .agg parts => uptoBulkAll parts + 1
  | .iface _ d => uptoBulk d + 1
  | .map entries => uptoBulkEntries entries + 1
  | .held _ => 1
def uptoBulkAll {H : Type} : List (DataW H) → Nat
  | [] => 0
  | d :: r => uptoBulk d + uptoBulkAll r
def uptoBulkEntries {H : Type} : List (Lit × DataW H) → Nat
  | [] => 0
  | x :: r => uptoBulkEntry x + uptoBulkEntries r
def uptoBulkEntry {H : Type} : Lit × DataW H → Nat
  | (.string bytes, d) => bytes.length + uptoBulk d + 1
  | (_, d) => uptoBulk d + 1
 end
def uptoSmall : (H : Type) → List (DataW H) → Bool := fun _ ds => decide (uptoBulkAll ds ≤ 1048576)
def OpenSpec.upto (s : _root_.Go.ChangeSpec) : _root_.Go.OpenSpec := { _root_.Go.OpenSpec.ofChange s with cond := some uptoSmall }

/-- 'sphragislaw04.KeysAdds', WHERE WHAT IT READS IS OF BULK AT MOST 1048576: true; the input reads as it did. -/
def keysAddsUptoRow : OpenClaim := { program := "ytdoaohmjhbefdaa", sum := "4da586bfa4ba509999be39ed7062dbbed41358e0d4bcde956c50d286f1bfc673", func := "sphragis/sphragislaw04.KeysAdds", spec := "keysAdds", inPlace := ["slices.overlaps[sphragis/api.Key]"], unfollowed := true, recurses := true, apart := false, narrowed := true }
def KeysAddsUptoSaid : Prop := keysAddsUptoRow.holds Try.pinned (OpenSpec.upto keysAddsSpec)

/-- 'sphragislaw04.KeysOrder', WHERE WHAT IT READS IS OF BULK AT MOST 1048576: true; the input reads as it did. -/
def keysOrderUptoRow : OpenClaim := { program := "ytdoaohmjhbefdaa", sum := "4da586bfa4ba509999be39ed7062dbbed41358e0d4bcde956c50d286f1bfc673", func := "sphragis/sphragislaw04.KeysOrder", spec := "keysOrder", inPlace := ["slices.overlaps[sphragis/api.Key]"], unfollowed := true, recurses := true, apart := false, narrowed := true }
def KeysOrderUptoSaid : Prop := keysOrderUptoRow.holds Try.pinned (OpenSpec.upto keysOrderSpec)

/-- 'sphragislaw04.KeysDrops', WHERE WHAT IT READS IS OF BULK AT MOST 1048576: true; the input reads as it did. -/
def keysDropsUptoRow : OpenClaim := { program := "ytdoaohmjhbefdaa", sum := "4da586bfa4ba509999be39ed7062dbbed41358e0d4bcde956c50d286f1bfc673", func := "sphragis/sphragislaw04.KeysDrops", spec := "keysDrops", inPlace := ["slices.overlaps[sphragis/api.Key]"], unfollowed := true, recurses := true, apart := false, narrowed := true }
def KeysDropsUptoSaid : Prop := keysDropsUptoRow.holds Try.pinned (OpenSpec.upto keysDropsSpec)

/-- 'sphragislaw04.KeysBack', WHERE WHAT IT READS IS OF BULK AT MOST 1048576: true; the input reads as it did. -/
def keysBackUptoRow : OpenClaim := { program := "ytdoaohmjhbefdaa", sum := "4da586bfa4ba509999be39ed7062dbbed41358e0d4bcde956c50d286f1bfc673", func := "sphragis/sphragislaw04.KeysBack", spec := "keysBack", inPlace := ["slices.overlaps[sphragis/api.Key]"], unfollowed := true, recurses := true, apart := false, narrowed := true }
def KeysBackUptoSaid : Prop := keysBackUptoRow.holds Try.pinned (OpenSpec.upto keysBackSpec)

/-- 'sphragislaw04.KeysRight', WHERE WHAT IT READS IS OF BULK AT MOST 1048576: true; the input reads as it did. -/
def keysRightUptoRow : OpenClaim := { program := "ytdoaohmjhbefdaa", sum := "4da586bfa4ba509999be39ed7062dbbed41358e0d4bcde956c50d286f1bfc673", func := "sphragis/sphragislaw04.KeysRight", spec := "keysRight", inPlace := ["slices.overlaps[sphragis/api.Key]"], unfollowed := true, recurses := true, apart := false, narrowed := true }
def KeysRightUptoSaid : Prop := keysRightUptoRow.holds Try.pinned (OpenSpec.upto keysRightSpec)

/-- 'sphragislaw04.KeysLeft', WHERE WHAT IT READS IS OF BULK AT MOST 1048576: true; the input reads as it did. -/
def keysLeftUptoRow : OpenClaim := { program := "ytdoaohmjhbefdaa", sum := "4da586bfa4ba509999be39ed7062dbbed41358e0d4bcde956c50d286f1bfc673", func := "sphragis/sphragislaw04.KeysLeft", spec := "keysLeft", inPlace := ["slices.overlaps[sphragis/api.Key]"], unfollowed := true, recurses := true, apart := false, narrowed := true }
def KeysLeftUptoSaid : Prop := keysLeftUptoRow.holds Try.pinned (OpenSpec.upto keysLeftSpec)

end Rows
end Go.Proofs.Ytdoaohmjhbefdaa
