/-
  No cell of these rows narrows 'for every input' (looked for: loops, veiled, ifaces, maps, wideKeys, modest, calm, conditions, laid).
  DERIVED. THE GIVEN ROWS OF THIS SEAT. 7 by the template 'for every input the law returns true; each argument reads behind the call as it read before'; 0 by the template 'total and deterministic' (their statements: YtgckdmilgonnlaaTotals.lean).
  GIVEN WITH THE SEED: the statements are not yours to turn. If you find one false, say at which input.
  Laid BY PROGRAM, IN A SANDBOX (cutbox-rows.mjs): the forced cells as the released guide's own fill.sh prints them over the translation 58fcc9cace9984f3… (all of the seat's roots in one cut). By AI agents, Wed Nov 11 2026. No macro, syntax, notation, axiom, sorry.
-/
import Derived.Test.YtgckdmilgonnlaaChecked
import GoSem.Claim
import GoSem.ClaimJoined
import GoSem.ClaimMapViews
import Derived.JoinedTies
import Derived.KernelRfl
namespace Go.Proofs.Ytgckdmilgonnlaa
/- THE CELL 'sum', in the pinned program and in every row, IS THE sha256 OF THE DUMP (.gsa) THAT YtgckdmilgonnlaaProg.lean LOADS. Nothing in Lean hashes anything: it is a label: what it is worth is what the hold of that sum in a sandbox is worth. -/
noncomputable def Try.pinned : Pinned := { name := "ytgckdmilgonnlaa", sum := "58fcc9cace9984f3f78c477670f52d83f6619be41281c1eb77efa337b0c0f098", checked := Try.checked }
namespace Rows
def none {H : Type} : Left H := { results := [], args := [] }

/-- 'sphragislaw01.ArxQuarters': WHATEVER THE INPUT: true; the input reads as it did. -/
def arxQuartersSpec : ChangeSpec := { name := "arxQuarters", fn := fun _ => fun
  | [d1, d2, d3, d4] => { results := [.lit (.bool true)], args := [d1, d2, d3, d4] }
  | _ => none }
def arxQuartersRow : OpenClaim := { program := "ytgckdmilgonnlaa", sum := "58fcc9cace9984f3f78c477670f52d83f6619be41281c1eb77efa337b0c0f098", func := "sphragis/sphragislaw01.ArxQuarters", spec := "arxQuarters", unfollowed := true, recurses := true, apart := false }
def ArxQuartersSaid : Prop := arxQuartersRow.holds Try.pinned (OpenSpec.ofChange arxQuartersSpec)

/-- ITS FALSE NEIGHBOUR: 'it returns false'. Refute it at one input. -/
def arxQuartersWrong : ChangeSpec := { name := "arxQuarters", fn := fun _ => fun
  | [d1, d2, d3, d4] => { results := [.lit (.bool false)], args := [d1, d2, d3, d4] }
  | _ => none }
def ArxQuartersWrongFalsely : Prop := arxQuartersRow.holds Try.pinned (OpenSpec.ofChange arxQuartersWrong)

/-- 'sphragislaw01.ArxBlocks': WHATEVER THE INPUT: true; the input reads as it did. -/
def arxBlocksSpec : ChangeSpec := { name := "arxBlocks", fn := fun _ => fun
  | [d1, d2, d3] => { results := [.lit (.bool true)], args := [d1, d2, d3] }
  | _ => none }
def arxBlocksRow : OpenClaim := { program := "ytgckdmilgonnlaa", sum := "58fcc9cace9984f3f78c477670f52d83f6619be41281c1eb77efa337b0c0f098", func := "sphragis/sphragislaw01.ArxBlocks", spec := "arxBlocks", unfollowed := true, recurses := true, apart := false }
def ArxBlocksSaid : Prop := arxBlocksRow.holds Try.pinned (OpenSpec.ofChange arxBlocksSpec)

/-- ITS FALSE NEIGHBOUR: 'it returns false'. Refute it at one input. -/
def arxBlocksWrong : ChangeSpec := { name := "arxBlocks", fn := fun _ => fun
  | [d1, d2, d3] => { results := [.lit (.bool false)], args := [d1, d2, d3] }
  | _ => none }
def ArxBlocksWrongFalsely : Prop := arxBlocksRow.holds Try.pinned (OpenSpec.ofChange arxBlocksWrong)

/-- 'sphragislaw01.ArxXors': WHATEVER THE INPUT: true; the input reads as it did. -/
def arxXorsSpec : ChangeSpec := { name := "arxXors", fn := fun _ => fun
  | [d1, d2, d3] => { results := [.lit (.bool true)], args := [d1, d2, d3] }
  | _ => none }
def arxXorsRow : OpenClaim := { program := "ytgckdmilgonnlaa", sum := "58fcc9cace9984f3f78c477670f52d83f6619be41281c1eb77efa337b0c0f098", func := "sphragis/sphragislaw01.ArxXors", spec := "arxXors", inPlace := ["internal/abi.NoEscape"], unfollowed := true, recurses := true, apart := false }
def ArxXorsSaid : Prop := arxXorsRow.holds Try.pinned (OpenSpec.ofChange arxXorsSpec)

/-- ITS FALSE NEIGHBOUR: 'it returns false'. Refute it at one input. -/
def arxXorsWrong : ChangeSpec := { name := "arxXors", fn := fun _ => fun
  | [d1, d2, d3] => { results := [.lit (.bool false)], args := [d1, d2, d3] }
  | _ => none }
def ArxXorsWrongFalsely : Prop := arxXorsRow.holds Try.pinned (OpenSpec.ofChange arxXorsWrong)

/-- 'sphragislaw01.ArxLong': WHATEVER THE INPUT: true; the input reads as it did. -/
def arxLongSpec : ChangeSpec := { name := "arxLong", fn := fun _ => fun
  | [d] => { results := [.lit (.bool true)], args := [d] }
  | _ => none }
def arxLongRow : OpenClaim := { program := "ytgckdmilgonnlaa", sum := "58fcc9cace9984f3f78c477670f52d83f6619be41281c1eb77efa337b0c0f098", func := "sphragis/sphragislaw01.ArxLong", spec := "arxLong", inPlace := ["internal/abi.NoEscape"], unfollowed := true, recurses := true, apart := false }
def ArxLongSaid : Prop := arxLongRow.holds Try.pinned (OpenSpec.ofChange arxLongSpec)

/-- ITS FALSE NEIGHBOUR: 'it returns false'. Refute it at one input. -/
def arxLongWrong : ChangeSpec := { name := "arxLong", fn := fun _ => fun
  | [d] => { results := [.lit (.bool false)], args := [d] }
  | _ => none }
def ArxLongWrongFalsely : Prop := arxLongRow.holds Try.pinned (OpenSpec.ofChange arxLongWrong)

/-- 'sphragislaw01.ArxTwice': WHATEVER THE INPUT: true; the input reads as it did. -/
def arxTwiceSpec : ChangeSpec := { name := "arxTwice", fn := fun _ => fun
  | [d1, d2, d3] => { results := [.lit (.bool true)], args := [d1, d2, d3] }
  | _ => none }
def arxTwiceRow : OpenClaim := { program := "ytgckdmilgonnlaa", sum := "58fcc9cace9984f3f78c477670f52d83f6619be41281c1eb77efa337b0c0f098", func := "sphragis/sphragislaw01.ArxTwice", spec := "arxTwice", inPlace := ["internal/abi.NoEscape"], unfollowed := true, recurses := true, apart := false }
def ArxTwiceSaid : Prop := arxTwiceRow.holds Try.pinned (OpenSpec.ofChange arxTwiceSpec)

/-- ITS FALSE NEIGHBOUR: 'it returns false'. Refute it at one input. -/
def arxTwiceWrong : ChangeSpec := { name := "arxTwice", fn := fun _ => fun
  | [d1, d2, d3] => { results := [.lit (.bool false)], args := [d1, d2, d3] }
  | _ => none }
def ArxTwiceWrongFalsely : Prop := arxTwiceRow.holds Try.pinned (OpenSpec.ofChange arxTwiceWrong)

/-- 'sphragislaw01.ArxBegins': WHATEVER THE INPUT: true; the input reads as it did. -/
def arxBeginsSpec : ChangeSpec := { name := "arxBegins", fn := fun _ => fun
  | [d1, d2, d3, d4, d5] => { results := [.lit (.bool true)], args := [d1, d2, d3, d4, d5] }
  | _ => none }
def arxBeginsRow : OpenClaim := { program := "ytgckdmilgonnlaa", sum := "58fcc9cace9984f3f78c477670f52d83f6619be41281c1eb77efa337b0c0f098", func := "sphragis/sphragislaw01.ArxBegins", spec := "arxBegins", inPlace := ["internal/abi.NoEscape"], unfollowed := true, recurses := true, apart := false }
def ArxBeginsSaid : Prop := arxBeginsRow.holds Try.pinned (OpenSpec.ofChange arxBeginsSpec)

/-- ITS FALSE NEIGHBOUR: 'it returns false'. Refute it at one input. -/
def arxBeginsWrong : ChangeSpec := { name := "arxBegins", fn := fun _ => fun
  | [d1, d2, d3, d4, d5] => { results := [.lit (.bool false)], args := [d1, d2, d3, d4, d5] }
  | _ => none }
def ArxBeginsWrongFalsely : Prop := arxBeginsRow.holds Try.pinned (OpenSpec.ofChange arxBeginsWrong)

/-- 'sphragislaw01.ArxZeros': WHATEVER THE INPUT: true; the input reads as it did. -/
def arxZerosSpec : ChangeSpec := { name := "arxZeros", fn := fun _ => fun
  | [d1, d2, d3] => { results := [.lit (.bool true)], args := [d1, d2, d3] }
  | _ => none }
def arxZerosRow : OpenClaim := { program := "ytgckdmilgonnlaa", sum := "58fcc9cace9984f3f78c477670f52d83f6619be41281c1eb77efa337b0c0f098", func := "sphragis/sphragislaw01.ArxZeros", spec := "arxZeros", inPlace := ["internal/abi.NoEscape"], unfollowed := true, recurses := true, apart := false }
def ArxZerosSaid : Prop := arxZerosRow.holds Try.pinned (OpenSpec.ofChange arxZerosSpec)

/-- ITS FALSE NEIGHBOUR: 'it returns false'. Refute it at one input. -/
def arxZerosWrong : ChangeSpec := { name := "arxZeros", fn := fun _ => fun
  | [d1, d2, d3] => { results := [.lit (.bool false)], args := [d1, d2, d3] }
  | _ => none }
def ArxZerosWrongFalsely : Prop := arxZerosRow.holds Try.pinned (OpenSpec.ofChange arxZerosWrong)

/- THE SECOND FORM. 'bulk': how many values and letters a reading holds, each counted each time it is reached (what is shared counts as often as it is met; a slice's spare places count too). A statement '..UptoSaid' is the law's where the arguments, and the package variables that the reading takes, are together of bulk at most 1048576: NARROWER than '..Said'. Prove '..Said' where nothing that the law and all that it calls make is longer than what came in: it says more and counts as full. Else prove '..UptoSaid'. A law counts once. -/
mutual
def uptoBulk {H : Type} : DataW H → Nat
  | .lit (.string bytes) => bytes.length + 1
  | .lit _ => 1
  | .nil => 1
  | .ptr d => uptoBulk d + 1
  | .slice elems spare => uptoBulkAll elems + uptoBulkAll spare + 1
  | .agg parts => uptoBulkAll parts + 1
  | .iface _ d => uptoBulk d + 1
  | .map entries => uptoBulkEntries entries + 1
  | .held _ => 1
def uptoBulkAll {H : Type} : List (DataW H) → Nat
  | [] => 0
  | d :: r => uptoBulk d + uptoBulkAll r
def uptoBulkEntries {H : Type} : List (Lit × DataW H) → Nat
  | [] => 0
  | x :: r => uptoBulkEntry x + uptoBulkEntries r
def uptoBulkEntry {H : Type} : Lit × DataW H → Nat
  | (.string bytes, d) => bytes.length + uptoBulk d + 1
  | (_, d) => uptoBulk d + 1
 end
def uptoSmall : (H : Type) → List (DataW H) → Bool := fun _ ds => decide (uptoBulkAll ds ≤ 1048576)
def OpenSpec.upto (s : _root_.Go.ChangeSpec) : _root_.Go.OpenSpec := { _root_.Go.OpenSpec.ofChange s with cond := some uptoSmall }

/-- 'sphragislaw01.ArxQuarters', WHERE WHAT IT READS IS OF BULK AT MOST 1048576: true; the input reads as it did. -/
def arxQuartersUptoRow : OpenClaim := { program := "ytgckdmilgonnlaa", sum := "58fcc9cace9984f3f78c477670f52d83f6619be41281c1eb77efa337b0c0f098", func := "sphragis/sphragislaw01.ArxQuarters", spec := "arxQuarters", unfollowed := true, recurses := true, apart := false, narrowed := true }
def ArxQuartersUptoSaid : Prop := arxQuartersUptoRow.holds Try.pinned (OpenSpec.upto arxQuartersSpec)

/-- 'sphragislaw01.ArxBlocks', WHERE WHAT IT READS IS OF BULK AT MOST 1048576: true; the input reads as it did. -/
def arxBlocksUptoRow : OpenClaim := { program := "ytgckdmilgonnlaa", sum := "58fcc9cace9984f3f78c477670f52d83f6619be41281c1eb77efa337b0c0f098", func := "sphragis/sphragislaw01.ArxBlocks", spec := "arxBlocks", unfollowed := true, recurses := true, apart := false, narrowed := true }
def ArxBlocksUptoSaid : Prop := arxBlocksUptoRow.holds Try.pinned (OpenSpec.upto arxBlocksSpec)

/-- 'sphragislaw01.ArxXors', WHERE WHAT IT READS IS OF BULK AT MOST 1048576: true; the input reads as it did. -/
def arxXorsUptoRow : OpenClaim := { program := "ytgckdmilgonnlaa", sum := "58fcc9cace9984f3f78c477670f52d83f6619be41281c1eb77efa337b0c0f098", func := "sphragis/sphragislaw01.ArxXors", spec := "arxXors", inPlace := ["internal/abi.NoEscape"], unfollowed := true, recurses := true, apart := false, narrowed := true }
def ArxXorsUptoSaid : Prop := arxXorsUptoRow.holds Try.pinned (OpenSpec.upto arxXorsSpec)

/-- 'sphragislaw01.ArxLong', WHERE WHAT IT READS IS OF BULK AT MOST 1048576: true; the input reads as it did. -/
def arxLongUptoRow : OpenClaim := { program := "ytgckdmilgonnlaa", sum := "58fcc9cace9984f3f78c477670f52d83f6619be41281c1eb77efa337b0c0f098", func := "sphragis/sphragislaw01.ArxLong", spec := "arxLong", inPlace := ["internal/abi.NoEscape"], unfollowed := true, recurses := true, apart := false, narrowed := true }
def ArxLongUptoSaid : Prop := arxLongUptoRow.holds Try.pinned (OpenSpec.upto arxLongSpec)

/-- 'sphragislaw01.ArxTwice', WHERE WHAT IT READS IS OF BULK AT MOST 1048576: true; the input reads as it did. -/
def arxTwiceUptoRow : OpenClaim := { program := "ytgckdmilgonnlaa", sum := "58fcc9cace9984f3f78c477670f52d83f6619be41281c1eb77efa337b0c0f098", func := "sphragis/sphragislaw01.ArxTwice", spec := "arxTwice", inPlace := ["internal/abi.NoEscape"], unfollowed := true, recurses := true, apart := false, narrowed := true }
def ArxTwiceUptoSaid : Prop := arxTwiceUptoRow.holds Try.pinned (OpenSpec.upto arxTwiceSpec)

/-- 'sphragislaw01.ArxBegins', WHERE WHAT IT READS IS OF BULK AT MOST 1048576: true; the input reads as it did. -/
def arxBeginsUptoRow : OpenClaim := { program := "ytgckdmilgonnlaa", sum := "58fcc9cace9984f3f78c477670f52d83f6619be41281c1eb77efa337b0c0f098", func := "sphragis/sphragislaw01.ArxBegins", spec := "arxBegins", inPlace := ["internal/abi.NoEscape"], unfollowed := true, recurses := true, apart := false, narrowed := true }
def ArxBeginsUptoSaid : Prop := arxBeginsUptoRow.holds Try.pinned (OpenSpec.upto arxBeginsSpec)

/-- 'sphragislaw01.ArxZeros', WHERE WHAT IT READS IS OF BULK AT MOST 1048576: true; the input reads as it did. -/
def arxZerosUptoRow : OpenClaim := { program := "ytgckdmilgonnlaa", sum := "58fcc9cace9984f3f78c477670f52d83f6619be41281c1eb77efa337b0c0f098", func := "sphragis/sphragislaw01.ArxZeros", spec := "arxZeros", inPlace := ["internal/abi.NoEscape"], unfollowed := true, recurses := true, apart := false, narrowed := true }
def ArxZerosUptoSaid : Prop := arxZerosUptoRow.holds Try.pinned (OpenSpec.upto arxZerosSpec)

end Rows
end Go.Proofs.Ytgckdmilgonnlaa
