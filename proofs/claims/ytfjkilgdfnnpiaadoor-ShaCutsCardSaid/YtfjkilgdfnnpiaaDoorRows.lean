/-
  NARROWER THAN 'FOR EVERY INPUT', by the rows' own cells (each row's printed sentence says how): ShaSums: laid · ShaLengths: laid · ShaAdds: laid · ShaCuts: laid · ShaWrites: laid · ShaFull: laid · ShaNone: laid.
  DERIVED. THE GIVEN ROWS OF THIS SEAT. 7 by the template 'for every input the law returns true; each argument reads behind the call as it read before'; 0 by the template 'total and deterministic' (their statements: YtfjkilgdfnnpiaaDoorTotals.lean).
  GIVEN WITH THE SEED: the statements are not yours to turn. If you find one false, say at which input.
  Laid BY PROGRAM, IN A SANDBOX (cutbox-rows.mjs): the forced cells as the released guide's own fill.sh prints them over the translation edc6691991261f0a… (all of the seat's roots in one cut). By AI agents, Wed Nov 11 2026. No macro, syntax, notation, axiom, sorry.
-/
import Derived.Test.YtfjkilgdfnnpiaaDoorChecked
import GoSem.Claim
import GoSem.ClaimJoined
import GoSem.ClaimMapViews
import Derived.JoinedTies
import Derived.KernelRfl
namespace Go.Proofs.YtfjkilgdfnnpiaaDoor
/- THE CELL 'sum', in the pinned program and in every row, IS THE sha256 OF THE DUMP (.gsa) THAT YtfjkilgdfnnpiaaDoorProg.lean LOADS. Nothing in Lean hashes anything: it is a label: what it is worth is what the hold of that sum in a sandbox is worth. -/
noncomputable def Tryd.pinned : Pinned := { name := "ytfjkilgdfnnpiaadoor", sum := "edc6691991261f0a0e6ff6246b212deec03006d04573b24f1f51a387129067bb", checked := Tryd.checked }
namespace Rows
def none {H : Type} : Left H := { results := [], args := [] }

/- WHAT THE LISTED PACKAGE-LEVEL VARIABLES READ AS WHEN THE CALL BEGINS. Each datum BY PROGRAM (the guide's laid-datum.mjs) off the statement by which the dump's own 'gosem.cut.vars' lays the variable. In a bare row this is a premise. The card (YtfjkilgdfnnpiaaDoorCards.lean) ties it to the program's text. -/
def laid_sphragis_sphragisref02_table {H : Type} : DataW H := .agg [.lit (.int .u32 1116352408), .lit (.int .u32 1899447441), .lit (.int .u32 3049323471), .lit (.int .u32 3921009573), .lit (.int .u32 961987163), .lit (.int .u32 1508970993), .lit (.int .u32 2453635748), .lit (.int .u32 2870763221), .lit (.int .u32 3624381080), .lit (.int .u32 310598401), .lit (.int .u32 607225278), .lit (.int .u32 1426881987), .lit (.int .u32 1925078388), .lit (.int .u32 2162078206), .lit (.int .u32 2614888103), .lit (.int .u32 3248222580), .lit (.int .u32 3835390401), .lit (.int .u32 4022224774), .lit (.int .u32 264347078), .lit (.int .u32 604807628), .lit (.int .u32 770255983), .lit (.int .u32 1249150122), .lit (.int .u32 1555081692), .lit (.int .u32 1996064986), .lit (.int .u32 2554220882), .lit (.int .u32 2821834349), .lit (.int .u32 2952996808), .lit (.int .u32 3210313671), .lit (.int .u32 3336571891), .lit (.int .u32 3584528711), .lit (.int .u32 113926993), .lit (.int .u32 338241895), .lit (.int .u32 666307205), .lit (.int .u32 773529912), .lit (.int .u32 1294757372), .lit (.int .u32 1396182291), .lit (.int .u32 1695183700), .lit (.int .u32 1986661051), .lit (.int .u32 2177026350), .lit (.int .u32 2456956037), .lit (.int .u32 2730485921), .lit (.int .u32 2820302411), .lit (.int .u32 3259730800), .lit (.int .u32 3345764771), .lit (.int .u32 3516065817), .lit (.int .u32 3600352804), .lit (.int .u32 4094571909), .lit (.int .u32 275423344), .lit (.int .u32 430227734), .lit (.int .u32 506948616), .lit (.int .u32 659060556), .lit (.int .u32 883997877), .lit (.int .u32 958139571), .lit (.int .u32 1322822218), .lit (.int .u32 1537002063), .lit (.int .u32 1747873779), .lit (.int .u32 1955562222), .lit (.int .u32 2024104815), .lit (.int .u32 2227730452), .lit (.int .u32 2361852424), .lit (.int .u32 2428436474), .lit (.int .u32 2756734187), .lit (.int .u32 3204031479), .lit (.int .u32 3329325298)]
def laid_sphragis_sha_first {H : Type} : DataW H := .agg [.lit (.int .u32 1779033703), .lit (.int .u32 3144134277), .lit (.int .u32 1013904242), .lit (.int .u32 2773480762), .lit (.int .u32 1359893119), .lit (.int .u32 2600822924), .lit (.int .u32 528734635), .lit (.int .u32 1541459225)]
def laid_sphragis_sha_constants {H : Type} : DataW H := .agg [.lit (.int .u32 1116352408), .lit (.int .u32 1899447441), .lit (.int .u32 3049323471), .lit (.int .u32 3921009573), .lit (.int .u32 961987163), .lit (.int .u32 1508970993), .lit (.int .u32 2453635748), .lit (.int .u32 2870763221), .lit (.int .u32 3624381080), .lit (.int .u32 310598401), .lit (.int .u32 607225278), .lit (.int .u32 1426881987), .lit (.int .u32 1925078388), .lit (.int .u32 2162078206), .lit (.int .u32 2614888103), .lit (.int .u32 3248222580), .lit (.int .u32 3835390401), .lit (.int .u32 4022224774), .lit (.int .u32 264347078), .lit (.int .u32 604807628), .lit (.int .u32 770255983), .lit (.int .u32 1249150122), .lit (.int .u32 1555081692), .lit (.int .u32 1996064986), .lit (.int .u32 2554220882), .lit (.int .u32 2821834349), .lit (.int .u32 2952996808), .lit (.int .u32 3210313671), .lit (.int .u32 3336571891), .lit (.int .u32 3584528711), .lit (.int .u32 113926993), .lit (.int .u32 338241895), .lit (.int .u32 666307205), .lit (.int .u32 773529912), .lit (.int .u32 1294757372), .lit (.int .u32 1396182291), .lit (.int .u32 1695183700), .lit (.int .u32 1986661051), .lit (.int .u32 2177026350), .lit (.int .u32 2456956037), .lit (.int .u32 2730485921), .lit (.int .u32 2820302411), .lit (.int .u32 3259730800), .lit (.int .u32 3345764771), .lit (.int .u32 3516065817), .lit (.int .u32 3600352804), .lit (.int .u32 4094571909), .lit (.int .u32 275423344), .lit (.int .u32 430227734), .lit (.int .u32 506948616), .lit (.int .u32 659060556), .lit (.int .u32 883997877), .lit (.int .u32 958139571), .lit (.int .u32 1322822218), .lit (.int .u32 1537002063), .lit (.int .u32 1747873779), .lit (.int .u32 1955562222), .lit (.int .u32 2024104815), .lit (.int .u32 2227730452), .lit (.int .u32 2361852424), .lit (.int .u32 2428436474), .lit (.int .u32 2756734187), .lit (.int .u32 3204031479), .lit (.int .u32 3329325298)]

/-- 'sphragislaw02.ShaSums': WHATEVER THE INPUT: true; the input reads as it did. -/
def shaSumsSpec : ChangeSpec := { name := "shaSums", fn := fun _ => fun
  | [d] => { results := [.lit (.bool true)], args := [d] }
  | _ => none }
def shaSumsRow : OpenClaim := { program := "ytfjkilgdfnnpiaadoor", sum := "edc6691991261f0a0e6ff6246b212deec03006d04573b24f1f51a387129067bb", func := "sphragis/sphragislaw02.ShaSums", spec := "shaSums", inPlace := ["internal/abi.NoEscape", "internal/bytealg.MakeNoZero"], unfollowed := true, recurses := true, named := ["sphragis/sha.first", "sphragis/sha.constants", "sphragis/sphragisref02.table"], apart := false, laid := [("sphragis/sphragisref02.table", laid_sphragis_sphragisref02_table), ("sphragis/sha.first", laid_sphragis_sha_first), ("sphragis/sha.constants", laid_sphragis_sha_constants)] }
def ShaSumsSaid : Prop := shaSumsRow.holds Tryd.pinned (OpenSpec.ofChange shaSumsSpec)

/-- ITS FALSE NEIGHBOUR: 'it returns false'. Refute it at one input. -/
def shaSumsWrong : ChangeSpec := { name := "shaSums", fn := fun _ => fun
  | [d] => { results := [.lit (.bool false)], args := [d] }
  | _ => none }
def ShaSumsWrongFalsely : Prop := shaSumsRow.holds Tryd.pinned (OpenSpec.ofChange shaSumsWrong)

/-- 'sphragislaw02.ShaLengths': WHATEVER THE INPUT: true; the input reads as it did. -/
def shaLengthsSpec : ChangeSpec := { name := "shaLengths", fn := fun _ => fun
  | [d1, d2] => { results := [.lit (.bool true)], args := [d1, d2] }
  | _ => none }
def shaLengthsRow : OpenClaim := { program := "ytfjkilgdfnnpiaadoor", sum := "edc6691991261f0a0e6ff6246b212deec03006d04573b24f1f51a387129067bb", func := "sphragis/sphragislaw02.ShaLengths", spec := "shaLengths", inPlace := ["internal/abi.NoEscape", "internal/bytealg.MakeNoZero"], unfollowed := true, recurses := true, named := ["sphragis/sha.first", "sphragis/sha.constants", "sphragis/sphragisref02.table"], apart := false, laid := [("sphragis/sphragisref02.table", laid_sphragis_sphragisref02_table), ("sphragis/sha.first", laid_sphragis_sha_first), ("sphragis/sha.constants", laid_sphragis_sha_constants)] }
def ShaLengthsSaid : Prop := shaLengthsRow.holds Tryd.pinned (OpenSpec.ofChange shaLengthsSpec)

/-- ITS FALSE NEIGHBOUR: 'it returns false'. Refute it at one input. -/
def shaLengthsWrong : ChangeSpec := { name := "shaLengths", fn := fun _ => fun
  | [d1, d2] => { results := [.lit (.bool false)], args := [d1, d2] }
  | _ => none }
def ShaLengthsWrongFalsely : Prop := shaLengthsRow.holds Tryd.pinned (OpenSpec.ofChange shaLengthsWrong)

/-- 'sphragislaw02.ShaAdds': WHATEVER THE INPUT: true; the input reads as it did. -/
def shaAddsSpec : ChangeSpec := { name := "shaAdds", fn := fun _ => fun
  | [d] => { results := [.lit (.bool true)], args := [d] }
  | _ => none }
def shaAddsRow : OpenClaim := { program := "ytfjkilgdfnnpiaadoor", sum := "edc6691991261f0a0e6ff6246b212deec03006d04573b24f1f51a387129067bb", func := "sphragis/sphragislaw02.ShaAdds", spec := "shaAdds", inPlace := ["internal/abi.NoEscape", "internal/bytealg.MakeNoZero"], unfollowed := true, recurses := true, named := ["sphragis/sha.first", "sphragis/sha.constants", "sphragis/sphragisref02.table"], apart := false, laid := [("sphragis/sphragisref02.table", laid_sphragis_sphragisref02_table), ("sphragis/sha.first", laid_sphragis_sha_first), ("sphragis/sha.constants", laid_sphragis_sha_constants)] }
def ShaAddsSaid : Prop := shaAddsRow.holds Tryd.pinned (OpenSpec.ofChange shaAddsSpec)

/-- ITS FALSE NEIGHBOUR: 'it returns false'. Refute it at one input. -/
def shaAddsWrong : ChangeSpec := { name := "shaAdds", fn := fun _ => fun
  | [d] => { results := [.lit (.bool false)], args := [d] }
  | _ => none }
def ShaAddsWrongFalsely : Prop := shaAddsRow.holds Tryd.pinned (OpenSpec.ofChange shaAddsWrong)

/-- 'sphragislaw02.ShaCuts': WHATEVER THE INPUT: true; the input reads as it did. -/
def shaCutsSpec : ChangeSpec := { name := "shaCuts", fn := fun _ => fun
  | [d1, d2, d3] => { results := [.lit (.bool true)], args := [d1, d2, d3] }
  | _ => none }
def shaCutsRow : OpenClaim := { program := "ytfjkilgdfnnpiaadoor", sum := "edc6691991261f0a0e6ff6246b212deec03006d04573b24f1f51a387129067bb", func := "sphragis/sphragislaw02.ShaCuts", spec := "shaCuts", inPlace := ["internal/abi.NoEscape", "internal/bytealg.MakeNoZero"], unfollowed := true, recurses := true, named := ["sphragis/sha.first", "sphragis/sha.constants"], apart := false, laid := [("sphragis/sha.first", laid_sphragis_sha_first), ("sphragis/sha.constants", laid_sphragis_sha_constants)] }
def ShaCutsSaid : Prop := shaCutsRow.holds Tryd.pinned (OpenSpec.ofChange shaCutsSpec)

/-- ITS FALSE NEIGHBOUR: 'it returns false'. Refute it at one input. -/
def shaCutsWrong : ChangeSpec := { name := "shaCuts", fn := fun _ => fun
  | [d1, d2, d3] => { results := [.lit (.bool false)], args := [d1, d2, d3] }
  | _ => none }
def ShaCutsWrongFalsely : Prop := shaCutsRow.holds Tryd.pinned (OpenSpec.ofChange shaCutsWrong)

/-- 'sphragislaw02.ShaWrites': WHATEVER THE INPUT: true; the input reads as it did. -/
def shaWritesSpec : ChangeSpec := { name := "shaWrites", fn := fun _ => fun
  | [d] => { results := [.lit (.bool true)], args := [d] }
  | _ => none }
def shaWritesRow : OpenClaim := { program := "ytfjkilgdfnnpiaadoor", sum := "edc6691991261f0a0e6ff6246b212deec03006d04573b24f1f51a387129067bb", func := "sphragis/sphragislaw02.ShaWrites", spec := "shaWrites", inPlace := ["internal/abi.NoEscape", "internal/bytealg.MakeNoZero"], unfollowed := true, recurses := true, named := ["sphragis/sha.first", "sphragis/sha.constants", "sphragis/sphragisref02.table"], apart := false, laid := [("sphragis/sphragisref02.table", laid_sphragis_sphragisref02_table), ("sphragis/sha.first", laid_sphragis_sha_first), ("sphragis/sha.constants", laid_sphragis_sha_constants)] }
def ShaWritesSaid : Prop := shaWritesRow.holds Tryd.pinned (OpenSpec.ofChange shaWritesSpec)

/-- ITS FALSE NEIGHBOUR: 'it returns false'. Refute it at one input. -/
def shaWritesWrong : ChangeSpec := { name := "shaWrites", fn := fun _ => fun
  | [d] => { results := [.lit (.bool false)], args := [d] }
  | _ => none }
def ShaWritesWrongFalsely : Prop := shaWritesRow.holds Tryd.pinned (OpenSpec.ofChange shaWritesWrong)

/-- 'sphragislaw02.ShaFull': WHATEVER THE INPUT: true; the input reads as it did. -/
def shaFullSpec : ChangeSpec := { name := "shaFull", fn := fun _ => fun
  | [d] => { results := [.lit (.bool true)], args := [d] }
  | _ => none }
def shaFullRow : OpenClaim := { program := "ytfjkilgdfnnpiaadoor", sum := "edc6691991261f0a0e6ff6246b212deec03006d04573b24f1f51a387129067bb", func := "sphragis/sphragislaw02.ShaFull", spec := "shaFull", inPlace := ["internal/abi.NoEscape", "internal/bytealg.MakeNoZero"], unfollowed := true, recurses := true, named := ["sphragis/sha.first", "sphragis/sha.constants"], apart := false, laid := [("sphragis/sha.first", laid_sphragis_sha_first), ("sphragis/sha.constants", laid_sphragis_sha_constants)] }
def ShaFullSaid : Prop := shaFullRow.holds Tryd.pinned (OpenSpec.ofChange shaFullSpec)

/-- ITS FALSE NEIGHBOUR: 'it returns false'. Refute it at one input. -/
def shaFullWrong : ChangeSpec := { name := "shaFull", fn := fun _ => fun
  | [d] => { results := [.lit (.bool false)], args := [d] }
  | _ => none }
def ShaFullWrongFalsely : Prop := shaFullRow.holds Tryd.pinned (OpenSpec.ofChange shaFullWrong)

/-- 'sphragislaw02.ShaNone': WHATEVER THE INPUT: true; the input reads as it did. -/
def shaNoneSpec : ChangeSpec := { name := "shaNone", fn := fun _ => fun
  | [d] => { results := [.lit (.bool true)], args := [d] }
  | _ => none }
def shaNoneRow : OpenClaim := { program := "ytfjkilgdfnnpiaadoor", sum := "edc6691991261f0a0e6ff6246b212deec03006d04573b24f1f51a387129067bb", func := "sphragis/sphragislaw02.ShaNone", spec := "shaNone", inPlace := ["internal/abi.NoEscape", "internal/bytealg.MakeNoZero"], unfollowed := true, recurses := true, named := ["sphragis/sha.first", "sphragis/sha.constants"], apart := false, laid := [("sphragis/sha.first", laid_sphragis_sha_first), ("sphragis/sha.constants", laid_sphragis_sha_constants)] }
def ShaNoneSaid : Prop := shaNoneRow.holds Tryd.pinned (OpenSpec.ofChange shaNoneSpec)

/-- ITS FALSE NEIGHBOUR: 'it returns false'. Refute it at one input. -/
def shaNoneWrong : ChangeSpec := { name := "shaNone", fn := fun _ => fun
  | [d] => { results := [.lit (.bool false)], args := [d] }
  | _ => none }
def ShaNoneWrongFalsely : Prop := shaNoneRow.holds Tryd.pinned (OpenSpec.ofChange shaNoneWrong)

/- THE SECOND FORM. 'bulk': how many values and letters a reading holds, each counted each time it is reached (what is shared counts as often as it is met; a slice's spare places count too). A statement '..UptoSaid' is the law's where the arguments, and the package variables that the reading takes, are together of bulk at most 1048576: NARROWER than '..Said'. Prove '..Said' where nothing that the law and all that it calls make is longer than what came in: it says more and counts as full. Else prove '..UptoSaid'. A law counts once. -/
mutual
def uptoBulk {H : Type} : DataW H → Nat
  | .lit (.string bytes) => bytes.length + 1
  | .lit _ => 1
  | .nil => 1
  | .ptr d => uptoBulk d + 1
  | .slice elems spare => uptoBulkAll elems + uptoBulkAll spare + 1
  | .agg parts => uptoBulkAll parts + 1
  | .iface _ d => uptoBulk d + 1
  | .map entries => uptoBulkEntries entries + 1
  | .held _ => 1
def uptoBulkAll {H : Type} : List (DataW H) → Nat
  | [] => 0
  | d :: r => uptoBulk d + uptoBulkAll r
def uptoBulkEntries {H : Type} : List (Lit × DataW H) → Nat
  | [] => 0
  | x :: r => uptoBulkEntry x + uptoBulkEntries r
def uptoBulkEntry {H : Type} : Lit × DataW H → Nat
  | (.string bytes, d) => bytes.length + uptoBulk d + 1
  | (_, d) => uptoBulk d + 1
 end
def uptoSmall : (H : Type) → List (DataW H) → Bool := fun _ ds => decide (uptoBulkAll ds ≤ 1048576)
def OpenSpec.upto (s : _root_.Go.ChangeSpec) : _root_.Go.OpenSpec := { _root_.Go.OpenSpec.ofChange s with cond := some uptoSmall }

/-- 'sphragislaw02.ShaSums', WHERE WHAT IT READS IS OF BULK AT MOST 1048576: true; the input reads as it did. -/
def shaSumsUptoRow : OpenClaim := { program := "ytfjkilgdfnnpiaadoor", sum := "edc6691991261f0a0e6ff6246b212deec03006d04573b24f1f51a387129067bb", func := "sphragis/sphragislaw02.ShaSums", spec := "shaSums", inPlace := ["internal/abi.NoEscape", "internal/bytealg.MakeNoZero"], unfollowed := true, recurses := true, named := ["sphragis/sha.first", "sphragis/sha.constants", "sphragis/sphragisref02.table"], apart := false, laid := [("sphragis/sphragisref02.table", laid_sphragis_sphragisref02_table), ("sphragis/sha.first", laid_sphragis_sha_first), ("sphragis/sha.constants", laid_sphragis_sha_constants)], narrowed := true }
def ShaSumsUptoSaid : Prop := shaSumsUptoRow.holds Tryd.pinned (OpenSpec.upto shaSumsSpec)

/-- 'sphragislaw02.ShaLengths', WHERE WHAT IT READS IS OF BULK AT MOST 1048576: true; the input reads as it did. -/
def shaLengthsUptoRow : OpenClaim := { program := "ytfjkilgdfnnpiaadoor", sum := "edc6691991261f0a0e6ff6246b212deec03006d04573b24f1f51a387129067bb", func := "sphragis/sphragislaw02.ShaLengths", spec := "shaLengths", inPlace := ["internal/abi.NoEscape", "internal/bytealg.MakeNoZero"], unfollowed := true, recurses := true, named := ["sphragis/sha.first", "sphragis/sha.constants", "sphragis/sphragisref02.table"], apart := false, laid := [("sphragis/sphragisref02.table", laid_sphragis_sphragisref02_table), ("sphragis/sha.first", laid_sphragis_sha_first), ("sphragis/sha.constants", laid_sphragis_sha_constants)], narrowed := true }
def ShaLengthsUptoSaid : Prop := shaLengthsUptoRow.holds Tryd.pinned (OpenSpec.upto shaLengthsSpec)

/-- 'sphragislaw02.ShaAdds', WHERE WHAT IT READS IS OF BULK AT MOST 1048576: true; the input reads as it did. -/
def shaAddsUptoRow : OpenClaim := { program := "ytfjkilgdfnnpiaadoor", sum := "edc6691991261f0a0e6ff6246b212deec03006d04573b24f1f51a387129067bb", func := "sphragis/sphragislaw02.ShaAdds", spec := "shaAdds", inPlace := ["internal/abi.NoEscape", "internal/bytealg.MakeNoZero"], unfollowed := true, recurses := true, named := ["sphragis/sha.first", "sphragis/sha.constants", "sphragis/sphragisref02.table"], apart := false, laid := [("sphragis/sphragisref02.table", laid_sphragis_sphragisref02_table), ("sphragis/sha.first", laid_sphragis_sha_first), ("sphragis/sha.constants", laid_sphragis_sha_constants)], narrowed := true }
def ShaAddsUptoSaid : Prop := shaAddsUptoRow.holds Tryd.pinned (OpenSpec.upto shaAddsSpec)

/-- 'sphragislaw02.ShaCuts', WHERE WHAT IT READS IS OF BULK AT MOST 1048576: true; the input reads as it did. -/
def shaCutsUptoRow : OpenClaim := { program := "ytfjkilgdfnnpiaadoor", sum := "edc6691991261f0a0e6ff6246b212deec03006d04573b24f1f51a387129067bb", func := "sphragis/sphragislaw02.ShaCuts", spec := "shaCuts", inPlace := ["internal/abi.NoEscape", "internal/bytealg.MakeNoZero"], unfollowed := true, recurses := true, named := ["sphragis/sha.first", "sphragis/sha.constants"], apart := false, laid := [("sphragis/sha.first", laid_sphragis_sha_first), ("sphragis/sha.constants", laid_sphragis_sha_constants)], narrowed := true }
def ShaCutsUptoSaid : Prop := shaCutsUptoRow.holds Tryd.pinned (OpenSpec.upto shaCutsSpec)

/-- 'sphragislaw02.ShaWrites', WHERE WHAT IT READS IS OF BULK AT MOST 1048576: true; the input reads as it did. -/
def shaWritesUptoRow : OpenClaim := { program := "ytfjkilgdfnnpiaadoor", sum := "edc6691991261f0a0e6ff6246b212deec03006d04573b24f1f51a387129067bb", func := "sphragis/sphragislaw02.ShaWrites", spec := "shaWrites", inPlace := ["internal/abi.NoEscape", "internal/bytealg.MakeNoZero"], unfollowed := true, recurses := true, named := ["sphragis/sha.first", "sphragis/sha.constants", "sphragis/sphragisref02.table"], apart := false, laid := [("sphragis/sphragisref02.table", laid_sphragis_sphragisref02_table), ("sphragis/sha.first", laid_sphragis_sha_first), ("sphragis/sha.constants", laid_sphragis_sha_constants)], narrowed := true }
def ShaWritesUptoSaid : Prop := shaWritesUptoRow.holds Tryd.pinned (OpenSpec.upto shaWritesSpec)

/-- 'sphragislaw02.ShaFull', WHERE WHAT IT READS IS OF BULK AT MOST 1048576: true; the input reads as it did. -/
def shaFullUptoRow : OpenClaim := { program := "ytfjkilgdfnnpiaadoor", sum := "edc6691991261f0a0e6ff6246b212deec03006d04573b24f1f51a387129067bb", func := "sphragis/sphragislaw02.ShaFull", spec := "shaFull", inPlace := ["internal/abi.NoEscape", "internal/bytealg.MakeNoZero"], unfollowed := true, recurses := true, named := ["sphragis/sha.first", "sphragis/sha.constants"], apart := false, laid := [("sphragis/sha.first", laid_sphragis_sha_first), ("sphragis/sha.constants", laid_sphragis_sha_constants)], narrowed := true }
def ShaFullUptoSaid : Prop := shaFullUptoRow.holds Tryd.pinned (OpenSpec.upto shaFullSpec)

/-- 'sphragislaw02.ShaNone', WHERE WHAT IT READS IS OF BULK AT MOST 1048576: true; the input reads as it did. -/
def shaNoneUptoRow : OpenClaim := { program := "ytfjkilgdfnnpiaadoor", sum := "edc6691991261f0a0e6ff6246b212deec03006d04573b24f1f51a387129067bb", func := "sphragis/sphragislaw02.ShaNone", spec := "shaNone", inPlace := ["internal/abi.NoEscape", "internal/bytealg.MakeNoZero"], unfollowed := true, recurses := true, named := ["sphragis/sha.first", "sphragis/sha.constants"], apart := false, laid := [("sphragis/sha.first", laid_sphragis_sha_first), ("sphragis/sha.constants", laid_sphragis_sha_constants)], narrowed := true }
def ShaNoneUptoSaid : Prop := shaNoneUptoRow.holds Tryd.pinned (OpenSpec.upto shaNoneSpec)

end Rows
end Go.Proofs.YtfjkilgdfnnpiaaDoor
