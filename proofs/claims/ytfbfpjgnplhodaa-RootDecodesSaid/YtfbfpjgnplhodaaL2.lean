/- The walks of further laws of the roots, at every input. -/
import Derived.Test.YtfbfpjgnplhodaaP2
import Derived.Test.YtfbfpjgnplhodaaL1
set_option linter.unusedVariables false
namespace Go.Proofs.Ytfbfpjgnplhodaa.H
open Go.RowKit Go.Proofs.YtfbfpjgnplhodaaW.PrintWords Go.Proofs.YtfbfpjgnplhodaaW.PrintLast Go.Proofs.YtfbfpjgnplhodaaW.PrintMore Go.Proofs.Ytfbfpjgnplhodaa.Le

theorem RootEnds_walk (c g n p : Int) (tag : ByteArray) (at_ b : Int) (hc : (Lit.int .u64 c).wf = true) (hg : (Lit.int .u32 g).wf = true) (hn : (Lit.int .u32 n).wf = true) (hp : (Lit.int .u32 p).wf = true) (_ : tag.size ≤ maxLen) (_ : (Lit.int .i64 at_).wf = true) (_ : (Lit.int .u8 b).wf = true) (W : World) :
    Calls Try.prog 9 #[.agg #[.int .u64 c, .int .u32 g, .int .u32 n, .int .u32 p, .string tag], .int .i64 at_, .int .u8 b] W fun e W' => e = .returned (.bool true) ∧ Below W.heap.size W W' :=
  sphragislaw15_RootEnds.calls 20 c g n p tag at_ b true W (RootEnds c g n p tag at_ b (wf32 hn).1 (wf32 hg).2 (wf32 hp).2)

theorem RootTurns_walk (c g n p : Int) (tag : ByteArray) (g2 n2 p2 : Int) (tag2 : ByteArray) (hc : (Lit.int .u64 c).wf = true) (hg : (Lit.int .u32 g).wf = true) (hn : (Lit.int .u32 n).wf = true) (hp : (Lit.int .u32 p).wf = true) (_ : tag.size ≤ maxLen) (_ : (Lit.int .u32 g2).wf = true) (_ : (Lit.int .i64 n2).wf = true) (_ : (Lit.int .u32 p2).wf = true) (_ : tag2.size ≤ maxLen) (W : World) :
    Calls Try.prog 5 #[.agg #[.int .u64 c, .int .u32 g, .int .u32 n, .int .u32 p, .string tag], .int .u32 g2, .int .i64 n2, .agg #[.int .u32 p2, .string tag2]] W fun e W' => e = .returned (.bool true) ∧ Below W.heap.size W W' :=
  sphragislaw15_RootTurns.calls 20 c g n p tag g2 n2 p2 tag2 true W (RootTurns c g n p tag g2 n2 p2 tag2 (wf64 hc).1 (wf64 hc).2)

theorem RootDecodes_walk (s : ByteArray) (hs : s.size ≤ 140737488351232) (W : World) :
    Calls Try.prog 7 #[.string s] W fun e W' => e = .returned (.bool true) ∧ Below W.heap.size W W' :=
  sphragislaw15_RootDecodes.calls 20 s true W (RootDecodes s hs)

end Go.Proofs.Ytfbfpjgnplhodaa.H
