/- The walks of three laws of the roots, at every input. -/
import Derived.Test.YtfbfpjgnplhodaaP1
import Derived.WalkKit
import Derived.OpenShut
namespace Go.Proofs.Ytfbfpjgnplhodaa.H
open Go.RowKit Go.Proofs.YtfbfpjgnplhodaaW.PrintWords Go.Proofs.YtfbfpjgnplhodaaW.PrintLast Go.Proofs.YtfbfpjgnplhodaaW.PrintMore Go.Proofs.Ytfbfpjgnplhodaa.Le

theorem wf64 {x : Int} (h : (Lit.int .u64 x).wf = true) : 0 ≤ x ∧ x < 18446744073709551616 := by have := bounds_u64 h; omega
theorem wf32 {x : Int} (h : (Lit.int .u32 x).wf = true) : 0 ≤ x ∧ x < 4294967296 := by have := bounds_u32 h; omega

theorem RootBytes_walk (c g n p : Int) (tag : ByteArray) (hc : (Lit.int .u64 c).wf = true) (hg : (Lit.int .u32 g).wf = true) (hn : (Lit.int .u32 n).wf = true) (hp : (Lit.int .u32 p).wf = true) (_ : tag.size ≤ maxLen) (W : World) :
    Calls Try.prog 3 #[.agg #[.int .u64 c, .int .u32 g, .int .u32 n, .int .u32 p, .string tag]] W fun e W' => e = .returned (.bool true) ∧ Below W.heap.size W W' :=
  sphragislaw15_RootBytes.calls 20 c g n p tag true W (RootBytes c g n p tag (wf64 hc).1 (wf32 hg).1 (wf32 hn).1 (wf32 hp).1 (wf64 hc).2 (wf32 hg).2 (wf32 hn).2 (wf32 hp).2)

theorem RootNexts_walk (c g n p : Int) (tag : ByteArray) (hc : (Lit.int .u64 c).wf = true) (_ : (Lit.int .u32 g).wf = true) (_ : (Lit.int .i64 n).wf = true) (_ : (Lit.int .u32 p).wf = true) (_ : tag.size ≤ maxLen) (W : World) :
    Calls Try.prog 4 #[.int .u64 c, .int .u32 g, .int .i64 n, .agg #[.int .u32 p, .string tag]] W fun e W' => e = .returned (.bool true) ∧ Below W.heap.size W W' :=
  sphragislaw15_RootNexts.calls 20 c g n p tag true W (RootNexts c g n p tag (wf64 hc).1 (wf64 hc).2)

theorem RootApart_walk (c g n p : Int) (tag : ByteArray) (c' g' n' p' : Int) (tag' : ByteArray) (hc : (Lit.int .u64 c).wf = true) (hg : (Lit.int .u32 g).wf = true) (hn : (Lit.int .u32 n).wf = true) (hp : (Lit.int .u32 p).wf = true) (_ : tag.size ≤ maxLen)
    (hc' : (Lit.int .u64 c').wf = true) (hg' : (Lit.int .u32 g').wf = true) (hn' : (Lit.int .u32 n').wf = true) (hp' : (Lit.int .u32 p').wf = true) (_ : tag'.size ≤ maxLen) (W : World) :
    Calls Try.prog 6 #[.agg #[.int .u64 c, .int .u32 g, .int .u32 n, .int .u32 p, .string tag], .agg #[.int .u64 c', .int .u32 g', .int .u32 n', .int .u32 p', .string tag']] W fun e W' => e = .returned (.bool true) ∧ Below W.heap.size W W' :=
  sphragislaw15_RootApart.calls 20 c g n p tag c' g' n' p' tag' true W (RootApart c g n p c' g' n' p' tag tag' (wf64 hc).2 (wf32 hg).2 (wf32 hn).1 (wf32 hn).2 (wf32 hp).2 (wf64 hc').2 (wf32 hg').2 (wf32 hn').1 (wf32 hn').2 (wf32 hp').2)

end Go.Proofs.Ytfbfpjgnplhodaa.H
