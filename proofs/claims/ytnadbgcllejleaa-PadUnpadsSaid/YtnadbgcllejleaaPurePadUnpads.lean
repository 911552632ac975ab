/- The law PadUnpads in plain Lean. -/
import Derived.Test.YtnadbgcllejleaaP2
namespace Go.Proofs.Ytnadbgcllejleaa.Pure
theorem PadUnpads : H.sphragislaw05_PadUnpads.Pure := H.PadUnpads
end Go.Proofs.Ytnadbgcllejleaa.Pure
