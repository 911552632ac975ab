/- The law PadCuts in plain Lean. -/
import Derived.Test.YtnadbgcllejleaaP3
namespace Go.Proofs.Ytnadbgcllejleaa.Pure
theorem PadCuts : H.sphragislaw05_PadCuts.Pure := H.PadCuts
end Go.Proofs.Ytnadbgcllejleaa.Pure
