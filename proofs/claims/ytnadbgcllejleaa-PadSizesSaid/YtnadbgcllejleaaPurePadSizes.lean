/- The law PadSizes in plain Lean. -/
import Derived.Test.YtnadbgcllejleaaP2
namespace Go.Proofs.Ytnadbgcllejleaa.Pure
theorem PadSizes : H.sphragislaw05_PadSizes.Pure := H.PadSizes
end Go.Proofs.Ytnadbgcllejleaa.Pure
