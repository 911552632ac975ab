/- The law PadWhole in plain Lean. -/
import Derived.Test.YtnadbgcllejleaaP3
namespace Go.Proofs.Ytnadbgcllejleaa.Pure
theorem PadWhole : H.sphragislaw05_PadWhole.Pure := H.PadWhole
end Go.Proofs.Ytnadbgcllejleaa.Pure
