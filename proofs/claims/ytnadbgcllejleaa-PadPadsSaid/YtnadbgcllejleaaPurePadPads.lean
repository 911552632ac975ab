/- The law PadPads in plain Lean. -/
import Derived.Test.YtnadbgcllejleaaP1
namespace Go.Proofs.Ytnadbgcllejleaa.Pure
theorem PadPads : H.sphragislaw05_PadPads.Pure := H.PadPads
end Go.Proofs.Ytnadbgcllejleaa.Pure
