/- The law PadBack in plain Lean. -/
import Derived.Test.YtnadbgcllejleaaP2
namespace Go.Proofs.Ytnadbgcllejleaa.Pure
theorem PadBack : H.sphragislaw05_PadBack.Pure := H.PadBack
end Go.Proofs.Ytnadbgcllejleaa.Pure
