/- The law PadTurns in plain Lean. -/
import Derived.Test.YtnadbgcllejleaaP2
namespace Go.Proofs.Ytnadbgcllejleaa.Pure
theorem PadTurns : H.sphragislaw05_PadTurns.Pure := H.PadTurns
end Go.Proofs.Ytnadbgcllejleaa.Pure
