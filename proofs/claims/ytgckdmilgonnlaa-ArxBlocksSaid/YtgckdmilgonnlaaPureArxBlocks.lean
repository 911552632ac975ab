/- The law ArxBlocks in plain Lean. -/
import Derived.Test.YtgckdmilgonnlaaP2
namespace Go.Proofs.Ytgckdmilgonnlaa.Pure
theorem ArxBlocks : H.sphragislaw01_ArxBlocks.Pure := H.ArxBlocks
end Go.Proofs.Ytgckdmilgonnlaa.Pure
