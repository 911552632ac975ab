/- The law ArxTwice in plain Lean. -/
import Derived.Test.YtgckdmilgonnlaaP2
namespace Go.Proofs.Ytgckdmilgonnlaa.Pure
theorem ArxTwice : H.sphragislaw01_ArxTwice.Pure := H.ArxTwice
end Go.Proofs.Ytgckdmilgonnlaa.Pure
