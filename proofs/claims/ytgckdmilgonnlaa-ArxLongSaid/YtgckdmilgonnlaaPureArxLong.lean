/- The law ArxLong in plain Lean. -/
import Derived.Test.YtgckdmilgonnlaaP2
namespace Go.Proofs.Ytgckdmilgonnlaa.Pure
theorem ArxLong : H.sphragislaw01_ArxLong.Pure := H.ArxLong
end Go.Proofs.Ytgckdmilgonnlaa.Pure
