/- The law ArxZeros in plain Lean. -/
import Derived.Test.YtgckdmilgonnlaaP3
namespace Go.Proofs.Ytgckdmilgonnlaa.Pure
theorem ArxZeros : H.sphragislaw01_ArxZeros.Pure := H.ArxZeros
end Go.Proofs.Ytgckdmilgonnlaa.Pure
