/- The law ArxXors in plain Lean. -/
import Derived.Test.YtgckdmilgonnlaaP2
namespace Go.Proofs.Ytgckdmilgonnlaa.Pure
theorem ArxXors : H.sphragislaw01_ArxXors.Pure := H.ArxXors
end Go.Proofs.Ytgckdmilgonnlaa.Pure
