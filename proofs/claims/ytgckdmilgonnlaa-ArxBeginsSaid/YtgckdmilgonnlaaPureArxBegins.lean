/- The law ArxBegins in plain Lean. -/
import Derived.Test.YtgckdmilgonnlaaP3
namespace Go.Proofs.Ytgckdmilgonnlaa.Pure
theorem ArxBegins : H.sphragislaw01_ArxBegins.Pure := H.ArxBegins
end Go.Proofs.Ytgckdmilgonnlaa.Pure
