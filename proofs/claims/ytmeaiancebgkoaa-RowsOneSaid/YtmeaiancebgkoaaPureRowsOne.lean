/- RowsOne in plain Lean. -/
import Derived.Test.YtmeaiancebgkoaaQ2
namespace Go.Proofs.Ytmeaiancebgkoaa.Pure
open Go.Proofs.Ytmeaiancebgkoaa.H
theorem RowsOne : sphragislaw10_RowsOne.Pure := fun a0 _ => ⟨20, RowsOne_f a0⟩
end Go.Proofs.Ytmeaiancebgkoaa.Pure
