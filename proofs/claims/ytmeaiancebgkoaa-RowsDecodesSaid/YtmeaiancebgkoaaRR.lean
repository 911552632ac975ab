/- strings.Repeat: the shelf's contract in the print's form; at most 2^47 bytes. -/
import Derived.Test.YtmeaiancebgkoaaH0
import Derived.Test.YtmeaiancebgkoaaShelf
import Derived.Shelf.Strings.Repeat
namespace Go.Proofs.Ytmeaiancebgkoaa.H
open Go.RowKit Go.Proofs.YtmeaiancebgkoaaW.PrintWords Go.Proofs.YtmeaiancebgkoaaW.PrintLast Go.Proofs.YtmeaiancebgkoaaW.PrintMore

def strings_Repeat.f (s : ByteArray) (c : Int) : Option ByteArray :=
  if 0 ≤ c ∧ c ≤ 9223372036854775807 ∧ s.size * c.toNat ≤ 140737488355328 then some ⟨(Lib.repeatL s.data.toList c.toNat).toArray⟩ else none

theorem strings_Repeat.calls (a0 : ByteArray) (a1 : Int) (r : ByteArray) (w : World) (h : strings_Repeat.f a0 a1 = some r) :
    Calls Try.prog 44 #[.string a0, .int .i64 a1] w fun e w' => e = .returned (.string r) ∧ Below w.heap.size w w' := by
  unfold strings_Repeat.f at h
  split at h
  · rename_i hb
    obtain rfl := Option.some.inj h
    have := Try.strings_Repeat a0 a1.toNat w (by omega) hb.2.2
    rwa [Int.toNat_of_nonneg hb.1] at this
  · cases h

end Go.Proofs.Ytmeaiancebgkoaa.H
