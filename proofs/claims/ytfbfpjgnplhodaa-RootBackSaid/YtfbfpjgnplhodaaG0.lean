/- sphragisref07.Filled, of a text of at most 256 bytes: the text, and bytes 0 up to 256. -/
import Derived.Test.YtfbfpjgnplhodaaH4
import Derived.Lib.Hide
namespace Go.Proofs.Ytfbfpjgnplhodaa.H
open Go.RowKit Go.Proofs.YtfbfpjgnplhodaaW.PrintWords Go.Proofs.YtfbfpjgnplhodaaW.PrintLast Go.Proofs.YtfbfpjgnplhodaaW.PrintMore
attribute [local go_sem] max2_int min2_int max_two min_two

def sphragisref07_Filled.f (a0 : ByteArray) : Option ByteArray :=
  if a0.size ≤ 256 then (sphragisref07_Zeros.f (256 - (a0.size : Int))).bind fun t => if t.size ≤ 256 then some (a0 ++ t) else none else none

set_option maxHeartbeats 400000 in
theorem sphragisref07_Filled.calls (a0 : ByteArray) (r : ByteArray) (w : World) (h : sphragisref07_Filled.f a0 = some r) :
    Calls Try.prog 20 #[.string a0] w fun e w' => e = .returned (.string r) ∧ Below w.heap.size w w' := by
  unfold sphragisref07_Filled.f at h
  split at h
  · rename_i hs
    obtain ⟨t, hz, ht⟩ := Option.bind_eq_some_iff.mp h
    split at ht
    · rename_i hts
      obtain rfl := Option.some.inj ht
      have HZ := Lib.hid hz
      clear hz h
      have hn : ¬ (256 : Int) < (a0.size : Int) := by omega
      have h63 : a0.size + t.size ≤ 9223372036854775807 := by omega
      go_enter Try.func20, Try.ntmps20
      go_wp2_with fail
      refine (sphragisref07_Zeros.calls _ _ _ HZ.out).mono ?_
      rintro e w' ⟨rfl, hb⟩
      go_wp2
      go_ret
      exact ⟨rfl, hb⟩
    · cases ht
  · cases h

end Go.Proofs.Ytfbfpjgnplhodaa.H
