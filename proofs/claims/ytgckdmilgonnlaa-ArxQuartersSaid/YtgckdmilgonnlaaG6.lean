/- The law of the quarter turn: the walk. -/
import Derived.Test.YtgckdmilgonnlaaG5
namespace Go.Proofs.Ytgckdmilgonnlaa.H
open Go.RowKit Go.Shelf Go.Proofs.YtgckdmilgonnlaaW.PrintWords Go.Proofs.YtgckdmilgonnlaaW.PrintLast Go.Proofs.YtgckdmilgonnlaaW.PrintMore Go.Proofs.Ytgckdmilgonnlaa.Le Go.Proofs.Ytgckdmilgonnlaa.RowOf
attribute [local go_sem] Oper.semAt_some
set_option linter.unusedVariables false
set_option linter.unusedSimpArgs false

def sphragislaw01_ArxQuarters.f (a b c d : Int) : Option Bool := some true

theorem agg4_lit (q : Q4) : ∃ x y z u, agg4 q = .agg #[.int .u32 x, .int .u32 y, .int .u32 z, .int .u32 u] := ⟨_, _, _, _, rfl⟩

set_option maxRecDepth 100000 in
set_option maxHeartbeats 2000000 in
theorem sphragislaw01_ArxQuarters.calls (a0 a1 a2 a3 : Int) (r : Bool) (w : World) (h : sphragislaw01_ArxQuarters.f a0 a1 a2 a3 = some r) :
    Calls Try.prog 3 #[.int .u32 a0, .int .u32 a1, .int .u32 a2, .int .u32 a3] w fun e w' => e = .returned (.bool r) ∧ Below w.heap.size w w' := by
  obtain rfl : true = r := Option.some.inj h
  clear h
  obtain ⟨x, y, z, u, hq⟩ := agg4_lit (quarter (a0, a1, a2, a3))
  have h1 := fun W => Quarter_calls a0 a1 a2 a3 W
  have h2 := fun W => refQuarter_calls a0 a1 a2 a3 W
  rw [hq] at h1 h2
  have H1 := Lib.hid h1
  have H2 := Lib.hid h2
  have he : ∀ W, (Op.equalIn 10000 24 (.agg #[.int .u32 x, .int .u32 y, .int .u32 z, .int .u32 u]) (.agg #[.int .u32 x, .int .u32 y, .int .u32 z, .int .u32 u])).run Try.prog W = .ok true W := fun W => eq4_run 9998 _ _ _ _ W
  clear hq h1 h2
  go_enter Try.func3, Try.ntmps3
  go_wp2_with (first | (go_at_call 10; refine (sphragislaw01_shown.calls true _ rfl).mono ?_; rintro e w1 ⟨rfl, hb1⟩) | (go_at_call 11; refine (H1.out _).mono ?_; rintro e w2 ⟨rfl, hb2⟩) | (go_at_call 12; refine (H2.out _).mono ?_; rintro e w3 ⟨rfl, hb3⟩))
  go_ret
  have s1 := hb1.size
  have s2 := hb2.size
  exact ⟨rfl, (hb1.trans (hb2.mono (by omega))).trans (hb3.mono (by omega))⟩

end Go.Proofs.Ytgckdmilgonnlaa.H
