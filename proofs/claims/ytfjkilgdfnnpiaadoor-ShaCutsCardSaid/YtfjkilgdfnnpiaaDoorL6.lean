/- ShaCuts, every input: the walk. -/
import Derived.Test.YtfjkilgdfnnpiaaDoorL5
namespace Go.Proofs.YtfjkilgdfnnpiaaDoor.H
open Go.RowKit Go.Shelf Go.Proofs.YtfjkilgdfnnpiaaDoorW.PrintWords Go.Proofs.YtfjkilgdfnnpiaaDoorW.PrintLast Go.Proofs.YtfjkilgdfnnpiaaDoorW.PrintMore Go.Proofs.YtfjkilgdfnnpiaaDoor.Plain Go.Proofs.YtfjkilgdfnnpiaaDoor.RowOf Go.Proofs.YtfjkilgdfnnpiaaDoor.Le
attribute [local go_sem] Oper.semAt_some min2_int min_two
set_option linter.unusedVariables false
set_option linter.unusedSimpArgs false

set_option maxRecDepth 100000 in
theorem ShaCuts_out (X s : ByteArray) (a b : Int) (hsX : ((s.size : Int) ≤ 5000 ∧ s.extract 0 s.size = X) ∨ (5000 < (s.size : Int) ∧ s.extract 0 5000 = X)) (hout : a < 0 ∨ (¬ a < 0 ∧ b < a) ∨ (¬ a < 0 ∧ ¬ b < a ∧ (X.size : Int) < b)) (w : World) (hT : Tabs w Kc Fc) :
    Calls Tryd.prog 6 #[.string s, .int .i64 a, .int .i64 b] w fun e w' => e = .returned (.bool true) ∧ Below w.heap.size w w' := by
  go_enter Tryd.func6, Tryd.ntmps6
  go_wp2_with fail
  refine (shown_calls _ hT).mono ?_
  rintro e w1 ⟨rfl, hb1⟩
  rcases hsX with ⟨h5, hX⟩ | ⟨h5, hX⟩
  all_goals
    first
      | (have q1 : (s.size : Int) ≤ (s.size : Int) := by omega
         have q2 : (0 : Int) ≤ (s.size : Int) := by omega
         have q3 : (5000 : Int) ≤ (s.size : Int) := by omega)
      | skip
    rcases hout with h | ⟨h1, h2⟩ | ⟨h1, h2, h3⟩
    · have d1 : decide (a < 0) = true := decide_eq_true (by omega)
      go_wp2_with fail
      go_ret
      exact ⟨rfl, hb1⟩
    · have d1 : decide (a < 0) = false := decide_eq_false (by omega)
      have d2 : decide (b < a) = true := decide_eq_true (by omega)
      go_wp2_with fail
      go_ret
      exact ⟨rfl, hb1⟩
    · have d1 : decide (a < 0) = false := decide_eq_false (by omega)
      have d2 : decide (b < a) = false := decide_eq_false (by omega)
      have d3 : decide ((X.size : Int) < b) = true := decide_eq_true (by omega)
      go_wp2_with fail
      go_ret
      exact ⟨rfl, hb1⟩

theorem ShaCuts_walk (s : ByteArray) (a b : Int) (w : World) (hT : Tabs w Kc Fc) (hs : s.size ≤ 140737488351232) (ha : (Lit.int .i64 a).wf = true) (hb : (Lit.int .i64 b).wf = true) :
    Calls Tryd.prog 6 #[.string s, .int .i64 a, .int .i64 b] w fun e w' => e = .returned (.bool true) ∧ Below w.heap.size w w' := by
  obtain ⟨X, hsX, hX5⟩ : ∃ X : ByteArray, (((s.size : Int) ≤ 5000 ∧ s.extract 0 s.size = X) ∨ (5000 < (s.size : Int) ∧ s.extract 0 5000 = X)) ∧ X.size ≤ 5000 := by
    by_cases h : (s.size : Int) ≤ 5000
    · exact ⟨_, .inl ⟨h, rfl⟩, by rw [ByteArray.size_extract]; omega⟩
    · exact ⟨_, .inr ⟨by omega, rfl⟩, by rw [ByteArray.size_extract]; omega⟩
  by_cases hin : 0 ≤ a ∧ a ≤ b ∧ b ≤ (X.size : Int)
  · obtain ⟨h1, h2, h3⟩ := hin
    obtain ⟨i, rfl⟩ : ∃ i : Nat, a = (i : Int) := ⟨a.toNat, by omega⟩
    obtain ⟨k, rfl⟩ : ∃ k : Nat, b = (k : Int) := ⟨b.toNat, by omega⟩
    exact ShaCuts_in X s i k hX5 (by omega) (by omega) hsX w hT
  · exact ShaCuts_out X s a b hsX (by omega) w hT

end Go.Proofs.YtfjkilgdfnnpiaaDoor.H
