/- The words' turns: the walks. -/
import Derived.Test.YtmkeiaomclpdfaaDoorH1
import Derived.Test.YtmkeiaomclpdfaaDoorH1
import Derived.Test.YtmkeiaomclpdfaaDoorP1
import Derived.WalkKit
import Derived.Lib.Hide
namespace Go.Proofs.YtmkeiaomclpdfaaDoor.H
open Go.RowKit Go.Proofs.YtmkeiaomclpdfaaDoorW.PrintWords Go.Proofs.YtmkeiaomclpdfaaDoorW.PrintLast Go.Proofs.YtmkeiaomclpdfaaDoorW.PrintMore Go.Proofs.YtmkeiaomclpdfaaDoor.Plain
set_option linter.unusedVariables false
set_option linter.unusedSimpArgs false

/-- How far a word is turned. -/
def turns : List Nat := [2, 6, 7, 11, 13, 17, 18, 19, 22, 25]
theorem rot_eq (x : Int) (n : Nat) (h : n ∈ turns) : bits_RotateLeft32.f x (-(n : Int)) = some (rotr x n) := by
  unfold rotr
  rw [Plain.or_comm]
  simp only [turns, List.mem_cons, List.not_mem_nil, or_false] at h
  rcases h with rfl | rfl | rfl | rfl | rfl | rfl | rfl | rfl | rfl | rfl
  all_goals rfl
theorem turned_eq (x : Int) (n : Nat) (h : n ∈ turns) : sphragisref02_turned.f x (n : Int) = some (rotr x n) := by
  have hn : n ≤ 25 := by
    simp only [turns, List.mem_cons, List.not_mem_nil, or_false] at h
    omega
  have e : wrap64 (32 - (n : Int)) = ((32 - n : Nat) : Int) := by unfold wrap64; omega
  unfold sphragisref02_turned.f rotr
  rw [if_pos (by omega), e, if_pos (by omega)]
theorem turn_calls (x : Int) (n : Nat) (h : n ∈ turns) (w : World) :
    Calls Tryd.prog 47 #[.int .u32 x, .int .i64 (n : Int)] w fun e w' => e = .returned (.int .u32 (rotr x n)) ∧ Drawn0 w w' := by
  have hn : n ≤ 25 := by
    simp only [turns, List.mem_cons, List.not_mem_nil, or_false] at h
    omega
  have hw : IntKind.i64.wrap (-(n : Int)) = -(n : Int) := by rw [i64_w]; unfold wrap64; omega
  have hr := rot_eq x n h
  have Hr := Lib.hid hr
  clear hr h hn
  go_enter Tryd.func47, Tryd.ntmps47
  go_wp2_with fail
  refine (bits_RotateLeft32.calls x (-(n : Int)) (rotr x n) _ Hr.out).mono ?_
  rintro e w' ⟨rfl, nd, rfl⟩
  go_wp2
  go_ret
  first | exact ⟨rfl, _, rfl⟩ | exact ⟨rfl, _, World.drewN_drewN _ _ _⟩

theorem turned_calls (x : Int) (n : Nat) (h : n ∈ turns) (w : World) :
    Calls Tryd.prog 44 #[.int .u32 x, .int .i64 (n : Int)] w fun e w' => e = .returned (.int .u32 (rotr x n)) ∧ Drawn0 w w' :=
  sphragisref02_turned.calls _ _ _ _ (turned_eq _ _ h)

end Go.Proofs.YtmkeiaomclpdfaaDoor.H
