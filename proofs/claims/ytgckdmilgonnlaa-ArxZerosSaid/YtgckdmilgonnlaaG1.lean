/- The quarter turn, of the program and of the reference: the walks. -/
import Derived.Test.YtgckdmilgonnlaaH1
import Derived.Test.YtgckdmilgonnlaaH1
import Derived.Test.YtgckdmilgonnlaaLe
import Derived.WalkKit
import Derived.Lib.Hide
import Derived.RangeFuncLeaves
import Derived.RangeFuncBox
import Derived.Laws.BitsAllLaws
namespace Go.Proofs.Ytgckdmilgonnlaa.H
open Go.RowKit Go.Proofs.YtgckdmilgonnlaaW.PrintWords Go.Proofs.YtgckdmilgonnlaaW.PrintLast Go.Proofs.YtgckdmilgonnlaaW.PrintMore Go.Proofs.Ytgckdmilgonnlaa.Le
set_option linter.unusedVariables false
set_option linter.unusedSimpArgs false

/-- A word, turned left. -/
def rotl (x : Int) (n : Nat) : Int := Go.bits .or .u32 (shl .u32 x (n : Int)) (shr .u32 x ((32 - n : Nat) : Int))

theorem rot_eq (x : Int) (n : Nat) (h : n = 16 ∨ n = 12 ∨ n = 8 ∨ n = 7) : bits_RotateLeft32.f x (n : Int) = some (rotl x n) := by
  obtain rfl | rfl | rfl | rfl := h
  all_goals rfl
theorem turned_eq (x : Int) (n : Nat) (h : n = 16 ∨ n = 12 ∨ n = 8 ∨ n = 7) : sphragisref01_turned.f x (n : Int) = some (rotl x n) := by
  have e : wrap64 (32 - (n : Int)) = ((32 - n : Nat) : Int) := by unfold wrap64; omega
  unfold sphragisref01_turned.f rotl
  rw [if_pos (by omega), e, if_pos (by omega)]

abbrev Q4 := Int × Int × Int × Int
/-- Half a quarter turn. -/
def half (n m : Nat) (q : Q4) : Q4 :=
  let a := (q.1 + q.2.1) % 4294967296
  let d := rotl (Go.bits .xor .u32 q.2.2.2 a) n
  let c := (q.2.2.1 + d) % 4294967296
  let b := rotl (Go.bits .xor .u32 q.2.1 c) m
  (a, b, c, d)
def quarter (q : Q4) : Q4 := half 8 7 (half 16 12 q)
def agg4 (q : Q4) : Value := .agg #[.int .u32 q.1, .int .u32 q.2.1, .int .u32 q.2.2.1, .int .u32 q.2.2.2]

theorem quarter_out (a b c d : Int) : quarter (a, b, c, d) = quarter (a, b, c, d) := rfl

/-- The four cells of a result. -/
def cells4 (q : Q4) : Obj := .cells #[.int .u32 q.1, .int .u32 q.2.1, .int .u32 q.2.2.1, .int .u32 q.2.2.2] 24 (0, 0)

theorem cells4_set {W : World} {B : Nat} {q : Q4} (h : W.heap[B]? = some (cells4 q)) (a b c d : Value) :
    ((((W.setCell ⟨B, 0, none⟩ a).setCell ⟨B, 1, none⟩ b).setCell ⟨B, 2, none⟩ c).setCell ⟨B, 3, none⟩ d).heap[B]? = some (.cells #[a, b, c, d] 24 (0, 0)) := by
  simp [World.setCell, Array.getElem?_modify, h, cells4]

set_option maxRecDepth 100000 in
set_option maxHeartbeats 2000000 in
theorem refQuarter_calls (a b c d : Int) (w : World) :
    Calls Try.prog 12 #[.int .u32 a, .int .u32 b, .int .u32 c, .int .u32 d] w fun e w' => e = .returned (agg4 (quarter (a, b, c, d))) ∧ Below w.heap.size w w' := by
  go_enter Try.func12, Try.ntmps12
  go_wp2_with (go_at_call 20; refine (sphragisref01_turned.calls _ _ _ _ (turned_eq _ _ (by decide))).mono ?_; rintro e w' ⟨rfl, nd, rfl⟩)
  refine bodyPost_ret (results_cell_row rfl _ _ w.heap.size 24 _ (0, 0) _ rfl (cells4_set (q := (0, 0, 0, 0)) ?_ _ _ _ _) Try.underlying24 rfl (by kernel_rfl)) rfl ⟨?_, ?_⟩
  · with_reducible repeat (first | refine blk_drewN ?_ _ | refine blk_drew ?_)
    exact World.alloc_heap_new w _
  · simp only [agg4, quarter, half, Int.emod_add_emod]
  · have HB := Below.refl w.heap.size w
    repeat (first | (with_reducible first | exact HB | apply below_alloc | apply pw_below_drewN | apply below_drew1 | refine below_set ?_ (Nat.le_refl _)) | exact HB)

theorem cells4_at {W : World} {B : Nat} {q : Q4} (h : W.heap[B]? = some (cells4 q)) :
    W.cell? ⟨B, 0, none⟩ = some (.int .u32 q.1) ∧ W.cell? ⟨B, 1, none⟩ = some (.int .u32 q.2.1) ∧ W.cell? ⟨B, 2, none⟩ = some (.int .u32 q.2.2.1) ∧ W.cell? ⟨B, 3, none⟩ = some (.int .u32 q.2.2.2) ∧ ∀ i, W.frozen? ⟨B, i, none⟩ = false := by
  refine ⟨?_, ?_, ?_, ?_, fun i => ?_⟩ <;> simp [World.cell?, World.frozen?, h, cells4]

theorem idx0 (W : World) : (Instr.index 40 (.agg #[.int .i64 16, .int .i64 12, .int .i64 8, .int .i64 7]) (.int .i64 0)).run Try.prog W = .ok (.agg #[.int .i64 16, .int .i64 12]) W := by kernel_rfl
theorem idx1 (W : World) : (Instr.index 40 (.agg #[.int .i64 16, .int .i64 12, .int .i64 8, .int .i64 7]) (.int .i64 1)).run Try.prog W = .ok (.agg #[.int .i64 8, .int .i64 7]) W := by kernel_rfl

set_option maxRecDepth 100000 in
set_option maxHeartbeats 2000000 in
theorem Quarter_calls (a b c d : Int) (w : World) :
    Calls Try.prog 11 #[.int .u32 a, .int .u32 b, .int .u32 c, .int .u32 d] w fun e w' => e = .returned (agg4 (quarter (a, b, c, d))) ∧ Below w.heap.size w w' := by
  go_enter Try.func11, Try.ntmps11
  go_wp2
  go_loopw [0, 1, 2, 3, 14] (fun va vb vc vd vi wr => ∃ (n : Nat) (q : Q4), vi = .int .i64 n ∧ n ≤ 2 ∧ va = .int .u32 q.1 ∧ vb = .int .u32 q.2.1 ∧ vc = .int .u32 q.2.2.1 ∧ vd = .int .u32 q.2.2.2 ∧
      (if n = 0 then quarter q else if n = 1 then half 8 7 q else q) = quarter (a, b, c, d) ∧ wr.heap[w.heap.size]? = some (cells4 (0, 0, 0, 0)) ∧ Below w.heap.size w wr)
    (fun _ _ _ _ vi _ => 2 - (intOf vi).toNat)
  case atStart => exact ⟨0, (a, b, c, d), rfl, by omega, rfl, rfl, rfl, rfl, rfl, World.alloc_heap_new w _, (Below.refl _ w).alloc (Nat.le_refl _) _⟩
  case round =>
    obtain ⟨n, q, rfl, hn, rfl, rfl, rfl, rfl, hq, hB, hb⟩ := hrel
    have hs := hb.size
    have hlt := (Array.getElem?_eq_some_iff.1 hB).1
    obtain rfl | rfl | rfl : n = 2 ∨ n = 0 ∨ n = 1 := by omega
    · simp only [show ¬ (2 : Nat) = 0 by decide, show ¬ (2 : Nat) = 1 by decide, if_false] at hq
      subst hq
      obtain ⟨c0, c1, c2, c3, cf⟩ := cells4_at hB
      go_wp2
      refine bodyPost_ret (results_cell_row rfl _ _ w.heap.size 24 _ (0, 0) _ rfl (cells4_set (q := (0, 0, 0, 0)) ?_ _ _ _ _) Try.underlying24 rfl (by kernel_rfl)) rfl ⟨?_, ?_⟩
      · with_reducible repeat (first | refine blk_drewN ?_ _ | refine blk_drew ?_)
        exact hB
      · rfl
      · have HB := hb
        repeat (first | (with_reducible first | exact HB | apply below_alloc | apply pw_below_drewN | apply below_drew1 | refine below_set ?_ (Nat.le_refl _)) | exact HB)
    · have hidx := idx0
      go_wp2_with (go_at_call 19; refine (bits_RotateLeft32.calls _ _ _ _ (rot_eq _ _ (by decide))).mono ?_; rintro e w' ⟨rfl, nd, rfl⟩)
      refine ⟨⟨1, half 16 12 q, rfl, by omega, rfl, rfl, rfl, rfl, hq, ?_, ?_⟩, by simp [intOf]⟩
      · with_reducible repeat (first | refine blk_drewN ?_ _ | refine blk_drew ?_)
        exact (Below.heap_alloc _ _ _ hlt).trans hB
      · have HB := hb
        repeat (first | (with_reducible first | exact HB | apply pw_below_drewN | apply below_drew1) | exact HB.alloc hs _)
    · have hidx := idx1
      go_wp2_with (go_at_call 19; refine (bits_RotateLeft32.calls _ _ _ _ (rot_eq _ _ (by decide))).mono ?_; rintro e w' ⟨rfl, nd, rfl⟩)
      refine ⟨⟨2, half 8 7 q, rfl, by omega, rfl, rfl, rfl, rfl, hq, ?_, ?_⟩, by simp [intOf]⟩
      · with_reducible repeat (first | refine blk_drewN ?_ _ | refine blk_drew ?_)
        exact (Below.heap_alloc _ _ _ hlt).trans hB
      · have HB := hb
        repeat (first | (with_reducible first | exact HB | apply pw_below_drewN | apply below_drew1) | exact HB.alloc hs _)

end Go.Proofs.Ytgckdmilgonnlaa.H
